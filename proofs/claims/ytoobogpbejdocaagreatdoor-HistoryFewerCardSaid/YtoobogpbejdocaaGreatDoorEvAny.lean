import Derived.Test.YtoobogpbejdocaaGreatDoorEvSeq
set_option linter.unusedVariables false
set_option linter.unusedSectionVars false
set_option linter.unusedSimpArgs false
namespace Go.Proofs.YtoobogpbejdocaaGreatDoor.Ev
def clash : Cl → Cl → Bool
  | .p, _ => false
  | _, .p => false
  | .rd, .rd => false
  | .rd, .rc => false
  | .rc, .rd => false
  | .rc, .rc => false
  | .rd, .a => false
  | .a, .rd => false
  | .rb, .g => true
  | .g, .rb => true
  | .rb, _ => false
  | _, .rb => false
  | _, _ => true
def Cl.wr : Cl → Bool
  | .a => true
  | .g => true
  | .ap => true
  | _ => false
def outB (F : List FO) (t : Nat) : Bool := F.all fun g => !(g.d == some t)
theorem outB_iff {F : List FO} {t : Nat} : outB F t = true ↔ ∀ g, g ∈ F → g.d ≠ some t := by
  simp only [outB, List.all_eq_true, Bool.not_eq_true', beq_eq_false_iff_ne]
def faOf : FO → Option Nat
  | ⟨_, .prim (.fa _ (.t r)), none⟩ => some r
  | ⟨_, .primr (.fa _ (.t r)) _, none⟩ => some r
  | _ => none
def rootB (F R : List FO) (u : Nat) (ex : List Nat) : Bool := (ex.contains u && outB F u) || R.any fun g => g.d == some u && (match faOf g with | some r => ex.contains r && outB F r | none => false)
def exS (F R : List FO) (p p' : Prim) (ex' : List Nat) : Bool := (match p.cl with | .rd => true | _ => false) && ((match p' with | .store _ _ _ => true | _ => false) && (match p.rdo with | .t u => rootB F R u ex' | _ => false))
def exB (F R : List FO) : Bod → Bod → Bool
  | .primr p ex, .prim (.store _ (.t t) _) => (match p.cl with | .rd => true | _ => false) && ex.contains t && F.all fun g => !(g.d == some t)
  | .prim (.store _ (.t t) _), .primr p ex => (match p.cl with | .rd => true | _ => false) && ex.contains t && F.all fun g => !(g.d == some t)
  | .primr p ex, .primr p' ex' => exS F R p p' ex' || exS F R p' p ex
  | _, _ => false
theorem exS_rd {F R : List FO} {p p' : Prim} {ex' : List Nat} (h : exS F R p p' ex' = true) : p.cl = .rd ∧ (∃ k x y, p' = .store k x y) ∧ ∃ u, p.rdo = .t u ∧ rootB F R u ex' = true := by
  simp only [exS, Bool.and_eq_true] at h
  obtain ⟨h1, h2, h3⟩ := h
  refine ⟨?_, ?_, ?_⟩
  · split at h1
    · assumption
    · cases h1
  · split at h2
    · exact ⟨_, _, _, rfl⟩
    · cases h2
  · split at h3
    · rename_i u hu
      exact ⟨u, hu, h3⟩
    · cases h3
theorem primr_wr {p : Prim} {ex : List Nat} (h : (Bod.primr p ex).cl.wr = true) : p.cl ≠ .rd := fun hc => by simp only [Bod.cl, hc, Cl.wr] at h; cases h
theorem exB_wr {F R : List FO} {a b : Bod} (ha : a.cl.wr = true) (hb : b.cl.wr = true) : exB F R a b = false := by
  unfold exB
  split
  · rename_i p ex k t x
    cases hc : p.cl <;> first | rfl | (simp only [Bod.cl, hc, Cl.wr] at ha; cases ha)
  · rename_i k t x p ex
    cases hc : p.cl <;> first | rfl | (simp only [Bod.cl, hc, Cl.wr] at hb; cases hb)
  · rename_i p ex p' ex'
    cases h1 : exS F R p p' ex' with
    | true => exact absurd (exS_rd h1).1 (primr_wr ha)
    | false => cases h2 : exS F R p' p ex with
      | true => exact absurd (exS_rd h2).1 (primr_wr hb)
      | false => rfl
  · rfl
theorem exB_not {F R : List FO} {a b : Bod} (h1 : ∀ p ex, a ≠ .primr p ex) (h2 : ∀ k p x, a ≠ .prim (.store k p x)) : exB F R a b = false ∧ exB F R b a = false := by
  constructor
  · unfold exB
    split
    · exact absurd rfl (h1 _ _)
    · exact absurd rfl (h2 _ _ _)
    · exact absurd rfl (h1 _ _)
    · rfl
  · unfold exB
    split
    · exact absurd rfl (h2 _ _ _)
    · exact absurd rfl (h1 _ _)
    · exact absurd rfl (h1 _ _)
    · rfl
theorem rootB_mono {F R R' : List FO} {u : Nat} {ex : List Nat} (hR : ∀ g, g ∈ R → g ∈ R') (h : rootB F R u ex = true) : rootB F R' u ex = true := by
  simp only [rootB, Bool.or_eq_true, List.any_eq_true] at h ⊢
  rcases h with h | ⟨g, h1, h2⟩
  · exact .inl h
  · exact .inr ⟨g, hR g h1, h2⟩
theorem exS_mono {F R R' : List FO} {p p' : Prim} {ex' : List Nat} (hR : ∀ g, g ∈ R → g ∈ R') (h : exS F R p p' ex' = true) : exS F R' p p' ex' = true := by
  obtain ⟨h1, ⟨k, x, y, rfl⟩, u, h3, h4⟩ := exS_rd h
  simp only [exS, h1, h3, rootB_mono hR h4, Bool.and_self]
theorem exB_mono {F R R' : List FO} (hR : ∀ g, g ∈ R → g ∈ R') {a b : Bod} (h : exB F R a b = true) : exB F R' a b = true := by
  unfold exB at h ⊢
  split at h
  · exact h
  · exact h
  · simp only [Bool.or_eq_true] at h ⊢
    exact h.elim (fun h => .inl (exS_mono hR h)) fun h => .inr (exS_mono hR h)
  · cases h
theorem exB_iff {F R : List FO} {p : Prim} {ex : List Nat} {b : Bod} (hp : p.cl = .rd) : (exB F R (.primr p ex) b = true ∨ exB F R b (.primr p ex) = true) → (∃ k t x, b = .prim (.store k (.t t) x) ∧ t ∈ ex ∧ ∀ (g : FO), g ∈ F → g.d ≠ some t) ∨
    ∃ k x y ex' u, b = .primr (.store k x y) ex' ∧ p.rdo = .t u ∧ rootB F R u ex' = true := by
  have aux : ∀ {p' : Prim} {ex' : List Nat}, (exS F R p p' ex' = true ∨ exS F R p' p ex = true) → ∃ k x y ex'' u, Bod.primr p' ex' = .primr (.store k x y) ex'' ∧ p.rdo = .t u ∧ rootB F R u ex'' = true := by
    intro p' ex' h
    rcases h with h | h
    · obtain ⟨_, ⟨k, x, y, rfl⟩, u, h3, h4⟩ := exS_rd h
      exact ⟨k, x, y, ex', u, rfl, h3, h4⟩
    · obtain ⟨_, ⟨k, x, y, rfl⟩, _⟩ := exS_rd h
      cases hp
  rintro (h | h)
  · unfold exB at h
    split at h
    · rename_i he1
      cases he1
      simp only [Bool.and_eq_true, List.contains_eq_mem, decide_eq_true_eq, List.all_eq_true, Bool.not_eq_true', beq_eq_false_iff_ne] at h
      exact .inl ⟨_, _, _, rfl, h.1.2, h.2⟩
    · rename_i he1; cases he1
    · rename_i he1
      cases he1
      simp only [Bool.or_eq_true] at h
      exact .inr (aux h)
    · cases h
  · unfold exB at h
    split at h
    · rename_i he1; cases he1
    · rename_i he1
      cases he1
      simp only [Bool.and_eq_true, List.contains_eq_mem, decide_eq_true_eq, List.all_eq_true, Bool.not_eq_true', beq_eq_false_iff_ne] at h
      exact .inl ⟨_, _, _, rfl, h.1.2, h.2⟩
    · rename_i he1
      cases he1
      simp only [Bool.or_eq_true] at h
      exact .inr (aux h.symm)
    · cases h
structure PairOK (ops : Array Oper) (F : List FO) (M : List (List Nat)) (p q : Nat) : Prop where
  lt : p < q
  pw : ∃ f, F[p]? = some f ∧ f.b.cl.wr = true
  al : ∃ o t z d, ops[q]? = some o ∧ o.op = .alloc t ∧ F[q]? = some ⟨some d, .prim (.alloc z), none⟩
  edg : ∀ (i : Nat) (o : Oper), i ≠ p → i ≠ q → ops[i]? = some o → (∃ x ∈ o.after, Region.binds .any x = true ∧ x.on = q) → p ∈ M.getD i []
  trans : ∀ i, i ≠ p → i ≠ q → q ∈ M.getD i [] → p ∈ M.getD i []
  pq : q ∉ M.getD p []
  nw : ∀ (j : Nat) (g : FO), p < j → j < q → F[j]? = some g → g.b.cl.wr = false
structure AnyOK (ops : Array Oper) (F : List FO) (M : List (List Nat)) (pq : Option (Nat × Nat)) : Prop where
  len : ops.size = F.length
  m : ∀ i j : Nat, j ∈ M.getD i [] → ∃ o, ops[i]? = some o ∧ ∃ x ∈ o.after, Region.binds .any x = true ∧ (j = x.on ∨ j ∈ M.getD x.on [])
  back : ∀ (i : Nat) (o : Oper), ops[i]? = some o → ∀ x ∈ o.after, Region.binds .any x = true → x.on < i
  ssa : ∀ (i j : Nat) (f g : FO) (d : Nat), F[i]? = some f → F[j]? = some g → f.d = some d → g.d = some d → i = j
  use : ∀ (i j : Nat) (f g : FO) (t : Nat), F[i]? = some f → t ∈ f.tmps → F[j]? = some g → g.d = some t → (j < i ∧ j ∈ M.getD i []) ∨ (i < j ∧ i ∈ M.getD j [])
  ord : ∀ (i j : Nat) (f g : FO), i < j → F[i]? = some f → F[j]? = some g → clash f.b.cl g.b.cl = true → i ∈ M.getD j [] ∨ exB F (F.take i) f.b g.b = true ∨ pq = some (i, j)
  pr : ∀ p q, pq = some (p, q) → PairOK ops F M p q
section
variable {G : Nat → Option (List AV)} {raw : Raw} {bases : List Nat}
theorem runs_states : ∀ (F : List FO) (e : Env) (st : Store) (e' : Env) (st' : Store), FO.runs G raw bases F e st = some (e', st') →
    ∃ s : Nat → Env × Store, s 0 = (e, st) ∧ s F.length = (e', st') ∧ ∀ (i : Nat) (f : FO), F[i]? = some f → ∃ r, f.run G raw bases (s i).1 (s i).2 = some (r, (s (i + 1)).2) ∧ (s (i + 1)).1 = Env.put (s i).1 f.d r
  | [], e, st, e', st', h => by
    simp only [FO.runs, Option.some.injEq, Prod.mk.injEq] at h
    obtain ⟨rfl, rfl⟩ := h
    exact ⟨fun _ => (e, st), rfl, rfl, fun i f h => by simp at h⟩
  | f :: F, e, st, e', st', h => by
    simp only [FO.runs] at h
    cases k1 : f.run G raw bases e st with
    | none => rw [k1] at h; cases h
    | some z =>
      obtain ⟨r, st1⟩ := z
      rw [k1] at h
      dsimp only at h
      obtain ⟨s, h0, h1, h2⟩ := runs_states F _ _ _ _ h
      refine ⟨fun i => match i with | 0 => (e, st) | i + 1 => s i, rfl, h1, ?_⟩
      intro i g hg
      cases i with
      | zero =>
        simp only [List.getElem?_cons_zero, Option.some.injEq] at hg
        subst hg
        refine ⟨r, ?_, ?_⟩
        · show FO.run G raw bases e st f = some (r, (s 0).2)
          rw [k1, h0]
        · show (s 0).1 = _
          rw [h0]
      | succ i =>
        simp only [List.getElem?_cons_succ] at hg
        exact h2 i g hg
theorem get_filter (k : Nat → Bool) : ∀ (e : Env) (t : Nat), Env.get (e.filter fun p => k p.1) t = if k t = true then e.get t else none
  | [], t => by simp [Env.get]
  | (i, a) :: e, t => by
    have ih := get_filter k e t
    simp only [List.filter_cons]
    by_cases hk : k i = true
    · simp only [hk, if_true, Env.get, ih]
      by_cases hi : i = t
      · subst hi; simp [hk]
      · simp [hi]
    · simp only [hk, if_false, ih, Env.get, Bool.false_eq_true]
      by_cases hi : i = t
      · subst hi; simp [hk]
      · simp [hi]
theorem get_put {e : Env} {d : Option Nat} {r : AV} {t : Nat} : (Env.put e d r).get t = if d = some t then some r else e.get t := by
  cases d with
  | none => simp [Env.put]
  | some d => simp [Env.put, Env.get]
def okT (F : List FO) (listed : Array Bool) (t : Nat) : Bool :=
  (List.range F.length).all fun j => match F[j]? with
    | some f => if f.d = some t then listed.getD j false else true
    | none => true
theorem okT_iff {F : List FO} {listed : Array Bool} {t : Nat} : okT F listed t = true ↔ ∀ (j : Nat) (f : FO), F[j]? = some f → f.d = some t → listed.getD j false = true := by
  unfold okT
  simp only [List.all_eq_true, List.mem_range]
  constructor
  · intro h j f hf hd
    have := h j (List.getElem?_eq_some_iff.1 hf).1
    rw [hf] at this
    simpa [hd] using this
  · intro h j hj
    cases hf : F[j]? with
    | none => rfl
    | some f =>
      dsimp only
      split
      · rename_i hd
        exact h j f hf hd
      · rfl
def noT (F : List FO) (listed : Array Bool) (t : Nat) : Bool :=
  (List.range F.length).all fun j => match F[j]? with
    | some f => if f.d = some t then !listed.getD j false else true
    | none => true
theorem noT_iff {F : List FO} {listed : Array Bool} {t : Nat} : noT F listed t = true ↔ ∀ (j : Nat) (f : FO), F[j]? = some f → f.d = some t → listed.getD j false = false := by
  unfold noT
  simp only [List.all_eq_true, List.mem_range]
  constructor
  · intro h j f hf hd
    have := h j (List.getElem?_eq_some_iff.1 hf).1
    rw [hf] at this
    simpa [hd] using this
  · intro h j hj
    cases hf : F[j]? with
    | none => rfl
    | some f =>
      dsimp only
      split
      · rename_i hd
        rw [h j f hf hd]; rfl
      · rfl
theorem get_append : ∀ (a b : Env) (t : Nat), Env.get (a ++ b) t = match a.get t with | some v => some v | none => b.get t
  | [], b, t => rfl
  | (i, x) :: a, b, t => by
    simp only [List.cons_append, Env.get]
    by_cases hi : i = t
    · simp only [hi, if_true]
    · simp only [hi, if_false]; exact get_append a b t
def eL (F : List FO) (s : Nat → Env × Store) (listed : Array Bool) : Env := ((s F.length).1.filter fun p => okT F listed p.1) ++ ((s 0).1.filter fun p => noT F listed p.1)
theorem eL_get {F : List FO} {s : Nat → Env × Store} {listed : Array Bool} {t : Nat} : (eL F s listed).get t = match (if okT F listed t = true then (s F.length).1.get t else none) with | some v => some v | none => if noT F listed t = true then (s 0).1.get t else none := by
  unfold eL
  rw [get_append, get_filter (okT F listed), get_filter (noT F listed)]
def eH (h : Option Nat) (F : List FO) (s : Nat → Env × Store) (listed : Array Bool) : Env := (eL F s listed).filter fun x => !(h == some x.1)
theorem eH_get {h : Option Nat} {F : List FO} {s : Nat → Env × Store} {listed : Array Bool} {t : Nat} : (eH h F s listed).get t = if h = some t then none else (eL F s listed).get t := by
  unfold eH
  rw [get_filter (fun i => !(h == some i))]
  by_cases hq : h = some t <;> simp [hq]
theorem eH_none {F : List FO} {s : Nat → Env × Store} {listed : Array Bool} {t : Nat} : (eH none F s listed).get t = (eL F s listed).get t := by
  rw [eH_get, if_neg (by simp)]
def left (n : Nat) (listed : Array Bool) : Nat := ((List.range n).filter fun j => !listed.getD j true).length
theorem filter_lt {α : Type} {p q : α → Bool} : ∀ {l : List α} {x : α}, (∀ y, p y = true → q y = true) → x ∈ l → q x = true → p x = false → (l.filter p).length < (l.filter q).length
  | [], x, _, hx, _, _ => by cases hx
  | y :: l, x, h, hx, hq, hp => by
    have hle : (l.filter p).length ≤ (l.filter q).length := by
      clear hx
      induction l with
      | nil => simp
      | cons z l ih =>
        simp only [List.filter_cons]
        cases hz : p z
        · simp only [Bool.false_eq_true, if_false]
          split
          · simp only [List.length_cons]; omega
          · exact ih
        · rw [h z hz]; simp only [if_true, List.length_cons]; omega
    simp only [List.filter_cons]
    rcases List.mem_cons.1 hx with rfl | hx
    · rw [hp, hq]; simp only [Bool.false_eq_true, if_false, if_true, List.length_cons]; omega
    · have ih := filter_lt h hx hq hp
      cases hz : p y
      · simp only [Bool.false_eq_true, if_false]
        split
        · simp only [List.length_cons]; omega
        · exact ih
      · rw [h y hz]; simp only [if_true, List.length_cons]; omega
theorem left_set {n i : Nat} {listed : Array Bool} (hi : i < n) (hu : listed.getD i true = false) : left n (listed.setIfInBounds i true) < left n listed := by
  refine filter_lt (x := i) ?_ (List.mem_range.2 hi) (by simp only [hu, Bool.not_false]) ?_
  · intro j hj
    by_cases hij : i = j
    · subst hij; rw [hu]; rfl
    · rw [getD_set_ne true hij] at hj; exact hj
  · have : i < listed.size := by
      rcases Nat.lt_or_ge i listed.size with h | h
      · exact h
      · simp [Array.getElem?_eq_none h] at hu
    simp [this]
end
section
variable {ρ : Option Nat} {P : Program} {G : Nat → Option (List AV)} {raw : Raw} {bases : List Nat} {ops : Array Oper} {N : Nat}
theorem VR_found {C : Ctx} {x : AV} {c : Value} (h : VR C x c) {id : Nat} (hid : x.id? = some id) : ∃ ob, C.st[id]? = some ob := by
  cases x <;> simp only [AV.id?, Option.some.injEq] at hid <;> first | (cases hid; done) | subst hid
  · simp only [VR] at h
    obtain ⟨_, e, g, xs, nw, h1, _⟩ := h
    exact ⟨_, h1⟩
  · simp only [VR] at h
    rcases h with ⟨cs, b, h1, _⟩ | ⟨_, e, g, xs, nw, h1, _⟩
    · exact ⟨_, h1⟩
    · exact ⟨_, h1⟩
  · simp only [VR] at h
    obtain ⟨es, b, o, h1, _⟩ := h
    exact ⟨_, h1⟩
  · simp only [VR] at h
    obtain ⟨s, p, b, o, h1, _⟩ := h
    exact ⟨_, h1⟩
  · simp only [VR] at h
    obtain ⟨kk, env, s, b, o, h1, _⟩ := h
    exact ⟨_, h1⟩
theorem cl_rdo {p : Prim} (hc : p.cl = .rd) {k : AV} (hk : p.rdo = .c k) : k.id? = none := by
  have key : ∀ {x : Opd}, rdc x = .rd → x = .c k → k.id? = none := by
    intro x h1 h2
    subst h2
    simp only [rdc] at h1
    split at h1
    · cases h1
    · rename_i h3
      cases h4 : k.id? with
      | none => rfl
      | some _ => rw [h4] at h3; exact absurd rfl h3
  cases p <;> simp only [Prim.cl] at hc <;> simp only [Prim.rdo] at hk <;> first | (cases hk; done) | (cases hc; done) | exact key hc hk | (split at hc <;> cases hc)
theorem Opd_found {C : Ctx} {e : Env} {a : Act} (hE : EnvR C e a) {x : Opd} {v : AV} (h : x.ev G e = some v) (hx : ∀ k, x = .c k → k.id? = none) {id : Nat} (hi : v.id? = some id) : ∃ ob, C.st[id]? = some ob := by
  cases x with
  | t n => obtain ⟨c, _, h2⟩ := hE n v h; exact VR_found h2 hi
  | c k =>
    simp only [Opd.ev, Option.some.injEq] at h
    subst h
    rw [hx k rfl] at hi; cases hi
  | g n =>
    simp only [Opd.ev] at h
    split at h
    · cases h; cases hi
    · cases h
  | f n => simp only [Opd.ev, Option.some.injEq] at h; subst h; cases hi
structure AInv (F : List FO) (M : List (List Nat)) (s : Nat → Env × Store) (C0 : Ctx) (N : Nat) (a0 : Act) (h : Option Nat) (listed : Array Bool) (a : Act) (w : World) : Prop where
  sz : listed.size = F.length
  cl : ∀ i j : Nat, listed.getD i false = true → j ∈ M.getD i [] → listed.getD j false = true
  ex : ∃ (C : Ctx) (m : Nat), C.w = w ∧ Ext C0 C ∧ C.OK ∧ C.st = (s m).2 ∧ m ≤ F.length ∧ (∀ (j : Nat) (f : FO), F[j]? = some f → f.b.cl.wr = true → (listed.getD j false = true ↔ j < m)) ∧
    EnvR C (eH h F s listed) a
  tm : a.tmps.size = N
  df : a.defers = a0.defers
theorem getD_set {listed : Array Bool} {i j : Nat} (h : i < listed.size) : (listed.setIfInBounds i true).getD j false = true ↔ j = i ∨ listed.getD j false = true := by
  by_cases hij : i = j
  · subst hij; simp [h]
  · rw [getD_set_ne false hij]
    constructor
    · exact .inr
    · rintro (h | h)
      · exact absurd h.symm hij
      · exact h
theorem prim_rb (p : Prim) : p.cl ≠ .rb := by
  intro h
  cases p <;> simp only [Prim.cl] at h <;> (first | (cases h; done) | (split at h <;> cases h; done) | (rename_i x; rcases rdc_or x with q | q <;> rw [q] at h <;> cases h; done) | (rename_i x _; rcases rdc_or x with q | q <;> rw [q] at h <;> cases h; done) | (rename_i x _ _; rcases rdc_or x with q | q <;> rw [q] at h <;> cases h; done))
theorem run_store {f : FO} {e : Env} {st st' : Store} {r : AV} (h : f.run G raw bases e st = some (r, st')) (hw : f.b.cl.wr = false) : st' = st := by
  unfold FO.run at h
  split at h
  · cases hb : f.b with
    | prim p =>
      rw [hb] at h hw
      cases hc : p.cl with
      | p => exact (cl_p hc h).1
      | rd => exact (cl_rd (st2 := st) hc h (fun v _ id ob _ hk => hk)).1
      | rc => exact cl_rc (b := .prim p) (raw := raw) (by exact hc) h
      | a => simp only [Bod.cl, hc] at hw; cases hw
      | g => simp only [Bod.cl, hc] at hw; cases hw
      | ap => simp only [Bod.cl, hc] at hw; cases hw
      | rb => exact absurd hc (prim_rb p)
    | primr p ex =>
      rw [hb] at h hw
      have hc : (Bod.primr p ex).cl = .rb := by simp only [Bod.cl] at hw ⊢; split at hw <;> first | rfl | (cases hw; done)
      exact (primr_rb hc h).1
    | call m g args =>
      rw [hb] at h hw
      cases m <;> simp only [Bod.cl] at hw <;> try (cases hw)
      · exact cl_rc (by rfl) h
      · exact (callQ_p h).1
  · simp only [Option.some.injEq, Prod.mk.injEq] at h; exact h.2.symm
  · cases h
theorem run_app {f : FO} {e : Env} {st st' : Store} {r : AV} (h : f.run G raw bases e st = some (r, st')) (hw : f.b.cl ≠ .g) (hw2 : f.b.cl ≠ .ap) : ∃ l, st' = st ++ l := by
  by_cases h2 : f.b.cl.wr = true
  · unfold FO.run at h
    split at h
    · cases hb : f.b with
      | prim p =>
        rw [hb] at h hw hw2 h2
        simp only [Bod.cl] at h2 hw hw2
        cases hc : p.cl <;> simp only [hc, Cl.wr] at h2 hw hw2 <;> first | (cases h2; done) | exact cl_a hc h | exact absurd rfl hw | exact absurd rfl hw2
      | primr p ex =>
        rw [hb] at hw h2
        simp only [Bod.cl] at hw h2
        split at h2
        · cases h2
        · rename_i hq; exact absurd (by split <;> first | (rename_i h3; exact absurd h3 hq) | rfl) hw
      | call m g args =>
        rw [hb] at h hw h2 hw2
        cases m <;> simp only [Bod.cl, Cl.wr] at h2 hw hw2 <;> first | (cases h2; done) | exact absurd rfl hw | exact absurd rfl hw2
    · simp only [Option.some.injEq, Prod.mk.injEq] at h; exact ⟨[], by simp [h.2]⟩
    · cases h
  · exact ⟨[], by rw [run_store h (by simpa using h2)]; simp⟩
theorem run_box {f : FO} {e : Env} {st st' : Store} {r : AV} (h : f.run G raw bases e st = some (r, st')) (hw : f.b.cl ≠ .g) : BoxLe st st' := by
  by_cases h2 : f.b.cl = .ap
  · unfold FO.run at h
    split at h
    · cases hb : f.b with
      | prim p =>
        rw [hb] at h h2
        exact cl_ap (by exact h2) h
      | primr p ex =>
        rw [hb] at h2
        simp only [Bod.cl] at h2
        split at h2 <;> cases h2
      | call m g args =>
        rw [hb] at h h2
        cases m with
        | A =>
          obtain ⟨l, rfl⟩ := callA_app h
          exact BoxLe.app _ _
        | B => exact callB_box h
        | _ => simp only [Bod.cl] at h2; cases h2
    · simp only [Option.some.injEq, Prod.mk.injEq] at h; rw [h.2]; exact BoxLe.refl _
    · cases h
  · obtain ⟨l, rfl⟩ := run_app h hw h2
    exact BoxLe.app _ _
def BoxAt (id : Nat) (st st2 : Store) : Prop := st.length ≤ st2.length ∧ (id < st.length → ∀ cs, st2[id]? = some (.box cs) ↔ st[id]? = some (.box cs))
theorem BoxAt.refl (id : Nat) (st : Store) : BoxAt id st st := ⟨Nat.le_refl _, fun _ _ => Iff.rfl⟩
theorem BoxAt.trans {id : Nat} {a b c : Store} (h : BoxAt id a b) (k : BoxAt id b c) : BoxAt id a c := ⟨Nat.le_trans h.1 k.1, fun hid cs => (k.2 (Nat.lt_of_lt_of_le hid h.1) cs).trans (h.2 hid cs)⟩
theorem BoxLe.at {st st2 : Store} (h : BoxLe st st2) (id : Nat) : BoxAt id st st2 := ⟨h.1, fun hid cs => h.2 id hid cs⟩
theorem stAt_other {st st1 : Store} {n id : Nat} {l : List AV} {w : AV} (h : stAt bases st n l w = some st1) (hid : ∀ j, w.id? = some j → id ≠ j) : st1.length = st.length ∧ st1[id]? = st[id]? := by
  cases w <;> simp only [stAt] at h <;> try (cases h; done)
  rename_i j g i off
  have hne := hid j rfl
  have hset : ∀ ob : Ob, (st.set j ob).length = st.length ∧ (st.set j ob)[id]? = st[id]? := fun ob => ⟨by simp, by rw [List.getElem?_set_ne (Ne.symm hne)]⟩
  split at h
  · split at h
    · split at h
      · cases h; exact hset _
      · cases h
    · split at h
      · split at h
        · split at h
          · cases h; exact hset _
          · cases h
        · cases h
      · cases h
    · cases h
  · cases h
theorem store_keep {e : Env} {st st1 : Store} {k t id : Nat} {x : Opd} {v a : AV} (h : (Bod.prim (.store k (.t t) x)).ev G raw bases e st = some (a, st1)) (hid : v.id? = some id) (hx : exA v (e.get t) = true) : BoxAt id st st1 := by
  simp only [Bod.ev, Prim.ev, Opd.ev] at h
  split at h
  · rename_i w hw
    unfold exA at hx
    rw [hid, hw] at hx
    dsimp only at hx
    split at h
    · rename_i b hb
      split at h
      · cases h
      · split at h
        · rename_i st' hst
          cases h
          have key := stAt_other (id := id) hst (fun j hj => by rw [hj] at hx; simpa using hx)
          exact ⟨by rw [key.1]; exact Nat.le_refl _, fun _ cs => by rw [key.2]⟩
        · cases h
    · cases h
  · cases h
section
variable {F : List FO} {M : List (List Nat)} {s : Nat → Env × Store} {e : Env} {st : Store} {e' : Env} {st' : Store}
theorem st_boxat {id : Nat} (hs : ∀ (i : Nat) (f : FO), F[i]? = some f → ∃ r, f.run G raw bases (s i).1 (s i).2 = some (r, (s (i + 1)).2) ∧ (s (i + 1)).1 = Env.put (s i).1 f.d r)
    {i : Nat} : ∀ k : Nat, i + k ≤ F.length → (∀ (j : Nat) (f : FO), i ≤ j → j < i + k → F[j]? = some f → ∀ r, f.run G raw bases (s j).1 (s j).2 = some (r, (s (j + 1)).2) → BoxAt id (s j).2 (s (j + 1)).2) → BoxAt id (s i).2 (s (i + k)).2
  | 0, _, _ => BoxAt.refl _ _
  | k + 1, hk, h => by
    have ih := st_boxat hs k (by omega) (fun j f h1 h2 h3 => h j f h1 (by omega) h3)
    have hlt : i + k < F.length := by omega
    have hf : F[i + k]? = some F[i + k] := List.getElem?_eq_getElem hlt
    obtain ⟨r, h1, _⟩ := hs (i + k) _ hf
    exact ih.trans (h (i + k) _ (by omega) (by omega) hf r h1)
theorem st_eq (hs : ∀ (i : Nat) (f : FO), F[i]? = some f → ∃ r, f.run G raw bases (s i).1 (s i).2 = some (r, (s (i + 1)).2) ∧ (s (i + 1)).1 = Env.put (s i).1 f.d r)
    {i : Nat} : ∀ k : Nat, i + k ≤ F.length → (∀ (j : Nat) (f : FO), i ≤ j → j < i + k → F[j]? = some f → f.b.cl.wr = false) → (s (i + k)).2 = (s i).2
  | 0, _, _ => rfl
  | k + 1, hk, h => by
    have ih := st_eq hs k (by omega) (fun j f h1 h2 h3 => h j f h1 (by omega) h3)
    have hlt : i + k < F.length := by omega
    have hf : F[i + k]? = some F[i + k] := List.getElem?_eq_getElem hlt
    obtain ⟨r, h1, _⟩ := hs (i + k) _ hf
    rw [← ih]
    exact run_store h1 (h (i + k) _ (by omega) (by omega) hf)
theorem st_app (hs : ∀ (i : Nat) (f : FO), F[i]? = some f → ∃ r, f.run G raw bases (s i).1 (s i).2 = some (r, (s (i + 1)).2) ∧ (s (i + 1)).1 = Env.put (s i).1 f.d r)
    {i : Nat} : ∀ k : Nat, i + k ≤ F.length → (∀ (j : Nat) (f : FO), i ≤ j → j < i + k → F[j]? = some f → f.b.cl ≠ .g ∧ f.b.cl ≠ .ap) → ∃ l, (s (i + k)).2 = (s i).2 ++ l
  | 0, _, _ => ⟨[], by simp⟩
  | k + 1, hk, h => by
    obtain ⟨l, ih⟩ := st_app hs k (by omega) (fun j f h1 h2 h3 => h j f h1 (by omega) h3)
    have hlt : i + k < F.length := by omega
    have hf : F[i + k]? = some F[i + k] := List.getElem?_eq_getElem hlt
    obtain ⟨r, h1, _⟩ := hs (i + k) _ hf
    obtain ⟨l2, h2⟩ := run_app h1 (h (i + k) _ (by omega) (by omega) hf).1 (h (i + k) _ (by omega) (by omega) hf).2
    exact ⟨l ++ l2, by rw [show i + (k + 1) = i + k + 1 by omega, h2, ih, List.append_assoc]⟩
theorem env_eq (hs : ∀ (i : Nat) (f : FO), F[i]? = some f → ∃ r, f.run G raw bases (s i).1 (s i).2 = some (r, (s (i + 1)).2) ∧ (s (i + 1)).1 = Env.put (s i).1 f.d r)
    {i t : Nat} : ∀ k : Nat, i + k ≤ F.length → (∀ (j : Nat) (f : FO), i ≤ j → j < i + k → F[j]? = some f → f.d ≠ some t) → (s (i + k)).1.get t = (s i).1.get t
  | 0, _, _ => rfl
  | k + 1, hk, h => by
    have ih := env_eq hs k (by omega) (fun j f h1 h2 h3 => h j f h1 (by omega) h3)
    have hlt : i + k < F.length := by omega
    have hf : F[i + k]? = some F[i + k] := List.getElem?_eq_getElem hlt
    obtain ⟨r, _, h1⟩ := hs (i + k) _ hf
    rw [← ih, show i + (k + 1) = i + k + 1 by omega, h1, get_put, if_neg (h (i + k) _ (by omega) (by omega) hf)]
end
section
variable {G : Nat → Option (List AV)} {raw : Raw} {bases : List Nat} {F : List FO} {s : Nat → Env × Store}
theorem store_keep2 {e : Env} {st st1 : Store} {k r0 id : Nat} {x y : Opd} {ex : List Nat} {w0 a : AV} (h : (Bod.primr (.store k x y) ex).ev G raw bases e st = some (a, st1)) (hr : r0 ∈ ex) (hw : e.get r0 = some w0) (hid : w0.id? = some id) : BoxAt id st st1 := by
  simp only [Bod.ev, Prim.rdo] at h
  split at h
  rotate_left
  · cases h
  rename_i w hwx
  split at h
  rotate_left
  · cases h
  rename_i hq
  simp only [Bool.and_eq_true] at hq
  have hx := List.all_eq_true.1 hq.2 r0 hr
  rw [hw] at hx
  simp only [Prim.ev, hwx] at h
  split at h
  · split at h
    · cases h
    · split at h
      · rename_i st' hst
        cases h
        have key := stAt_other (id := id) hst (fun j hj => by
          unfold exA at hx
          rw [hj] at hx
          dsimp only at hx
          rw [hid] at hx
          intro hh
          subst hh
          simp at hx)
        exact ⟨by rw [key.1]; exact Nat.le_refl _, fun _ cs => by rw [key.2]⟩
      · cases h
  · cases h
theorem fa_id {e : Env} {st : Store} {o r : Nat} {v : AV} {st1 : Store} (h : Prim.ev G bases e st (.fa o (.t r)) = some (v, st1)) : ∃ w, e.get r = some w ∧ w.id? = v.id? := by
  simp only [Prim.ev, Opd.ev] at h
  split at h
  · rename_i cs hr
    cases h
    exact ⟨_, hr, rfl⟩
  · rename_i id g i o' hr
    split at h
    · cases h
      exact ⟨_, hr, rfl⟩
    · cases h
  · cases h
theorem root_id (hs : ∀ (i : Nat) (f : FO), F[i]? = some f → ∃ r, f.run G raw bases (s i).1 (s i).2 = some (r, (s (i + 1)).2) ∧ (s (i + 1)).1 = Env.put (s i).1 f.d r)
    (hssa : ∀ (i j : Nat) (f g : FO) (d : Nat), F[i]? = some f → F[j]? = some g → f.d = some d → g.d = some d → i = j) {i u : Nat} (hi : i ≤ F.length) {ex : List Nat} {v : AV} (h : rootB F (F.take i) u ex = true) (hv : (s i).1.get u = some v) :
    ∃ r0 w0, r0 ∈ ex ∧ (∀ g, g ∈ F → g.d ≠ some r0) ∧ (s i).1.get r0 = some w0 ∧ w0.id? = v.id? := by
  simp only [rootB, Bool.or_eq_true, Bool.and_eq_true, List.any_eq_true, List.contains_eq_mem, decide_eq_true_eq, outB_iff] at h
  rcases h with ⟨h1, h2⟩ | ⟨g, h1, h2, h3⟩
  · exact ⟨u, v, h1, h2, hv, rfl⟩
  · split at h3
    rotate_left
    · cases h3
    rename_i r hfa
    simp only [Bool.and_eq_true, List.contains_eq_mem, decide_eq_true_eq, outB_iff] at h3
    obtain ⟨h3, h4⟩ := h3
    have hd : g.d = some u := by simpa using h2
    obtain ⟨k, hk⟩ := List.getElem?_of_mem h1
    have hki : k < i := by
      have := (List.getElem?_eq_some_iff.1 hk).1
      simp only [List.length_take] at this; omega
    rw [List.getElem?_take, if_pos hki] at hk
    obtain ⟨rr, hrun, hput⟩ := hs k g hk
    have e1 := env_eq (t := u) (i := k + 1) hs (i - (k + 1)) (by omega) (fun q g' q1 q2 h5 hd' => by
      have := hssa k q g g' u hk h5 hd hd'
      omega)
    rw [show k + 1 + (i - (k + 1)) = i by omega, hput, hd, get_put, if_pos rfl, hv] at e1
    have hrr : v = rr := Option.some.inj e1
    subst hrr
    have e2 := env_eq (t := r) (i := k) hs (i - k) (by omega) (fun q g' _ _ h5 hd' => h4 g' (List.mem_of_getElem? h5) hd')
    rw [show k + (i - k) = i by omega] at e2
    obtain ⟨w, w1, w2⟩ : ∃ w, (s k).1.get r = some w ∧ w.id? = v.id? := by
      unfold faOf at hfa
      split at hfa
      · cases hfa
        exact fa_id (bases := bases) hrun
      · cases hfa
        simp only [FO.run, FO.want, Bod.ev] at hrun
        split at hrun
        · split at hrun
          · exact fa_id (bases := bases) hrun
          · cases hrun
        · cases hrun
      · cases hfa
    exact ⟨r, w, h3, h4, by rw [e2]; exact w1, w2⟩
end
theorem any_step {F : List FO} {M : List (List Nat)} {s : Nat → Env × Store} {pq : Option (Nat × Nat)} (hA : AnyOK ops F M pq) (hR : ∀ (i : Nat) (o : Oper) (f : FO), ops[i]? = some o → F[i]? = some f → OpR ρ P G raw bases ops N o f)
    (hs : ∀ (i : Nat) (f : FO), F[i]? = some f → ∃ r, f.run G raw bases (s i).1 (s i).2 = some (r, (s (i + 1)).2) ∧ (s (i + 1)).1 = Env.put (s i).1 f.d r)
    {C0 : Ctx} (hg : GlobR C0 G) {a0 : Act} {h0 : Option Nat} {listed : Array Bool} {a : Act} {w : World} (hI : AInv F M s C0 N a0 h0 listed a w) {i : Nat} {o : Oper} {f : FO} (ho : ops[i]? = some o) (hf : F[i]? = some f)
    (hu : listed.getD i true = false) (hr : ∀ x ∈ o.after, Region.binds .any x = true → listed.getD x.on false = true)
    (hh : ∀ t, h0 = some t → t ∉ f.tmps ∧ f.d ≠ some t) (hpq : ∀ p, pq = some (p, i) → listed.getD p false = true)
    {Q : Exit → Act → World → Prop} {K : Act → World → Prop} (hK : ∀ a' w', (∀ t, f.d ≠ some t → a'.tmps[t]? = a.tmps[t]?) → AInv F M s C0 N a0 h0 (listed.setIfInBounds i true) a' w' → K a' w') : wpOpIn (FW ρ) 0 P ops Q i K a w := by
  obtain ⟨hsz, hcl, ⟨C, m, rfl, hx, hO, hst, hm, hwr, hE⟩, htm, hdf⟩ := hI
  have hRi := hR i o f ho hf
  have hin : i < F.length := (List.getElem?_eq_some_iff.1 hf).1
  have hu' : listed.getD i false = false := by
    have h1 : i < listed.size := by omega
    simp only [Array.getD, h1, dif_pos] at hu ⊢
    exact hu
  have hpre : ∀ j : Nat, j ∈ M.getD i [] → listed.getD j false = true := by
    intro j hj
    obtain ⟨o', h1, x, h2, h3, h4⟩ := hA.m i j hj
    rw [ho] at h1; cases h1
    rcases h4 with rfl | h4
    · exact hr x h2 h3
    · exact hcl _ _ (hr x h2 h3) h4
  obtain ⟨r, hrun, hput⟩ := hs i f hf
  have hops : ∀ t, t ∈ f.tmps → (s i).1.get t = (eH h0 F s listed).get t := by
    intro t ht
    rw [eH_get, if_neg (fun hq => (hh t hq).1 ht), eL_get]
    by_cases hw : ∃ (j : Nat) (g : FO), F[j]? = some g ∧ g.d = some t
    · obtain ⟨j, g, hj, hd⟩ := hw
      have huniq : ∀ (k : Nat) (g' : FO), F[k]? = some g' → g'.d = some t → k = j := fun k g' h1 h2 => hA.ssa k j g' g t h1 hj h2 hd
      rcases hA.use i j f g t hf ht hj hd with ⟨h1, h2⟩ | ⟨h1, h2⟩
      · have hjl := hpre j h2
        have hok : okT F listed t = true := okT_iff.2 fun k g' h3 h4 => by rw [huniq k g' h3 h4]; exact hjl
        have hno : ¬ noT F listed t = true := fun h => by have := noT_iff.1 h j g hj hd; rw [hjl] at this; cases this
        rw [if_pos hok, if_neg hno]
        have := env_eq (t := t) (i := i) hs (F.length - i) (by omega) (fun k g' h3 h4 h5 hd' => by have := huniq k g' h5 hd'; omega)
        rw [show i + (F.length - i) = F.length by omega] at this
        rw [this]
        cases (s i).1.get t <;> rfl
      · have hjl : listed.getD j false = false := by
          cases h3 : listed.getD j false with
          | false => rfl
          | true => have := hcl j i h3 h2; rw [hu'] at this; cases this
        have hok : ¬ okT F listed t = true := fun h => by have := okT_iff.1 h j g hj hd; rw [hjl] at this; cases this
        have hno : noT F listed t = true := noT_iff.2 fun k g' h3 h4 => by rw [huniq k g' h3 h4]; exact hjl
        rw [if_neg hok, if_pos hno]
        have := env_eq (t := t) (i := 0) hs i (by omega) (fun k g' h3 h4 h5 hd' => by have := huniq k g' h5 hd'; omega)
        rw [Nat.zero_add] at this
        exact this
    · have hnone : ∀ (k : Nat) (g' : FO), F[k]? = some g' → g'.d ≠ some t := fun k g' h1 h2 => hw ⟨k, g', h1, h2⟩
      have hok : okT F listed t = true := okT_iff.2 fun k g' h3 h4 => absurd h4 (hnone k g' h3)
      have hno : noT F listed t = true := noT_iff.2 fun k g' h3 h4 => absurd h4 (hnone k g' h3)
      rw [if_pos hok, if_pos hno]
      have h1 := env_eq (t := t) (i := i) hs (F.length - i) (by omega) (fun k g' _ _ h5 hd' => hnone k g' h5 hd')
      have h2 := env_eq (t := t) (i := 0) hs i (by omega) (fun k g' _ _ h5 hd' => hnone k g' h5 hd')
      rw [show i + (F.length - i) = F.length by omega] at h1
      rw [Nat.zero_add] at h2
      rw [h1, ← h2]
      cases (s i).1.get t <;> rfl
  rw [FO.congr hops] at hrun
  have hlater : ∀ (j : Nat) (g : FO), i < j → F[j]? = some g → clash f.b.cl g.b.cl = true → exB F (F.take i) f.b g.b = false → listed.getD j false = false := by
    intro j g h1 h2 h3 h3x
    cases h4 : listed.getD j false with
    | false => rfl
    | true =>
      rcases hA.ord i j f g h1 hf h2 h3 with k1 | k1 | k1
      · have := hcl j i h4 k1
        rw [hu'] at this; cases this
      · rw [h3x] at k1; cases k1
      · obtain ⟨f', hf', hw'⟩ := (hA.pr i j k1).pw
        obtain ⟨_, _, _, _, _, _, hq'⟩ := (hA.pr i j k1).al
        rw [hf] at hf'; cases hf'
        have h6 := hwr i f hf hw'
        have h7 := (hwr j _ hq' rfl).1 h4
        have := h6.2 (by omega)
        rw [hu'] at this; cases this
  have hearly : ∀ (j : Nat) (g : FO), j < i → F[j]? = some g → clash g.b.cl f.b.cl = true → exB F (F.take j) g.b f.b = false → listed.getD j false = true := fun j g h1 h2 h3 h3x => by
    rcases hA.ord j i g f h1 h2 hf h3 with k1 | k1 | k1
    · exact hpre j k1
    · rw [h3x] at k1; cases k1
    · exact hpq j k1
  have hstore : ∃ m' : Nat, f.run G raw bases (eH h0 F s listed) C.st = some (r, (s m').2) ∧ m' ≤ F.length ∧
      (∀ (j : Nat) (g : FO), F[j]? = some g → g.b.cl.wr = true → (j = i ∨ listed.getD j false = true ↔ j < m')) := by
    by_cases hw : f.b.cl.wr = true
    · -- it writes
      have hclash : ∀ c : Cl, c.wr = true → clash f.b.cl c = true ∧ clash c f.b.cl = true := by
        intro c hc
        cases hcl' : f.b.cl <;> rw [hcl'] at hw <;> first | (cases hw; done) | (cases c <;> first | (cases hc; done) | exact ⟨rfl, rfl⟩)
      have hmi : m ≤ i := by
        have := hwr i f hf hw
        rw [hu'] at this
        rcases Nat.lt_or_ge i m with h | h
        · exact absurd (this.2 h) (by simp)
        · exact h
      have h2 := st_eq (i := m) hs (i - m) (by omega) (fun j g h1 h2 h3 => by
        cases h4 : g.b.cl.wr with
        | false => rfl
        | true =>
          have h5 := hearly j g (by omega) h3 (hclash _ h4).2 (exB_wr h4 hw)
          have := (hwr j g h3 h4).1 h5
          omega)
      rw [show m + (i - m) = i by omega] at h2
      refine ⟨i + 1, by rw [hst, ← h2]; exact hrun, by omega, ?_⟩
      intro j g hj hjw
      constructor
      · rintro (rfl | h)
        · omega
        · rcases Nat.lt_or_ge i j with h3 | h3
          · rw [hlater j g h3 hj (hclash _ hjw).1 (exB_wr hw hjw)] at h; cases h
          · omega
      · intro h
        rcases Nat.lt_or_ge j i with h3 | h3
        · exact .inr (hearly j g h3 hj (hclash _ hjw).2 (exB_wr hjw hw))
        · exact .inl (by omega)
    · have hw' : f.b.cl.wr = false := by simpa using hw
      have hsame := run_store hrun hw'
      refine ⟨m, ?_, hm, ?_⟩
      · rw [← hst]
        unfold FO.run at hrun ⊢
        split at hrun
        · rename_i kw
          rw [hsame] at hrun
          have heq : f.b.cl = .rc → C.st = (s i).2 := by
            intro hc
            have hx : ∀ (R : List FO) (g : FO), exB F R f.b g.b = false ∧ exB F R g.b f.b = false := fun R g => exB_not (fun p ex he => by rw [he] at hc; simp only [Bod.cl] at hc; split at hc <;> cases hc) (fun k p x he => by rw [he] at hc; cases hc)
            have hno : ∀ (j : Nat) (g : FO), F[j]? = some g → g.b.cl.wr = true → (j < i ↔ j < m) := by
              intro j g hj hjw
              have h1 := hwr j g hj hjw
              have c1 : clash f.b.cl g.b.cl = true := by rw [hc]; cases hq : g.b.cl <;> rw [hq] at hjw <;> first | (cases hjw; done) | rfl
              have c2 : clash g.b.cl f.b.cl = true := by rw [hc]; cases hq : g.b.cl <;> rw [hq] at hjw <;> first | (cases hjw; done) | rfl
              constructor
              · intro h; exact h1.1 (hearly j g h hj c2 (hx _ g).2)
              · intro h
                have h2 := h1.2 h
                rcases Nat.lt_trichotomy j i with h3 | h3 | h3
                · exact h3
                · subst h3; rw [hu'] at h2; cases h2
                · rw [hlater j g h3 hj c1 (hx _ g).1] at h2; cases h2
            rw [hst]
            rcases Nat.le_total m i with h | h
            · have := st_eq (i := m) hs (i - m) (by omega) (fun j g h1 h2 h3 => by
                cases h4 : g.b.cl.wr with
                | false => rfl
                | true => have := (hno j g h3 h4).1 (by omega); omega)
              rw [show m + (i - m) = i by omega] at this
              exact this.symm
            · have := st_eq (i := i) hs (m - i) (by omega) (fun j g h1 h2 h3 => by
                cases h4 : g.b.cl.wr with
                | false => rfl
                | true => have := (hno j g h3 h4).2 (by omega); omega)
              rw [show i + (m - i) = m by omega] at this
              exact this
          cases hb : f.b with
          | call md fn args =>
            rw [hb] at hrun hw'
            cases md with
            | Q => exact (callQ_p hrun).2 _
            | P => rw [heq (by rw [hb]; rfl)]; exact hrun
            | _ => simp only [Bod.cl] at hw'; cases hw'
          | primr p ex =>
            rw [hb] at hrun hw'
            have hc : (Bod.primr p ex).cl = .rb := by simp only [Bod.cl] at hw' ⊢; split at hw' <;> first | rfl | (cases hw'; done)
            have hc2 : f.b.cl = .rb := by rw [hb]; exact hc
            have hno : ∀ (j : Nat) (g : FO), F[j]? = some g → g.b.cl = .g → exB F (F.take i) f.b g.b = false → exB F (F.take i) g.b f.b = false → (j < i ↔ j < m) := by
              intro j g hj hjw x1 x2
              have x3 : j < i → exB F (F.take j) g.b f.b = false := fun hji => by
                cases hq : exB F (F.take j) g.b f.b with
                | false => rfl
                | true =>
                  have := exB_mono (R' := F.take i) (fun z hz => (List.take_subset_take_left F (Nat.le_of_lt hji)) hz) hq
                  rw [x2] at this; cases this
              have h1 := hwr j g hj (by rw [hjw]; rfl)
              have c1 : clash f.b.cl g.b.cl = true := by rw [hjw, hc2]; rfl
              have c2 : clash g.b.cl f.b.cl = true := by rw [hjw, hc2]; rfl
              constructor
              · intro h; exact h1.1 (hearly j g h hj c2 (x3 h))
              · intro h
                have h2 := h1.2 h
                rcases Nat.lt_trichotomy j i with h3 | h3 | h3
                · exact h3
                · subst h3; rw [hu'] at h2; cases h2
                · rw [hlater j g h3 hj c1 x1] at h2; cases h2
            refine (primr_rb hc hrun).2 _ ?_
            intro v id cs hv hid hob hexq
            have hbk : ∀ (j : Nat) (g : FO), F[j]? = some g → (g.b.cl = .g → ¬ (j < i ↔ j < m)) → ∀ r2, g.run G raw bases (s j).1 (s j).2 = some (r2, (s (j + 1)).2) → BoxAt id (s j).2 (s (j + 1)).2 := by
              intro j g hj hq r2 hr2
              by_cases hg2 : g.b.cl = .g
              · have hexb : exB F (F.take i) (.primr p ex) g.b = true ∨ exB F (F.take i) g.b (.primr p ex) = true := by
                  rw [← hb]
                  cases x1 : exB F (F.take i) f.b g.b with
                  | true => exact .inl rfl
                  | false =>
                    cases x2 : exB F (F.take i) g.b f.b with
                    | true => exact .inr rfl
                    | false => exact absurd (hno j g hj hg2 x1 x2) (hq hg2)
                have hprd : p.cl = .rd := by
                  simp only [Bod.cl] at hc
                  split at hc
                  · assumption
                  · cases hc
                rcases exB_iff hprd hexb with ⟨k, t, x, he, ht, hnd⟩ | ⟨k, x, y, ex', u, he, hu2, hroot⟩
                rotate_left
                · rw [hu2] at hv
                  have hv2 : (eH h0 F s listed).get u = some v := hv
                  have e3 := hops u (by rw [FO.tmps, hb]; simp only [Bod.tmps, hu2, Opd.tmps, List.mem_append]; exact .inl (.inl (by simp)))
                  rw [hv2] at e3
                  obtain ⟨r0, w0, y1, y2, y3, y4⟩ := root_id hs hA.ssa (by omega) hroot e3
                  have hjn : j < F.length := (List.getElem?_eq_some_iff.1 hj).1
                  have e1 := env_eq (t := r0) (i := 0) hs j (by omega) (fun q g' _ _ h5 hd' => y2 g' (List.mem_of_getElem? h5) hd')
                  have e2 := env_eq (t := r0) (i := 0) hs i (by omega) (fun q g' _ _ h5 hd' => y2 g' (List.mem_of_getElem? h5) hd')
                  rw [Nat.zero_add] at e1 e2
                  rw [e2, ← e1] at y3
                  rw [hid] at y4
                  unfold FO.run at hr2
                  split at hr2
                  · rw [he] at hr2
                    exact store_keep2 hr2 y1 y3 y4
                  · simp only [Option.some.injEq, Prod.mk.injEq] at hr2; rw [hr2.2]; exact BoxAt.refl _ _
                  · cases hr2
                have hjn : j < F.length := (List.getElem?_eq_some_iff.1 hj).1
                have e1 := env_eq (t := t) (i := 0) hs j (by omega) (fun q g' _ _ h5 hd' => hnd g' (List.mem_of_getElem? h5) hd')
                have e2 := env_eq (t := t) (i := 0) hs i (by omega) (fun q g' _ _ h5 hd' => hnd g' (List.mem_of_getElem? h5) hd')
                rw [Nat.zero_add] at e1 e2
                have e3 := hops t (by rw [FO.tmps, hb]; simp only [Bod.tmps, List.mem_append]; exact .inl (.inr (.inr ht)))
                have h7 := List.all_eq_true.1 hexq t ht
                rw [← e3, e2, ← e1] at h7
                unfold FO.run at hr2
                split at hr2
                · rw [he] at hr2
                  exact store_keep hr2 hid h7
                · simp only [Option.some.injEq, Prod.mk.injEq] at hr2; rw [hr2.2]; exact BoxAt.refl _ _
                · cases hr2
              · exact (run_box hr2 hg2).at id
            rcases Nat.le_total m i with h | h
            · have hbx := st_boxat (id := id) (i := m) hs (i - m) (by omega) (fun j g h1 h2 h3 => hbk j g h3 (fun _ hq => by have := hq.1 (by omega); omega))
              rw [show m + (i - m) = i by omega, ← hst] at hbx
              have hrd : p.cl = .rd := by
                simp only [Bod.cl] at hc
                split at hc
                · assumption
                · cases hc
              obtain ⟨ob', h2⟩ := Opd_found hE hv (fun k hk => cl_rdo hrd hk) hid
              exact (hbx.2 (List.getElem?_eq_some_iff.1 h2).1 cs).1 hob
            · have hbx := st_boxat (id := id) (i := i) hs (m - i) (by omega) (fun j g h1 h2 h3 => hbk j g h3 (fun _ hq => by have := hq.2 (by omega); omega))
              rw [show i + (m - i) = m by omega, ← hst] at hbx
              exact (hbx.2 (List.getElem?_eq_some_iff.1 hob).1 cs).2 hob
          | prim p =>
            rw [hb] at hrun hw'
            cases hc : p.cl with
            | p => exact (cl_p hc hrun).2 _
            | rc => rw [heq (by rw [hb]; exact hc)]; exact hrun
            | a => simp only [Bod.cl, hc] at hw'; cases hw'
            | g => simp only [Bod.cl, hc] at hw'; cases hw'
            | ap => simp only [Bod.cl, hc] at hw'; cases hw'
            | rb => exact absurd hc (prim_rb p)
            | rd =>
              have hx : ∀ (R : List FO) (g : FO), exB F R f.b g.b = false ∧ exB F R g.b f.b = false := fun R g => exB_not (fun p' ex he => by rw [hb] at he; cases he) (fun k p' x he => by rw [hb] at he; cases he; cases hc)
              have hno : ∀ (j : Nat) (g : FO), F[j]? = some g → (g.b.cl = .g ∨ g.b.cl = .ap) → (j < i ↔ j < m) := by
                intro j g hj hjw
                have h1 := hwr j g hj (by rcases hjw with hjw | hjw <;> rw [hjw] <;> rfl)
                have c1 : clash f.b.cl g.b.cl = true := by rcases hjw with hjw | hjw <;> rw [hjw, hb] <;> simp only [Bod.cl, hc] <;> rfl
                have c2 : clash g.b.cl f.b.cl = true := by rcases hjw with hjw | hjw <;> rw [hjw, hb] <;> simp only [Bod.cl, hc] <;> rfl
                constructor
                · intro h; exact h1.1 (hearly j g h hj c2 (hx _ g).2)
                · intro h
                  have h2 := h1.2 h
                  rcases Nat.lt_trichotomy j i with h3 | h3 | h3
                  · exact h3
                  · subst h3; rw [hu'] at h2; cases h2
                  · rw [hlater j g h3 hj c1 (hx _ g).1] at h2; cases h2
              refine (cl_rd hc hrun ?_).2
              intro v hv id ob hid hob
              rcases Nat.le_total m i with h | h
              · obtain ⟨l, hl⟩ := st_app (i := m) hs (i - m) (by omega) (fun j g h1 h2 h3 => ⟨fun hq => by have := (hno j g h3 (.inl hq)).1 (by omega); omega, fun hq => by have := (hno j g h3 (.inr hq)).1 (by omega); omega⟩)
                rw [show m + (i - m) = i by omega, ← hst] at hl
                obtain ⟨ob', h2⟩ := Opd_found hE hv (fun k hk => cl_rdo hc hk) hid
                rw [hl, List.getElem?_append_left (List.getElem?_eq_some_iff.1 h2).1] at hob
                exact hob
              · obtain ⟨l, hl⟩ := st_app (i := i) hs (m - i) (by omega) (fun j g h1 h2 h3 => ⟨fun hq => by have := (hno j g h3 (.inl hq)).2 (by omega); omega, fun hq => by have := (hno j g h3 (.inr hq)).2 (by omega); omega⟩)
                rw [show i + (m - i) = m by omega, ← hst] at hl
                rw [hl, List.getElem?_append_left (List.getElem?_eq_some_iff.1 hob).1]
                exact hob
        · rename_i kw
          simp only [Option.some.injEq, Prod.mk.injEq] at hrun ⊢
          exact ⟨hrun.1, trivial⟩
        · cases hrun
      · intro j g hj hjw
        rw [← hwr j g hj hjw]
        constructor
        · rintro (rfl | h)
          · rw [hf] at hj; cases hj; rw [hw'] at hjw; cases hjw
          · exact h
        · exact .inr
  obtain ⟨m', hev, hm', hwr'⟩ := hstore
  have hisz : i < listed.size := by omega
  have next : ∀ D x, Ext C D → D.OK → D.st = (s m').2 → VR D r x → K (a.put o.dst x) D.w := by
    intro D x hx2 hO2 hst2 hv
    refine hK _ _ (fun t ht => by
      rw [hRi.d]
      cases hfd : f.d with
      | none => rfl
      | some d => rw [hfd] at ht; simp [Act.put, Array.getElem?_setIfInBounds_ne (fun h => ht (by rw [h]) : d ≠ t)]) ⟨by rw [Array.size_setIfInBounds, hsz], ?_, ⟨D, m', rfl, hx.trans hx2, hO2, hst2, hm', ?_, ?_⟩, by rw [put_size, htm], by rw [put_defers, hdf]⟩
    · intro p q hp hq
      rw [getD_set hisz] at hp ⊢
      rcases hp with rfl | hp
      · exact .inr (hpre q hq)
      · exact .inr (hcl p q hp hq)
    · intro j g hj hjw
      rw [getD_set hisz]
      exact hwr' j g hj hjw
    · intro t v hv2
      have hnt : ¬ h0 = some t := fun hq => by rw [eH_get, if_pos hq] at hv2; cases hv2
      rw [eH_get, if_neg hnt] at hv2
      by_cases hd : f.d = some t
      · have huniq : ∀ (k : Nat) (g' : FO), F[k]? = some g' → g'.d = some t → k = i := fun k g' h1 h2 => hA.ssa k i g' f t h1 hf h2 hd
        have hok : okT F (listed.setIfInBounds i true) t = true := okT_iff.2 fun k g' h3 h4 => by rw [huniq k g' h3 h4, getD_set hisz]; exact .inl rfl
        have h1 := env_eq (t := t) (i := i + 1) hs (F.length - (i + 1)) (by omega) (fun j g h1 h2 h3 hd2 => by have := huniq j g h3 hd2; omega)
        rw [show i + 1 + (F.length - (i + 1)) = F.length by omega, hput, get_put, if_pos hd] at h1
        rw [eL_get, if_pos hok, h1] at hv2
        cases hv2
        refine ⟨x, ?_, hv⟩
        rw [hRi.d, hd]
        have := hRi.lt t hd
        simp [Act.put, htm, this]
      · have heq : (eL F s (listed.setIfInBounds i true)).get t = (eL F s listed).get t := by
          have hiff : ∀ (k : Nat) (g' : FO), F[k]? = some g' → g'.d = some t → (listed.setIfInBounds i true).getD k false = listed.getD k false := by
            intro k g' h1 h2
            refine getD_set_ne false ?_
            rintro rfl
            rw [hf] at h1; cases h1; exact hd h2
          have e1 : okT F (listed.setIfInBounds i true) t = okT F listed t := by
            rw [Bool.eq_iff_iff, okT_iff, okT_iff]
            exact ⟨fun h k g' h1 h2 => by rw [← hiff k g' h1 h2]; exact h k g' h1 h2, fun h k g' h1 h2 => by rw [hiff k g' h1 h2]; exact h k g' h1 h2⟩
          have e2 : noT F (listed.setIfInBounds i true) t = noT F listed t := by
            rw [Bool.eq_iff_iff, noT_iff, noT_iff]
            exact ⟨fun h k g' h1 h2 => by rw [← hiff k g' h1 h2]; exact h k g' h1 h2, fun h k g' h1 h2 => by rw [hiff k g' h1 h2]; exact h k g' h1 h2⟩
          rw [eL_get, eL_get, e1, e2]
        rw [heq] at hv2
        obtain ⟨c, h1, h2⟩ := hE t v (by rw [eH_get, if_neg hnt]; exact hv2)
        refine ⟨c, ?_, VR_ext hx2 h2⟩
        rw [hRi.d]
        cases hfd : f.d with
        | none => exact h1
        | some d =>
          have hne : d ≠ t := fun h => hd (by rw [hfd, h])
          simp [Act.put, Array.getElem?_setIfInBounds_ne hne, h1]
  unfold wpOpIn
  rw [ho]
  dsimp only
  unfold FO.run at hev
  split at hev
  · rename_i kw
    rw [want_ok hRi hE kw]
    simp only [if_true]
    exact (hRi.b C _ a r _ hO (hg.ext hx) hE hev _ _ next)
  · rename_i kw
    rw [want_ok hRi hE kw]
    simp only [Bool.false_eq_true, if_false]
    simp only [Option.some.injEq, Prod.mk.injEq] at hev
    obtain ⟨rfl, hst3⟩ := hev
    exact ⟨fun _ _ => trivial, next C _ (Ext.refl C) hO hst3 VR_undef⟩
  · cases hev
structure ASpec (G : Nat → Option (List AV)) (F : List FO) (M : List (List Nat)) (s : Nat → Env × Store) (C0 : Ctx) (N : Nat) (a0 : Act) (p q : Nat) (listed : Array Bool) (a : Act) (w : World) : Prop where
  sz : listed.size = F.length
  lp : listed.getD p false = false
  lq : listed.getD q false = true
  cl : ∀ i j : Nat, listed.getD i false = true → j ∈ M.getD i [] → listed.getD j false = true
  ex : ∃ (l0 : Array Bool) (d : Nat) (z : List AV) (C1 : Ctx) (bq : Nat) (ccs : Array Value) (t : TypeId), (∀ j, j ≠ q → l0.getD j false = listed.getD j false) ∧ (∀ j, j ≠ q → l0.getD j true = listed.getD j true) ∧ l0.getD q false = false ∧
    F[q]? = some ⟨some d, .prim (.alloc z), none⟩ ∧ GlobR C1 G ∧ C1.OK ∧ Ext C0 ⟨C1.w, C1.B, C1.st, C0.X⟩ ∧ C1.X = (fun b off => C0.X b off ∨ b = bq) ∧ (∀ i o : Nat, C1.B[i]? ≠ some (bq, o)) ∧ C0.w.heap.size ≤ bq ∧
    C1.w.heap[bq]? = some (.cells ccs t (0, 0)) ∧ (∀ C : Ctx, VRs C z ccs.toList) ∧ a.tmps[d]? = some (.pointer (some ⟨bq, 0, none⟩)) ∧ AInv F M s C1 N a0 (some d) l0 a w
def AInv2 (G : Nat → Option (List AV)) (pq : Option (Nat × Nat)) (F : List FO) (M : List (List Nat)) (s : Nat → Env × Store) (C0 : Ctx) (N : Nat) (a0 : Act) (listed : Array Bool) (a : Act) (w : World) : Prop :=
  AInv F M s C0 N a0 none listed a w ∨ ∃ p q, pq = some (p, q) ∧ ASpec G F M s C0 N a0 p q listed a w
theorem AInv2.sz {pq : Option (Nat × Nat)} {F : List FO} {M : List (List Nat)} {s : Nat → Env × Store} {C0 : Ctx} {a0 : Act} {listed : Array Bool} {a : Act} {w : World} (h : AInv2 G pq F M s C0 N a0 listed a w) : listed.size = F.length := by
  rcases h with h | ⟨_, _, _, h⟩
  · exact h.sz
  · exact h.sz
theorem ids_push {C : Ctx} (hO : C.OK) (b o : Nat) (ob : Ob) (X : Nat → Nat → Prop) (i : Nat) (ob' : Ob) (h : C.st[i]? = some ob') :
    (C.st ++ [ob])[i]? = some ob' ∧ (C.B ++ [(b, o)])[i]? = C.B[i]? := by
  have h1 := (List.getElem?_eq_some_iff.1 h).1
  exact ⟨by rw [List.getElem?_append_left h1]; exact h, by rw [List.getElem?_append_left (by rw [hO.len]; exact h1)]⟩
theorem any_first {F : List FO} {M : List (List Nat)} {s : Nat → Env × Store} {pq : Option (Nat × Nat)} (hA : AnyOK ops F M pq) (hR : ∀ (i : Nat) (o : Oper) (f : FO), ops[i]? = some o → F[i]? = some f → OpR ρ P G raw bases ops N o f)
    {C0 : Ctx} (hO0 : C0.OK) (hg : GlobR C0 G) {a0 : Act} {listed : Array Bool} {a : Act} {w : World} (hI : AInv F M s C0 N a0 none listed a w) {p q : Nat} (hp : pq = some (p, q)) (hlp : listed.getD p false = false)
    (hu : listed.getD q true = false) (hpre : ∀ j : Nat, j ∈ M.getD q [] → listed.getD j false = true)
    {Q : Exit → Act → World → Prop} {K : Act → World → Prop} (hK : ∀ a' w', ASpec G F M s C0 N a0 p q (listed.setIfInBounds q true) a' w' → K a' w') : wpOpIn (FW ρ) 0 P ops Q q K a w := by
  obtain ⟨hsz, hcl, ⟨C, m, rfl, hx, hO, hst, hm, hwr, hE⟩, htm, hdf⟩ := hI
  have hPr := hA.pr p q hp
  obtain ⟨o, t, z, d, ho, hop, hf⟩ := hPr.al
  have hRi := hR q o _ ho hf
  have hin : q < F.length := (List.getElem?_eq_some_iff.1 hf).1
  have hisz : q < listed.size := by omega
  have hu' : listed.getD q false = false := by
    simp only [Array.getD, hisz, dif_pos] at hu ⊢
    exact hu
  have hlt : d < N := hRi.lt d rfl
  obtain ⟨ccs, hv, hrun⟩ := alloc_run (P := P) (hRi.al t z hop rfl)
  have hw : Region.wanted o (yielded ops a.tmps) = true := want_ok hRi hE (b := true) rfl
  unfold wpOpIn
  rw [ho]
  dsimp only
  rw [hw]
  simp only [if_true]
  refine ⟨fun _ _ => trivial, ?_⟩
  rw [Oper.semAt_eq _ _ _ (fun c h => by rw [hop] at h; cases h), hrun o a C.w hop]
  have hbl := below_alloc C.w (.cells ccs t)
  have hEx := ext_below hO hbl
  have hXe : C.X = C0.X := hx.X
  have e3 : Ex3 C ⟨C.w.alloc (.cells ccs t), C.B, C.st, fun b off => C0.X b off ∨ b = C.w.heap.size⟩ := ⟨fun ad c h => ⟨(hEx.keep ad c h).1, (hEx.keep ad c h).2.1, fun hX => by
      rcases hX with hX | hX
      · exact h.2.2 (by rw [hXe]; exact hX)
      · have := Ctx.stable_lt h; omega⟩, hEx.ids, hEx.shape⟩
  show K (a.put o.dst _) _
  rw [hRi.d]
  refine hK _ _ ⟨by rw [Array.size_setIfInBounds, hsz], ?_, ?_, ?_, listed, d, z, ⟨C.w.alloc (.cells ccs t), C.B, C.st, fun b off => C0.X b off ∨ b = C.w.heap.size⟩, C.w.heap.size, ccs, t, ?_, ?_, hu', hf, ?_, ?_, ?_, rfl, ?_, hx.size, ?_, hv, ?_, ?_⟩
  · rw [getD_set_ne false (by have := hPr.lt; omega)]; exact hlp
  · exact (getD_set hisz).2 (.inl rfl)
  · intro i j hi hj
    rw [getD_set hisz] at hi ⊢
    rcases hi with rfl | hi
    · exact .inr (hpre j hj)
    · exact .inr (hcl i j hi hj)
  · intro j hj; exact (getD_set_ne false (Ne.symm hj)).symm
  · intro j hj; exact (getD_set_ne true (Ne.symm hj)).symm
  · intro g cs hgc
    obtain ⟨h1, t', h2⟩ := hg g cs hgc
    refine ⟨VRat_ex3 e3 (VRat_ext hx h1), t', ?_⟩
    have h3 := hx.shape g (shape_lt h2)
    exact ((hEx.shape g (by rw [← h3] at h2; exact shape_lt h2)).trans h3).trans h2
  · exact ⟨hO.len, hO.inj, fun i b o' off h1 h2 => by
      rcases h2 with h2 | h2
      · exact hO.dis i b o' off h1 (by rw [hXe]; exact h2)
      · have := hO.lt h1; omega, fun b off h => by
      rcases h with h | h
      · exact Nat.lt_of_lt_of_le (hO.xlt b off (by rw [hXe]; exact h)) hbl.size
      · show b < (C.w.heap.push _).size
        rw [Array.size_push]; omega, fun i ob b o' h1 h2 => ObR_ex3 e3 (hbl.block _ (hO.lt h2)) (hO.obs i ob b o' h1 h2)⟩
  · have := hx.trans hEx
    have h2 : C.at (C.w.alloc (.cells ccs t)) = ⟨C.w.alloc (.cells ccs t), C.B, C.st, C0.X⟩ := by simp only [Ctx.at, hXe]
    rw [h2] at this
    exact this
  · intro i o' h
    have := hO.lt h; omega
  · exact heap_push_at C.w _
  · simp [Act.put, htm, hlt]
  · refine ⟨hsz, hcl, ⟨_, m, rfl, Ext.refl _, ?_, hst, hm, hwr, ?_⟩, by rw [put_size, htm], by rw [put_defers, hdf]⟩
    · exact ⟨hO.len, hO.inj, fun i b o' off h1 h2 => by
      rcases h2 with h2 | h2
      · exact hO.dis i b o' off h1 (by rw [hXe]; exact h2)
      · have := hO.lt h1; omega, fun b off h => by
      rcases h with h | h
      · exact Nat.lt_of_lt_of_le (hO.xlt b off (by rw [hXe]; exact h)) hbl.size
      · show b < (C.w.heap.push _).size
        rw [Array.size_push]; omega, fun i ob b o' h1 h2 => ObR_ex3 e3 (hbl.block _ (hO.lt h2)) (hO.obs i ob b o' h1 h2)⟩
    · intro t' v hv2
      have hnt : ¬ some d = some t' := fun hq => by rw [eH_get, if_pos hq] at hv2; cases hv2
      rw [eH_get, if_neg hnt] at hv2
      obtain ⟨c, h1, h2⟩ := hE t' v (by rw [eH_none]; exact hv2)
      refine ⟨c, ?_, VR_ex3 e3 h2⟩
      have hne : d ≠ t' := fun h => hnt (by rw [h])
      simp [Act.put, Array.getElem?_setIfInBounds_ne hne, h1]
theorem mv_trans {ob o1 o2 : Ob} {B0 B1 B2 : Option (Nat × Nat)} (n1 : Ob.next ob o1) (n2 : Ob.next o1 o2) (s1 : (Ob.still ob o1 ∧ B1 = B0) ∨ Ob.moved ob o1) (s2 : (Ob.still o1 o2 ∧ B2 = B1) ∨ Ob.moved o1 o2) : (Ob.still ob o2 ∧ B2 = B0) ∨ Ob.moved ob o2 := by
  rcases s1 with ⟨t1, b1⟩ | m1
  · rcases s2 with ⟨t2, b2⟩ | m2
    · refine .inl ⟨?_, b2.trans b1⟩
      cases ob <;> cases o1 <;> cases o2 <;> simp_all [Ob.still, Ob.next]
    · refine .inr ?_
      cases ob <;> cases o1 <;> cases o2 <;> simp_all [Ob.still, Ob.next, Ob.moved]
  · refine .inr ?_
    clear s2
    cases ob <;> cases o1 <;> cases o2 <;> simp_all [Ob.still, Ob.next, Ob.moved]
    omega
theorem any_adopt {F : List FO} {M : List (List Nat)} {s : Nat → Env × Store} {pq : Option (Nat × Nat)} (hA : AnyOK ops F M pq)
    (hs : ∀ (i : Nat) (f : FO), F[i]? = some f → ∃ r, f.run G raw bases (s i).1 (s i).2 = some (r, (s (i + 1)).2) ∧ (s (i + 1)).1 = Env.put (s i).1 f.d r)
    {C0 : Ctx} (hO0 : C0.OK) {a0 : Act} {p q : Nat} (hp : pq = some (p, q)) {listed l0 : Array Bool} (hsz : listed.size = F.length) (hlp : listed.getD p false = true) (hlq : listed.getD q false = true) (hcl : ∀ i j : Nat, listed.getD i false = true → j ∈ M.getD i [] → listed.getD j false = true)
    (hl0 : ∀ j, j ≠ q → l0.getD j false = listed.getD j false) (hl0q : l0.getD q false = false) {d : Nat} {z : List AV} {C1 : Ctx} {bq : Nat} {ccs : Array Value} {t : TypeId} (hf : F[q]? = some ⟨some d, .prim (.alloc z), none⟩)
    (hx0 : Ext C0 ⟨C1.w, C1.B, C1.st, C0.X⟩) (hX : C1.X = (fun b off => C0.X b off ∨ b = bq)) (hB : ∀ i o : Nat, C1.B[i]? ≠ some (bq, o)) (hge : C0.w.heap.size ≤ bq)
    (hhp : C1.w.heap[bq]? = some (.cells ccs t (0, 0))) (hv : ∀ C : Ctx, VRs C z ccs.toList) {a : Act} {w : World} (htd : a.tmps[d]? = some (.pointer (some ⟨bq, 0, none⟩))) (hI : AInv F M s C1 N a0 (some d) l0 a w) :
    AInv F M s C0 N a0 none listed a w := by
  obtain ⟨hsz0, hcl0, ⟨C, m, rfl, hx, hO, hst, hm, hwr, hE⟩, htm, hdf⟩ := hI
  have hPr := hA.pr p q hp
  have hlt := hPr.lt
  have hbq : bq < C1.w.heap.size := (Array.getElem?_eq_some_iff.1 hhp).1
  have hXC : C.X = (fun b off => C0.X b off ∨ b = bq) := hx.X.trans hX
  have hBC : ∀ i o : Nat, C.B[i]? ≠ some (bq, o) := by
    intro i o h
    rcases hx.fresh i bq o h with ⟨j, o', h2⟩ | h2
    · exact hB j o' h2
    · omega
  have hhC : C.w.heap[bq]? = some (.cells ccs t (0, 0)) := (hx.frame bq hbq hB).trans hhp
  have hwrC : ∀ b off, b ≠ bq → Ctx.Wr ⟨C.w, C.B ++ [(bq, 0)], C.st ++ [.box z], C0.X⟩ b off → C.Wr b off := by
    rintro b off hne ⟨i, o, ob, h1, h2, h3⟩
    rcases app_get h1 with h1 | ⟨_, h1⟩
    · rcases app_get h2 with h2 | ⟨h2, _⟩
      · exact ⟨i, o, ob, h1, h2, h3⟩
      · have := (List.getElem?_eq_some_iff.1 h1).1
        rw [hO.len] at this; omega
    · cases h1; exact absurd rfl hne
  have e3 : Ex3 C ⟨C.w, C.B ++ [(bq, 0)], C.st ++ [.box z], C0.X⟩ := ⟨fun ad c h => by
      have hne : ad.block ≠ bq := fun hq => h.2.2 (by rw [hXC]; exact .inr hq)
      exact ⟨h.1, fun hw => h.2.1 (hwrC _ _ hne hw), fun hX2 => h.2.2 (by rw [hXC]; exact .inl hX2)⟩,
    fun i ob h => ⟨ob, (ids_push hO bq 0 (.box z) C0.X i ob h).1, Ob.next_refl ob, .inl ⟨by cases ob <;> simp [Ob.still], (ids_push hO bq 0 (.box z) C0.X i ob h).2⟩⟩, fun _ _ => rfl⟩
  have hext : Ext C0 ⟨C.w, C.B ++ [(bq, 0)], C.st ++ [.box z], C0.X⟩ := by
    constructor
    · rfl
    · exact hx.os.trans hx0.os
    · exact hx.tape.trans hx0.tape
    · exact hx.out.trans hx0.out
    · exact Nat.le_trans hx0.size hx.size
    · intro ad c h
      have h1 := Ctx.stable_lt h
      have h2 := hx0.keep ad c h
      have hne : ad.block ≠ bq := by omega
      have h3 : C1.stable ad c := ⟨h2.1, h2.2.1, fun hX2 => by
        rw [hX] at hX2
        rcases hX2 with hX2 | hX2
        · exact h2.2.2 hX2
        · exact hne hX2⟩
      exact e3.keep ad c (hx.keep ad c h3)
    · intro i ob h
      obtain ⟨o1, h1, n1, s1⟩ := hx0.ids i ob h
      obtain ⟨o2, h2, n2, s2⟩ := hx.ids i o1 h1
      obtain ⟨q1, q2⟩ := ids_push hO bq 0 (.box z) C0.X i o2 h2
      exact ⟨o2, q1, Ob.next_trans n1 n2, by rw [show (C.B ++ [(bq, 0)])[i]? = C.B[i]? from q2]; exact mv_trans n1 n2 s1 s2⟩
    · intro b h
      exact (hx.shape b (Nat.lt_of_lt_of_le h hx0.size)).trans (hx0.shape b h)
    · intro b h hb
      have h1 : ∀ i o : Nat, C1.B[i]? ≠ some (b, o) := by
        intro i o h2
        rcases hx0.fresh i b o h2 with ⟨j, o', h3⟩ | h3
        · exact hb j o' h3
        · omega
      exact (hx.frame b (Nat.lt_of_lt_of_le h hx0.size) h1).trans (hx0.frame b h hb)
    · intro i b o h
      rcases app_get h with h | ⟨_, h⟩
      · rcases hx.fresh i b o h with ⟨j, o', h2⟩ | h2
        · exact hx0.fresh j b o' h2
        · exact .inr (Nat.le_trans hx0.size h2)
      · cases h; exact .inr hge
  have hOD : Ctx.OK ⟨C.w, C.B ++ [(bq, 0)], C.st ++ [.box z], C0.X⟩ := by
    constructor
    · simp [hO.len]
    · intro i j b o1 o2 h1 h2
      rcases app_get h1 with k1 | ⟨e1, q1⟩ <;> rcases app_get h2 with k2 | ⟨e2, q2⟩
      · exact hO.inj i j b o1 o2 k1 k2
      · injection q2 with q2 _; rw [q2] at k1; exact absurd k1 (hBC _ _)
      · injection q1 with q1 _; rw [q1] at k2; exact absurd k2 (hBC _ _)
      · omega
    · intro i b o off h hX2
      rcases app_get h with h | ⟨_, h⟩
      · exact hO.dis i b o off h (by rw [hXC]; exact .inl hX2)
      · injection h with h _; subst h; have := hO0.xlt _ _ hX2; omega
    · intro b off h
      exact hO.xlt b off (by rw [hXC]; exact .inl h)
    · intro i ob b o h1 h2
      rcases app_get h1 with h1 | ⟨h1, rfl⟩
      · rcases app_get h2 with h2 | ⟨h2, _⟩
        · exact ObR_ex3 e3 rfl (hO.obs i ob b o h1 h2)
        · have := (List.getElem?_eq_some_iff.1 h1).1
          rw [← hO.len] at this; omega
      · rcases app_get h2 with h2 | ⟨_, h2⟩
        · have := (List.getElem?_eq_some_iff.1 h2).1
          rw [hO.len] at this; omega
        · cases h2
          exact ⟨rfl, ccs, t, hhC, hv _⟩
  obtain ⟨fp, hfp, hwp⟩ := hPr.pw
  have hpm : p < m := (hwr p fp hfp hwp).1 ((hl0 p (by omega)).trans hlp)
  have hqm : m ≤ q := by
    rcases Nat.lt_or_ge q m with h | h
    · have := (hwr q _ hf rfl).2 h
      rw [hl0q] at this; cases this
    · exact h
  have hqF : q < F.length := (List.getElem?_eq_some_iff.1 hf).1
  have hsq : (s q).2 = C.st := by
    have := st_eq (i := m) hs (q - m) (by omega) (fun j g h1 h2 h3 => hPr.nw j g (by omega) (by omega) h3)
    rw [show m + (q - m) = q by omega] at this
    rw [this, hst]
  obtain ⟨r, hrun, hput⟩ := hs q _ hf
  have hrun2 : r = .ref C.st.length 0 0 0 ∧ (s (q + 1)).2 = C.st ++ [.box z] := by
    simp only [FO.run, FO.want, Bod.ev, Prim.ev, hsq, Option.some.injEq, Prod.mk.injEq] at hrun
    exact ⟨hrun.1.symm, hrun.2.symm⟩
  refine ⟨hsz, hcl, ⟨⟨C.w, C.B ++ [(bq, 0)], C.st ++ [.box z], C0.X⟩, q + 1, rfl, hext, hOD, hrun2.2.symm, by omega, ?_, ?_⟩, htm, hdf⟩
  · intro j g hj hjw
    by_cases hjq : j = q
    · subst hjq; exact ⟨fun _ => by omega, fun _ => hlq⟩
    · rw [← hl0 j hjq, hwr j g hj hjw]
      constructor
      · intro h; omega
      · intro h
        rcases Nat.lt_or_ge j m with h2 | h2
        · exact h2
        · have := hPr.nw j g (by omega) (by omega) hj
          rw [hjw] at this; cases this
  · intro t' v hv2
    rw [eH_none] at hv2
    by_cases hd : d = t'
    · subst hd
      have huniq : ∀ (k : Nat) (g' : FO), F[k]? = some g' → g'.d = some d → k = q := fun k g' h1 h2 => hA.ssa k q g' _ d h1 hf h2 rfl
      have hok : okT F listed d = true := okT_iff.2 fun k g' h3 h4 => by rw [huniq k g' h3 h4]; exact hlq
      have h1 := env_eq (t := d) (i := q + 1) hs (F.length - (q + 1)) (by omega) (fun j g h1 h2 h3 hd2 => by have := huniq j g h3 hd2; omega)
      rw [show q + 1 + (F.length - (q + 1)) = F.length by omega, hput, get_put, if_pos rfl] at h1
      rw [eL_get, if_pos hok, h1] at hv2
      cases hv2
      refine ⟨_, htd, ?_⟩
      rw [hrun2.1]
      simp only [VR]
      exact .inl ⟨z, bq, by simp, by simp [← hO.len], rfl⟩
    · have heq : (eL F s listed).get t' = (eL F s l0).get t' := by
        have hiff : ∀ (k : Nat) (g' : FO), F[k]? = some g' → g'.d = some t' → l0.getD k false = listed.getD k false := by
          intro k g' h1 h2
          refine hl0 k ?_
          rintro rfl
          rw [hf] at h1; cases h1; exact hd (Option.some.inj h2)
        have e1 : okT F listed t' = okT F l0 t' := by
          rw [Bool.eq_iff_iff, okT_iff, okT_iff]
          exact ⟨fun h k g' h1 h2 => by rw [hiff k g' h1 h2]; exact h k g' h1 h2, fun h k g' h1 h2 => by rw [← hiff k g' h1 h2]; exact h k g' h1 h2⟩
        have e2 : noT F listed t' = noT F l0 t' := by
          rw [Bool.eq_iff_iff, noT_iff, noT_iff]
          exact ⟨fun h k g' h1 h2 => by rw [hiff k g' h1 h2]; exact h k g' h1 h2, fun h k g' h1 h2 => by rw [← hiff k g' h1 h2]; exact h k g' h1 h2⟩
        rw [eL_get, eL_get, e1, e2]
      rw [heq] at hv2
      obtain ⟨c, h1, h2⟩ := hE t' v (by rw [eH_get, if_neg (fun h => hd (Option.some.inj h))]; exact hv2)
      exact ⟨c, h1, VR_ex3 e3 h2⟩
theorem any_step2 {F : List FO} {M : List (List Nat)} {s : Nat → Env × Store} {pq : Option (Nat × Nat)} (hA : AnyOK ops F M pq) (hR : ∀ (i : Nat) (o : Oper) (f : FO), ops[i]? = some o → F[i]? = some f → OpR ρ P G raw bases ops N o f)
    (hs : ∀ (i : Nat) (f : FO), F[i]? = some f → ∃ r, f.run G raw bases (s i).1 (s i).2 = some (r, (s (i + 1)).2) ∧ (s (i + 1)).1 = Env.put (s i).1 f.d r)
    {C0 : Ctx} (hO0 : C0.OK) (hg : GlobR C0 G) {a0 : Act} {listed : Array Bool} {a : Act} {w : World} (hI : AInv2 G pq F M s C0 N a0 listed a w) {i : Nat} {o : Oper} {f : FO} (ho : ops[i]? = some o) (hf : F[i]? = some f)
    (hu : listed.getD i true = false) (hr : ∀ x ∈ o.after, Region.binds .any x = true → listed.getD x.on false = true)
    {Q : Exit → Act → World → Prop} {K : Act → World → Prop} (hK : ∀ a' w', AInv2 G pq F M s C0 N a0 (listed.setIfInBounds i true) a' w' → K a' w') : wpOpIn (FW ρ) 0 P ops Q i K a w := by
  have hin : i < F.length := (List.getElem?_eq_some_iff.1 hf).1
  rcases hI with hI | ⟨p, q, hp, hI⟩
  · by_cases hq : ∃ p, pq = some (p, i) ∧ listed.getD p false = false
    · obtain ⟨p, hp, hlp⟩ := hq
      have hpre : ∀ j : Nat, j ∈ M.getD i [] → listed.getD j false = true := by
        intro j hj
        obtain ⟨o', h1, x, h2, h3, h4⟩ := hA.m i j hj
        rw [ho] at h1; cases h1
        rcases h4 with rfl | h4
        · exact hr x h2 h3
        · exact hI.cl _ _ (hr x h2 h3) h4
      exact any_first hA hR hO0 hg hI hp hlp hu hpre fun a' w' h => hK a' w' (.inr ⟨p, i, hp, h⟩)
    · refine any_step hA hR hs hg hI ho hf hu hr (fun t h => by cases h) (fun p hp => ?_) (fun a' w' _ h => hK a' w' (.inl h))
      cases h : listed.getD p false with
      | true => rfl
      | false => exact absurd ⟨p, hp, h⟩ hq
  · obtain ⟨hsz, hlp, hlq, hcl, l0, d, z, C1, bq, ccs, t, hl0, hl0t, hl0q, hfq, hg1, hO1, hx0, hX, hB, hge, hhp, hv, htd, hI0⟩ := hI
    have hPr := hA.pr p q hp
    have hisz : i < listed.size := by omega
    have hisz0 : i < l0.size := by rw [hI0.sz]; exact hin
    have hiq : i ≠ q := by
      rintro rfl
      have : listed.getD i true = listed.getD i false := by simp [Array.getD, hisz]
      rw [this, hlq] at hu; cases hu
    have hpre : ∀ j : Nat, j ∈ M.getD i [] → listed.getD j false = true := by
      intro j hj
      obtain ⟨o', h1, x, h2, h3, h4⟩ := hA.m i j hj
      rw [ho] at h1; cases h1
      rcases h4 with rfl | h4
      · exact hr x h2 h3
      · exact hcl _ _ (hr x h2 h3) h4
    have hnp : p ∉ M.getD i [] := fun h => by have := hpre p h; rw [hlp] at this; cases this
    have hr0 : ∀ x ∈ o.after, Region.binds .any x = true → l0.getD x.on false = true := by
      intro x hx hb
      have hne : x.on ≠ q := by
        intro h
        by_cases hip : i = p
        · have := hA.back i o ho x hx hb
          have := hPr.lt
          omega
        · exact hnp (hPr.edg i o hip hiq ho ⟨x, hx, hb, h⟩)
      rw [hl0 _ hne]
      exact hr x hx hb
    refine any_step hA hR hs hg1 hI0 ho hf (by rw [hl0t i hiq]; exact hu) hr0 ?_ (fun p' hp' => by rw [hp] at hp'; cases hp'; exact absurd rfl hiq) ?_
    · intro t' ht'
      cases ht'
      refine ⟨fun ht => ?_, fun hd => hiq (hA.ssa i q f _ d hf hfq hd rfl)⟩
      rcases hA.use i q f _ d hf ht hfq rfl with ⟨h1, h2⟩ | ⟨h1, h2⟩
      · by_cases hip : i = p
        · subst hip; exact hPr.pq h2
        · exact hnp (hPr.trans i hip hiq h2)
      · have := hcl q i hlq h2
        have h3 : listed.getD i true = listed.getD i false := by simp [Array.getD, hisz]
        rw [h3, this] at hu; cases hu
    · intro a' w' hta hI'
      have hset : ∀ b j, j ≠ q → (l0.setIfInBounds i true).getD j b = (listed.setIfInBounds i true).getD j b := by
        intro b j hj
        by_cases hij : i = j
        · subst hij
          simp [Array.getD, hisz, hisz0]
        · rw [getD_set_ne b hij, getD_set_ne b hij]
          cases b
          · exact hl0 j hj
          · exact hl0t j hj
      have hd : f.d ≠ some d := fun hd => hiq (hA.ssa i q f _ d hf hfq hd rfl)
      have htd' : a'.tmps[d]? = some (.pointer (some ⟨bq, 0, none⟩)) := (hta d hd).trans htd
      have hcl' : ∀ i' j : Nat, (listed.setIfInBounds i true).getD i' false = true → j ∈ M.getD i' [] → (listed.setIfInBounds i true).getD j false = true := by
        intro i' j hi' hj
        rw [getD_set hisz] at hi' ⊢
        rcases hi' with rfl | hi'
        · exact .inr (hpre j hj)
        · exact .inr (hcl i' j hi' hj)
      have hq' : (listed.setIfInBounds i true).getD q false = true := (getD_set hisz).2 (.inr hlq)
      have hl0q' : (l0.setIfInBounds i true).getD q false = false := by rw [getD_set_ne false hiq]; exact hl0q
      by_cases hip : i = p
      · refine hK a' w' (.inl ?_)
        exact any_adopt hA hs hO0 hp (by rw [Array.size_setIfInBounds, hsz]) (by rw [← hip]; exact (getD_set hisz).2 (.inl rfl)) hq' hcl' (hset false) hl0q' hfq hx0 hX hB hge hhp hv htd' hI'
      · refine hK a' w' (.inr ⟨p, q, hp, by rw [Array.size_setIfInBounds, hsz], ?_, hq', hcl', l0.setIfInBounds i true, d, z, C1, bq, ccs, t, hset false, hset true, hl0q', hfq, hg1, hO1, hx0, hX, hB, hge, hhp, hv, htd', hI'⟩)
        rw [getD_set_ne false hip]; exact hlp
theorem any_ok {F : List FO} {M : List (List Nat)} {s : Nat → Env × Store} {pq : Option (Nat × Nat)} (hA : AnyOK ops F M pq) (hR : ∀ (i : Nat) (o : Oper) (f : FO), ops[i]? = some o → F[i]? = some f → OpR ρ P G raw bases ops N o f)
    (hs : ∀ (i : Nat) (f : FO), F[i]? = some f → ∃ r, f.run G raw bases (s i).1 (s i).2 = some (r, (s (i + 1)).2) ∧ (s (i + 1)).1 = Env.put (s i).1 f.d r)
    {C0 : Ctx} (hO0 : C0.OK) (hg : GlobR C0 G) {a0 : Act} {Q : Exit → Act → World → Prop} (hQ : ∀ listed a w, (∀ i, i < F.length → listed.getD i false = true) → AInv F M s C0 N a0 none listed a w → Q .normal a w) :
    ∀ (fuel : Nat) (listed : Array Bool) (a : Act) (w : World), left F.length listed ≤ fuel → AInv2 G pq F M s C0 N a0 listed a w → wpAnyIn (FW ρ) 0 P .any ops Q fuel listed a w := by
  have hdone : ∀ (listed : Array Bool) (a : Act) (w : World), AInv2 G pq F M s C0 N a0 listed a w → Region.ready .any ops listed = [] → Q .normal a w := by
    intro listed a w hI hr
    have hall : ∀ i, i < F.length → listed.getD i false = true := ?_
    · rcases hI with hI | ⟨p, q, hp, hI⟩
      · exact hQ listed a w hall hI
      · obtain ⟨f', hf', _⟩ := (hA.pr p q hp).pw
        have := hall p (List.getElem?_eq_some_iff.1 hf').1
        rw [hI.lp] at this; cases this
    intro i
    induction i using Nat.strongRecOn with
    | _ i ih =>
      intro hi
      cases hl : listed.getD i false with
      | true => rfl
      | false =>
        have hi' : i < ops.size := by rw [hA.len]; exact hi
        have : i ∈ Region.ready .any ops listed := by
          rw [mem_ready]
          refine ⟨?_, ops[i], Array.getElem?_eq_getElem hi', ?_⟩
          · have h1 : i < listed.size := by rw [hI.sz]; exact hi
            simp only [Array.getD, h1, dif_pos] at hl ⊢
            exact hl
          · intro x hx hb
            have := hA.back i _ (Array.getElem?_eq_getElem hi') x hx hb
            exact ih x.on this (by omega)
        rw [hr] at this
        cases this
  intro fuel
  induction fuel with
  | zero =>
    intro listed a w hl hI
    have hr : Region.ready .any ops listed = [] := by
      apply List.eq_nil_iff_forall_not_mem.2
      intro i hi
      obtain ⟨h1, o, h2, _⟩ := mem_ready.1 hi
      have h3 : i < F.length := by rw [← hA.len]; exact (Array.getElem?_eq_some_iff.1 h2).1
      have := left_set h3 h1
      omega
    exact ⟨hr, hdone listed a w hI hr⟩
  | succ fuel ih =>
    intro listed a w hl hI
    refine ⟨hdone listed a w hI, ?_⟩
    intro i hi
    obtain ⟨h1, o, h2, h3⟩ := mem_ready.1 hi
    have h4 : i < F.length := by rw [← hA.len]; exact (Array.getElem?_eq_some_iff.1 h2).1
    have := left_set h4 h1
    exact any_step2 hA hR hs hO0 hg hI h2 (List.getElem?_eq_getElem h4) h1 h3 (fun a' w' hI' => ih _ a' w' (by omega) hI')
end
end Go.Proofs.YtoobogpbejdocaaGreatDoor.Ev
