import Derived.Test.YtoobogpbejdocaaDoorEvCode
set_option linter.unusedVariables false
set_option linter.unusedSectionVars false
set_option linter.unusedSimpArgs false
namespace Go.Proofs.YtoobogpbejdocaaDoor.Ev
def inDom (e : Env) (dom : List Nat) : Prop := ∀ t v, e.get t = some v → t ∈ dom
theorem keep_get : ∀ {live : List Nat} {e : Env} {t : Nat} {v : AV}, (Env.keep e live).get t = some v → e.get t = some v ∧ t ∈ live
  | [], e, t, v, h => by simp [Env.keep, Env.get] at h
  | i :: l, e, t, v, h => by
    simp only [Env.keep] at h
    split at h
    · rename_i a k
      simp only [Env.get] at h
      split at h
      · rename_i hi
        subst hi
        exact ⟨by rw [k]; exact h, List.mem_cons_self⟩
      · obtain ⟨h1, h2⟩ := keep_get h
        exact ⟨h1, List.mem_cons_of_mem _ h2⟩
    · obtain ⟨h1, h2⟩ := keep_get h
      exact ⟨h1, List.mem_cons_of_mem _ h2⟩
theorem EnvR_keep {C : Ctx} {e : Env} {a : Act} (h : EnvR C e a) (live : List Nat) : EnvR C (e.keep live) a := fun t v ht => h t v (keep_get ht).1
theorem EnvR_comp {C D : Ctx} {e e' : Env} {a : Act} (h : EnvR C e a) (hs : ∀ (t : Nat) (v : AV), e'.get t = some v → ∃ v0, e.get t = some v0 ∧ ∀ c, VR C v0 c → VR D v c) : EnvR D e' a := fun t v ht => by
  obtain ⟨v0, h1, h2⟩ := hs t v ht
  obtain ⟨c, h3, h4⟩ := h t v0 h1
  exact ⟨c, h3, h2 c h4⟩
theorem EnvR_sub {C : Ctx} {e e1 : Env} {a : Act} (h : EnvR C e1 a) (hs : Sub e e1) : EnvR C e a := fun t v ht => h t v (hs t v ht)
section
variable {ρ : Option Nat} {P : Program} {G : Nat → Option (List AV)} {raw : Raw} {bases : List Nat} {N : Nat}
def Ctx.drew (C : Ctx) : Ctx := ⟨{ C.w with drawn := C.w.drawn + 1 }, C.B, C.st, C.X⟩
theorem drew_ext (C : Ctx) : Ext C C.drew where
  X := rfl
  os := rfl
  tape := rfl
  out := rfl
  size := Nat.le_refl _
  keep := fun ad c h => h
  ids := fun i ob h => ⟨ob, h, Ob.next_refl ob, .inl ⟨by cases ob <;> simp [Ob.still], rfl⟩⟩
  shape := fun _ _ => rfl
  frame := fun _ _ _ => rfl
  fresh := fun i b o h => .inl ⟨i, o, h⟩
theorem drew_ok {C : Ctx} (hO : C.OK) : C.drew.OK where
  len := hO.len
  inj := hO.inj
  dis := hO.dis
  xlt := hO.xlt
  obs := fun i ob b o h1 h2 => ObR_ext (drew_ext C) rfl (hO.obs i ob b o h1 h2)
theorem items_ok (hr : RawOK P G raw) (hsc : RawSc raw) (hG : GRo G) (hm : P.follows .mixedOrders = true) {id : Nat} {ops : Array Oper} {draw : Bool} {l : List Item} {dom : List Nat} {fl : Fl} {dom' : List Nat}
    (hc : chk P N (.region id ops draw) (.items l) dom = some (fl, dom')) (hfl : fl = .reg (Item.fos none l)) {C : Ctx} {e : Env} {a : Act} {e' : Env} {st' : Store} (hO : C.OK) (hg : GlobR C G) (hE : EnvR C e a) (hN : a.tmps.size = N) (hd : inDom e dom)
    (h : Item.runs G raw bases l e C.st = some (e', st')) : ∀ Q : Exit → Act → World → Prop, (∀ D a', Ext C D → D.OK → D.st = st' → EnvR D e' a' → a'.tmps.size = N → a'.defers = a.defers → Q .normal a' D.w) → (Code.region id ops draw).wpIn (FW ρ) 0 P Q a C.w := by
  simp only [chk] at hc
  split at hc
  · rename_i hb
    simp only [Option.bind_eq_some_iff, Option.some.injEq, Prod.mk.injEq] at hc
    obtain ⟨F', h1, h2, rfl⟩ := hc
    rw [hfl] at h2
    simp only [Fl.reg.injEq] at h2
    subst h2
    simp only [Bool.and_eq_true] at hb
    obtain ⟨⟨w1, w2⟩, w3⟩ := hb
    have hall := cFOs_ok (ρ := ρ) (bases := bases) hr hsc hG ops.toList _ h1 w2
    obtain ⟨e2, k1, k2, k3, k4⟩ := take_l (G := G) (raw := raw) (bases := bases) l none dom e e C.st e' st' h (fun t v ht => ht) hd rfl (fun t ht => by cases ht) (by simpa [gts] using w1)
    intro Q hQ
    cases draw with
    | false =>
      apply wpIn_region
      have := seq_ok (Q := Q) ops.toList (Item.fos none l) 0 (fun j => by simp) hall C e a e2 st' hO hg hE hN k1 (fun D a' q1 q2 q3 q4 q5 q6 => hQ D a' q1 q2 q3 (EnvR_sub q4 k2) q5 q6)
      simpa [List.range_eq_range'] using this
    | true =>
      simp only [Bool.not_true, Bool.false_or] at w3
      have hA := anyB_ok w3
      obtain ⟨s, s0, s1, s2⟩ := runs_states _ _ _ _ _ k1
      apply wpIn_region_any hm
      have hlen : ops.size = (Item.fos none l).length := hA.len
      have hopr : ∀ (i : Nat) (o : Oper) (f : FO), ops[i]? = some o → (Item.fos none l)[i]? = some f → OpR ρ P G raw bases ops N o f := fun i o f ho hf => All2_get hall i o f (by rw [Array.getElem?_toList]; exact ho) hf
      refine any_ok (C0 := C.drew) (a0 := a) (N := N) hA hopr s2 (drew_ok hO) (hg.ext (drew_ext C)) ?_ ops.size _ a _ ?_ (.inl ?_)
      · intro listed a' w' hlist hI
        obtain ⟨C', m, rfl, x1, x2, x3, x4, x5, x6⟩ := hI.ex
        have hst : (s m).2 = st' := by
          have hmn : (s (Item.fos none l).length).2 = (s m).2 := by
            have := st_eq (i := m) s2 ((Item.fos none l).length - m) (by omega) (fun j f q1 q2 q3 => by
              cases hw : f.b.cl.wr with
              | false => rfl
              | true =>
                have := (x5 j f q3 hw).1 (hlist j (List.getElem?_eq_some_iff.1 q3).1)
                omega)
            rw [show m + ((Item.fos none l).length - m) = (Item.fos none l).length by omega] at this
            exact this
          rw [← hmn, s1]
        refine hQ C' a' ((drew_ext C).trans x1) x2 (by rw [x3, hst]) ?_ hI.tm hI.df
        refine EnvR_sub x6 ?_
        intro t v ht
        have hok : okT (Item.fos none l) listed t = true := okT_iff.2 fun j f hf hdd => hlist j (List.getElem?_eq_some_iff.1 hf).1
        rw [eH_none, eL_get, if_pos hok, s1, k2 t v ht]
      · unfold left
        have := List.length_filter_le (fun j => !(Array.replicate ops.size false).getD j true) (List.range (Item.fos none l).length)
        rw [List.length_range] at this
        omega
      · refine ⟨by simp [hlen], ?_, ⟨C.drew, 0, rfl, Ext.refl _, drew_ok hO, by rw [s0]; rfl, Nat.zero_le _, ?_, ?_⟩, hN, rfl⟩
        · intro i j hi
          by_cases hi2 : i < ops.size
          · simp [Array.getD, hi2] at hi
          · simp [Array.getD, hi2] at hi
        · intro j f hf hw
          constructor
          · intro hi
            by_cases hi2 : j < ops.size
            · simp [Array.getD, hi2] at hi
            · simp [Array.getD, hi2] at hi
          · intro hi; omega
        · intro t v ht
          have hff : ∀ (j : Nat) (f : FO), (Item.fos none l)[j]? = some f → (Array.replicate ops.size false).getD j false = false := by
            intro j f hf
            have hj := (List.getElem?_eq_some_iff.1 hf).1
            rw [← hlen] at hj
            simp [Array.getD, hj]
          have hno : noT (Item.fos none l) (Array.replicate ops.size false) t = true := noT_iff.2 fun j f hf _ => hff j f hf
          have h0 : (eL (Item.fos none l) s (Array.replicate ops.size false)).get t = e.get t := by
            rw [eL_get, if_pos hno, s0]
            by_cases hw : okT (Item.fos none l) (Array.replicate ops.size false) t = true
            · rw [if_pos hw]
              rw [okT_iff] at hw
              have := env_eq (i := 0) (t := t) s2 (Item.fos none l).length (by omega) (fun j f _ _ hf hdd => by have h1 := hw j f hf hdd; rw [hff j f hf] at h1; cases h1)
              rw [Nat.zero_add, s0] at this
              rw [this]
              dsimp only
              cases e.get t <;> rfl
            · rw [if_neg hw]
          rw [eH_none, h0] at ht
          obtain ⟨c, q1, q2⟩ := hE t v ht
          exact ⟨c, q1, VR_ext (drew_ext C) q2⟩
  · cases hc
theorem least {p : Nat → Prop} (h : ∃ k, p k) : ∃ k, p k ∧ ∀ j, j < k → ¬ p j := by
  obtain ⟨k, hk⟩ := h
  induction k using Nat.strongRecOn with
  | _ k ih =>
    by_cases hq : ∃ j, j < k ∧ p j
    · obtain ⟨j, h1, h2⟩ := hq
      exact ih j h1 h2
    · exact ⟨k, hk, fun j hj hp => hq ⟨j, hj, hp⟩⟩
theorem chk_inv {code : Code} {ir : IR} {dom : List Nat} {r : Fl × List Nat} (h : chk P N code ir dom = some r) :
    ((code = .skip ∨ ∃ l, code = .label l) ∧ ir = .skip) ∨ (∃ id ops draw l, code = .region id ops draw ∧ ir = .items l) ∨ (∃ a b x y, code = .seq a b ∧ ir = .seq x y) ∨ (∃ t a b x y, code = .cond (.tmp t) a b ∧ ir = .cond (.t t) x y) ∨ (∃ v a b x y, code = .cond (.const (.bool v)) a b ∧ ir = .cond (.c (.v (.bool v))) x y) ∨
    (∃ id b live x, code = .block id b ∧ ir = .block id live x) ∨ (∃ b live x, code = .loop b ∧ ir = .loop live x) ∨ (∃ i live, code = .exit i ∧ ir = .exit i live) ∨ (∃ live, code = .ret ∧ ir = .ret live) ∨ (∃ k n, ir = .cond (.c (.v (.int k n))) .skip .skip) ∨ (∃ b x, code = .scope b ∧ ir = .seq x .skip) ∨ (∃ t ps asg body k vars live, code = .rangeFunc (.tmp t) ps asg body ∧ ir = .rfn (.t t) k vars live) := by
  unfold chk at h
  split at h
  · simp
  · simp
  · simp
  · simp
  · split at h
    · rename_i hq; subst hq; simp
    · cases h
  · split at h
    · rename_i hq; subst hq; simp
    · cases h
  · split at h
    · rename_i hq; subst hq; simp
    · cases h
  · simp
  · split at h
    · rename_i hq; subst hq; simp
    · cases h
  · simp
  · simp
  · split at h
    · rename_i hq
      obtain ⟨rfl, _⟩ := hq
      simp
    · cases h
  · simp
  · cases h
theorem iter_norm {body : Env → Store → Option (Sig × Env × Store)} {cp : Env → Store → Env × Store} : ∀ {n : Nat} {e : Env} {st : Store} {s : Sig} {e' : Env} {st' : Store}, iter body cp n e st = some (s, e', st') → s ≠ .norm
  | 0, e, st, s, e', st', h => by cases h
  | n + 1, e, st, s, e', st', h => by
    simp only [iter] at h
    cases k : body (cp e st).1 (cp e st).2 with
    | none => rw [k] at h; cases h
    | some z =>
      obtain ⟨s1, e1, st1⟩ := z
      rw [k] at h
      cases s1
      · exact iter_norm h
      · cases h; intro hs; cases hs
      · cases h; intro hs; cases hs
theorem dom_ok (n : Nat) : ∀ (ir : IR) (code : Code) (dom : List Nat) (fl : Fl) (dom' : List Nat), chk P N code ir dom = some (fl, dom') → ∀ (e : Env) (st : Store) (e' : Env) (st' : Store), inDom e dom → IR.run G raw bases n ir e st = some (.norm, e', st') → inDom e' dom' := by
  intro ir
  induction ir with
  | skip =>
    intro code dom fl dom' hc e st e' st' hd h
    rcases chk_inv hc with ⟨hsk, _⟩ | ⟨_, _, _, _, _, h0⟩ | ⟨_, _, _, _, _, h0⟩ | ⟨_, _, _, _, _, _, h0⟩ | ⟨_, _, _, _, _, _, h0⟩ | ⟨_, _, _, _, _, h0⟩ | ⟨_, _, _, _, h0⟩ | ⟨_, _, _, h0⟩ | ⟨_, _, h0⟩ | ⟨_, _, h0⟩ | ⟨_, _, _, h0⟩ | ⟨_, _, _, _, _, _, _, _, h0⟩ <;> first | (cases h0; done) | skip
    rcases hsk with rfl | ⟨_, rfl⟩
    · cases hc
      cases h
      exact hd
    · cases hc
      cases h
      exact hd
  | items l =>
    intro code dom fl dom' hc e st e' st' hd h
    rcases chk_inv hc with ⟨_, h0⟩ | ⟨id, ops, draw, _, rfl, h0⟩ | ⟨_, _, _, _, _, h0⟩ | ⟨_, _, _, _, _, _, h0⟩ | ⟨_, _, _, _, _, _, h0⟩ | ⟨_, _, _, _, _, h0⟩ | ⟨_, _, _, _, h0⟩ | ⟨_, _, _, h0⟩ | ⟨_, _, h0⟩ | ⟨_, _, h0⟩ | ⟨_, _, _, h0⟩ | ⟨_, _, _, _, _, _, _, _, h0⟩ <;> first | (cases h0; done) | skip
    simp only [chk] at hc
    split at hc
    · rename_i hb
      simp only [Option.bind_eq_some_iff, Option.some.injEq, Prod.mk.injEq] at hc
      obtain ⟨F', h1, h2, rfl⟩ := hc
      simp only [Bool.and_eq_true] at hb
      obtain ⟨⟨w1, w2⟩, w3⟩ := hb
      simp only [IR.run] at h
      split at h
      · rename_i e1 st1 k1
        cases h
        obtain ⟨e2, q1, q2, q3, q4⟩ := take_l (G := G) (raw := raw) (bases := bases) l none dom e e st e' st' k1 (fun t v ht => ht) hd rfl (fun t ht => by cases ht) (by simpa [gts] using w1)
        exact q4
      · cases h
    · cases hc
  | seq x y ihx ihy =>
    intro code dom fl dom' hc e st e' st' hd h
    rcases chk_inv hc with ⟨_, h0⟩ | ⟨_, _, _, _, _, h0⟩ | ⟨a, b, _, _, rfl, h0⟩ | ⟨_, _, _, _, _, _, h0⟩ | ⟨_, _, _, _, _, _, h0⟩ | ⟨_, _, _, _, _, h0⟩ | ⟨_, _, _, _, h0⟩ | ⟨_, _, _, h0⟩ | ⟨_, _, h0⟩ | ⟨_, _, h0⟩ | ⟨b, _, rfl, h0⟩ | ⟨_, _, _, _, _, _, _, _, h0⟩ <;> first | (cases h0; done) | skip
    · cases h0
      simp only [chk, Option.bind_eq_some_iff, Option.some.injEq, Prod.mk.injEq] at hc
      obtain ⟨⟨f1, d1⟩, h1, ⟨f2, d2⟩, h2, h3, rfl⟩ := hc
      simp only [IR.run] at h
      cases k : IR.run G raw bases n x e st with
      | none => rw [k] at h; cases h
      | some z =>
        obtain ⟨s1, e1, st1⟩ := z
        rw [k] at h
        cases s1
        · exact ihy b d1 f2 d2 h2 e1 st1 e' st' (ihx a dom f1 d1 h1 e st e1 st1 hd k) h
        · cases h
        · cases h
    · cases h0
      simp only [chk, Option.bind_eq_some_iff, Option.some.injEq, Prod.mk.injEq] at hc
      obtain ⟨⟨f1, d1⟩, h1, h3, rfl⟩ := hc
      simp only [IR.run] at h
      cases k : IR.run G raw bases n x e st with
      | none => rw [k] at h; cases h
      | some z =>
        obtain ⟨s1, e1, st1⟩ := z
        rw [k] at h
        cases s1
        · cases h; exact ihx b dom f1 d1 h1 e st e' st' hd k
        · cases h
        · cases h
  | cond c x y ihx ihy =>
    intro code dom fl dom' hc e st e' st' hd h
    rcases chk_inv hc with ⟨_, h0⟩ | ⟨_, _, _, _, _, h0⟩ | ⟨_, _, _, _, _, h0⟩ | ⟨t, a, b, _, _, rfl, h0⟩ | ⟨v0, a, b, _, _, rfl, h0⟩ | ⟨_, _, _, _, _, h0⟩ | ⟨_, _, _, _, h0⟩ | ⟨_, _, _, h0⟩ | ⟨_, _, h0⟩ | ⟨_, _, h0⟩ | ⟨_, _, _, h0⟩ | ⟨_, _, _, _, _, _, _, _, h0⟩ <;> first | (cases h0; done) | skip
    · cases h0
      simp only [chk, if_true, Option.bind_eq_some_iff, Option.some.injEq, Prod.mk.injEq] at hc
      obtain ⟨⟨f1, d1⟩, h1, ⟨f2, d2⟩, h2, h3, rfl⟩ := hc
      simp only [IR.run] at h
      split at h
      · split at h
        · exact fun q v hq => List.mem_append.2 (.inl (ihx a dom f1 d1 h1 e st e' st' hd h q v hq))
        · exact fun q v hq => List.mem_append.2 (.inr (ihy b dom f2 d2 h2 e st e' st' hd h q v hq))
      · cases h
    · cases h0
      simp only [chk, if_true, Option.bind_eq_some_iff, Option.some.injEq, Prod.mk.injEq] at hc
      obtain ⟨⟨f1, d1⟩, h1, ⟨f2, d2⟩, h2, h3, rfl⟩ := hc
      simp only [IR.run] at h
      split at h
      · split at h
        · exact fun q v hq => List.mem_append.2 (.inl (ihx a dom f1 d1 h1 e st e' st' hd h q v hq))
        · exact fun q v hq => List.mem_append.2 (.inr (ihy b dom f2 d2 h2 e st e' st' hd h q v hq))
      · cases h
    · cases h0; cases h
  | block id live x ih =>
    intro code dom fl dom' hc e st e' st' hd h
    rcases chk_inv hc with ⟨_, h0⟩ | ⟨_, _, _, _, _, h0⟩ | ⟨_, _, _, _, _, h0⟩ | ⟨_, _, _, _, _, _, h0⟩ | ⟨_, _, _, _, _, _, h0⟩ | ⟨_, b, _, _, rfl, h0⟩ | ⟨_, _, _, _, h0⟩ | ⟨_, _, _, h0⟩ | ⟨_, _, h0⟩ | ⟨_, _, h0⟩ | ⟨_, _, _, h0⟩ | ⟨_, _, _, _, _, _, _, _, h0⟩ <;> first | (cases h0; done) | skip
    cases h0
    simp only [chk, if_true, Option.bind_eq_some_iff, Option.some.injEq, Prod.mk.injEq] at hc
    obtain ⟨⟨f1, d1⟩, h1, h3, rfl⟩ := hc
    simp only [IR.run] at h
    split at h
    · simp only [Option.some.injEq, Prod.mk.injEq, true_and] at h
      exact fun q v hq => compact_get (by rw [h]; exact hq)
    · split at h
      · simp only [Option.some.injEq, Prod.mk.injEq, true_and] at h
        exact fun q v hq => compact_get (by rw [h]; exact hq)
      · cases h
    · rename_i hn1 hn2
      exact absurd h (hn1 _ _)
  | loop live x ih =>
    intro code dom fl dom' hc e st e' st' hd h
    simp only [IR.run] at h
    exact absurd rfl (iter_norm h)
  | exit i live => intro code dom fl dom' hc e st e' st' hd h; cases h
  | ret live => intro code dom fl dom' hc e st e' st' hd h; cases h
  | rfn g k vars live =>
    intro code dom fl dom' hc e st e' st' hd h
    rcases chk_inv hc with ⟨_, h0⟩ | ⟨_, _, _, _, _, h0⟩ | ⟨_, _, _, _, _, h0⟩ | ⟨_, _, _, _, _, _, h0⟩ | ⟨_, _, _, _, _, _, h0⟩ | ⟨_, _, _, _, _, h0⟩ | ⟨_, _, _, _, h0⟩ | ⟨_, _, _, h0⟩ | ⟨_, _, h0⟩ | ⟨_, _, h0⟩ | ⟨_, _, _, h0⟩ | ⟨t, ps, asg, body, _, _, _, rfl, h0⟩ <;> first | (cases h0; done) | skip
    cases h0
    simp only [chk] at hc
    split at hc
    · simp only [Option.some.injEq, Prod.mk.injEq] at hc
      obtain ⟨_, rfl⟩ := hc
      simp only [IR.run] at h
      split at h
      · split at h
        · split at h
          · unfold rfnK at h
            split at h
            · split at h
              · simp only [Option.some.injEq, Prod.mk.injEq, true_and] at h
                exact fun q v hq => compact_get (by rw [h]; exact hq)
              · simp only [Option.some.injEq, Prod.mk.injEq] at h
                exact fun q v hq => compact_get (by rw [h.2]; exact hq)
              · cases h
            · cases h
          · cases h
        · cases h
      · cases h
    · cases hc
def markD (x : Nat) : Deferred := { target := .collected x, args := #[] }
structure Marks (C D : Ctx) (l : List Nat) : Prop where
  nd : l.Nodup
  at_ : ∀ x, x ∈ l → C.w.heap.size ≤ x ∧ D.w.heap[x]? = some (.deferred (some [])) ∧ ∀ i o : Nat, D.B[i]? ≠ some (x, o)
theorem Marks.nil (C D : Ctx) : Marks C D [] := ⟨.nil, fun x h => by cases h⟩
theorem Marks.ext {C D E : Ctx} {l : List Nat} (h : Marks C D l) (k : Ext D E) : Marks C E l :=
  ⟨h.nd, fun x hx => by
    obtain ⟨h1, h2, h3⟩ := h.at_ x hx
    have hlt := heap_lt h2
    refine ⟨h1, (k.frame x hlt h3).trans h2, fun i o hi => ?_⟩
    rcases k.fresh i x o hi with ⟨j, o', hj⟩ | hle
    · exact h3 j o' hj
    · omega⟩
theorem Marks.trans {C D E : Ctx} {l m : List Nat} (h0 : Ext C D) (h : Marks C D l) (k : Ext D E) (h2 : Marks D E m) : Marks C E (m ++ l) := by
  refine ⟨?_, fun x hx => ?_⟩
  · refine List.nodup_append.2 ⟨h2.nd, h.nd, fun x hx y hy hxy => ?_⟩
    subst hxy
    have := (h2.at_ x hx).1
    have := heap_lt (h.at_ x hy).2.1
    omega
  · rcases List.mem_append.1 hx with hx | hx
    · obtain ⟨k1, k2, k3⟩ := h2.at_ x hx
      exact ⟨Nat.le_trans h0.size k1, k2, k3⟩
    · exact (h.ext k).at_ x hx
def Dfs (C D : Ctx) (a a' : Act) : Prop := ∃ l, Marks C D l ∧ a'.defers = l.map markD ++ a.defers
theorem Dfs.same (C D : Ctx) {a a' : Act} (h : a'.defers = a.defers) : Dfs C D a a' := ⟨[], Marks.nil C D, by simpa using h⟩
theorem Dfs.trans {C D E : Ctx} {a b c : Act} (h0 : Ext C D) (h : Dfs C D a b) (k : Ext D E) (h2 : Dfs D E b c) : Dfs C E a c := by
  obtain ⟨l, m1, e1⟩ := h
  obtain ⟨m, m2, e2⟩ := h2
  exact ⟨m ++ l, m1.trans h0 k m2, by rw [e2, e1, List.map_append, List.append_assoc]⟩
theorem Dfs.comp {C D D' : Ctx} {a b : Act} (h : Dfs C D a b) (hw : D'.w = D.w) (hB : ∀ i b o : Nat, D'.B[i]? = some (b, o) → ∃ j : Nat, D.B[j]? = some (b, o)) : Dfs C D' a b := by
  obtain ⟨l, m, e⟩ := h
  refine ⟨l, ⟨m.nd, fun x hx => ?_⟩, e⟩
  obtain ⟨h1, h2, h3⟩ := m.at_ x hx
  exact ⟨h1, by rw [hw]; exact h2, fun i o hi => let ⟨j, hj⟩ := hB i x o hi; h3 j o hj⟩
theorem wpIn_scope_straight {F : Fence} {n : Nat} {P : Program} {Q : Exit → Act → World → Prop} {a : Act} {w : World} {c : Code} (h : c.wpIn F n P (Exit.noGoto Q) a w) : (Code.scope c).wpIn F n P Q a w := by
  intro b k cs hro hb hr
  have s1 : ∀ (a : Act) (w : World), step P (lone (b.atR a (.code (.scope c) :: k)) cs w) = .next (lone (b.atR a (.code c :: .inScope c :: k)) cs w) := fun a w => step_lone_go (by simp [stepG, stepG.exec, Frame.atR])
  have s2 : ∀ (a : Act) (w : World), step P (lone (b.atR a (.inScope c :: k)) cs w) = .next (lone (b.atR a k) cs w) := fun a w => step_lone_go (by simp [stepG, stepG.exec, Frame.atR])
  have h0 : (lone (b.atR a (.code (.scope c) :: k)) cs w).fenced P F := fenced_calm hb hr rfl
  obtain ⟨e, a₁, w₁, hq, harr⟩ := h b (.inScope c :: k) cs hro hb hr
  cases e with
  | normal => exact ⟨.normal, a₁, w₁, hq, .of_steps (.one h0 (s1 a w)) (StepsIn.trans harr (.one (fenced_calm hb hr rfl) (s2 a₁ w₁)))⟩
  | exit id => exact ⟨.exit id, a₁, w₁, hq, .of_steps (.one h0 (s1 a w)) ⟨fun k' hk => harr.1 k' (by simp [exitTo, hk]), fun h1 h2 => harr.2 h1 (by simp only [exitTo]; exact h2)⟩⟩
  | goto l => exact hq.elim
  | ret => exact ⟨_, a₁, w₁, hq, .of_steps (.one h0 (s1 a w)) harr⟩
  | panic ch => exact ⟨_, a₁, w₁, hq, .of_steps (.one h0 (s1 a w)) harr⟩
  | outgrown => exact ⟨_, a₁, w₁, hq, .of_steps (.one h0 (s1 a w)) harr⟩
def IR.plain : IR → Bool
  | .skip => true
  | .items _ => true
  | .seq a b => a.plain && b.plain
  | .cond _ a b => a.plain && b.plain
  | .block _ _ b => b.plain
  | .loop _ b => b.plain
  | .exit _ _ => true
  | .ret _ => true
  | .rfn _ _ _ _ => false
theorem getL_ok {C : Ctx} {e : Env} {a : Act} (hE : EnvR C e a) : ∀ {l : List Nat} {vs : List AV}, getL e l = some vs → ∃ cs, VRt C vs cs ∧ cs.length = l.length ∧ ∀ j t : Nat, l[j]? = some t → a.tmps[t]? = cs[j]?
  | [], vs, h => by
    simp only [getL, Option.some.injEq] at h; subst h
    exact ⟨[], by simp only [VRt], rfl, fun j t h => by simp at h⟩
  | t :: l, vs, h => by
    simp only [getL] at h
    split at h
    · rename_i v k1
      split at h
      · rename_i vs' k2
        cases h
        obtain ⟨c, h1, h2⟩ := hE t v k1
        obtain ⟨cs, h3, h4, h5⟩ := getL_ok hE k2
        refine ⟨c :: cs, by simp only [VRt]; exact ⟨c, cs, rfl, h2, h3⟩, by simp [h4], fun j t' hj => ?_⟩
        cases j with
        | zero => simp only [List.getElem?_cons_zero, Option.some.injEq] at hj; subst hj; simpa using h1
        | succ j => simp only [List.getElem?_cons_succ] at hj ⊢; exact h5 j t' hj
      · cases h
    · cases h
theorem rfn_ok (hr : RawOK P G raw) (hsc : RawSc raw) (hG : GRo G) (hm : P.follows .mixedOrders = true) (n : Nat) (g : Opd) (k : Nat) (vars live : List Nat) : ∀ (code : Code) (dom : List Nat) (fl : Fl) (dom' : List Nat), chk P N code (.rfn g k vars live) dom = some (fl, dom') → fl = IR.fl (.rfn g k vars live) → (ρ = none ∨ IR.plain (.rfn g k vars live) = true) →
    ∀ (C : Ctx) (e : Env) (a : Act) (s : Sig) (e' : Env) (st' : Store), C.OK → GlobR C G → EnvR C e a → a.tmps.size = N → inDom e dom → IR.run G raw bases n (.rfn g k vars live) e C.st = some (s, e', st') →
    ∀ Q : Exit → Act → World → Prop, (∀ D a', Ext C D → D.OK → D.st = st' → EnvR D e' a' → a'.tmps.size = N → Dfs C D a a' → Q (sigX s) a' D.w) → code.wpIn (FW ρ) 0 P Q a C.w := by
  intro code dom fl dom' hc hfl hp C e a s e' st' hO hg hE hN hd h Q hQ
  rcases hp with rfl | hp
  rotate_left
  · cases hp
  rcases chk_inv hc with ⟨_, h0⟩ | ⟨_, _, _, _, _, h0⟩ | ⟨_, _, _, _, _, h0⟩ | ⟨_, _, _, _, _, _, h0⟩ | ⟨_, _, _, _, _, _, h0⟩ | ⟨_, _, _, _, _, h0⟩ | ⟨_, _, _, _, h0⟩ | ⟨_, _, _, h0⟩ | ⟨_, _, h0⟩ | ⟨_, _, h0⟩ | ⟨_, _, _, h0⟩ | ⟨t, ps, asg, body, _, _, _, rfl, h0⟩ <;> first | (cases h0; done) | skip
  cases h0
  simp only [chk] at hc
  split at hc
  rotate_left
  · cases hc
  rename_i hbig
  simp only [Option.some.injEq, Prod.mk.injEq] at hc
  obtain ⟨h1, rfl⟩ := hc
  rw [hfl] at h1
  simp only [IR.fl, Fl.lp.injEq] at h1
  simp only [IR.run] at h
  split at h
  rotate_left
  · cases h
  rename_i f caps k1
  split at h
  rotate_left
  · cases h
  rename_i env k2
  split at h
  rotate_left
  · cases h
  rename_i r0 st2 k3
  obtain ⟨cc, g1, g2⟩ := hE t _ k1
  have hfv := g2
  simp only [VR] at g2
  obtain ⟨ccs, ⟨rfl, hlt⟩, g3⟩ := g2
  obtain ⟨cs, c1, c2, c3⟩ := getL_ok hE k2
  have hev : a.eval (.tmp t) = .func (.func f) #[] ccs := eval_tmp g1
  refine wpIn_rangeFunc ?_
  intro fn _
  let q : Loop := { state := .ready, pending := none, fn := fn, tmps := a.tmps, params := ps, assign := asg, body := body, defers := C.w.heap.size }
  let w1 : World := (C.w.alloc (.deferred (some []))).alloc (.loop q)
  have hb1 : RowKit.Below C.w.heap.size C.w w1 := (below_alloc C.w _).trans ((below_alloc _ _).mono (by simp))
  have hA : LoopAt k .rdy q cs := by
    refine ⟨hbig.2, by rw [← h1], by rw [← h1], by rw [← h1], by rw [← h1]; exact hN, ⟨rfl, rfl⟩, by rw [← h1]; exact c2, fun j t' hj => ?_⟩
    rw [← h1] at hj
    exact c3 j t' hj
  have hh0 : w1.heap[C.w.heap.size]? = some (.deferred (some [])) := by
    show ((C.w.heap.push _).push _)[C.w.heap.size]? = _
    rw [Array.getElem?_push, if_neg (by simp), Array.getElem?_push, if_pos rfl]
  have hh1 : w1.heap[C.w.heap.size + 1]? = some (.loop q) := by
    show ((C.w.heap.push _).push _)[C.w.heap.size + 1]? = _
    rw [Array.getElem?_push, if_pos (by simp)]
  have hx1 := ext_push hO hb1 (b := C.w.heap.size + 1) (o := 0) (.loop k env .rdy) (Nat.le_succ _)
  have hO1 : (C.push w1 (C.w.heap.size + 1) 0 (.loop k env .rdy)).OK := ok_push hO hb1 (Nat.le_succ _) ⟨q, cs, hh1, hA, VRt_ext hx1 c1⟩
  have hyl : VRt (C.push w1 (C.w.heap.size + 1) 0 (.loop k env .rdy)) [.yl C.st.length] [.func (.yield (C.w.heap.size + 1)) #[] #[]] := by
    simp only [VRt, VR]
    exact ⟨_, _, rfl, ⟨k, env, .rdy, _, 0, push_st, push_B hO, rfl⟩, rfl⟩
  have hcall := callM_ok hr hsc hG hO1 (hg.ext hx1) (VR_ext hx1 hfv) hyl k3
  rcases hcall with ⟨f', ccs', e1, e2⟩ | ⟨_, _, _, _, _, e1, _⟩
  rotate_left
  · cases e1
  cases e1
  refine ⟨C.w.heap.size + 1, [markD C.w.heap.size], w1, ⟨.fn (.func f) ccs, #[.func (.yield (C.w.heap.size + 1)) #[] #[]]⟩, w1, f, #[.func (.yield (C.w.heap.size + 1)) #[] #[]] ++ ccs, w1, run_enterLoop_outer fn a.tmps ps asg body, ?_, fun _ _ => trivial, ?_, FW_depth none, ?_⟩
  · simp only [resolve, hev, Deferred.ofValue, Sem.run_bind, Sem.run_pure, Result.andThen_ok]
    simp [Act.eval]
  · simp only [invoke]
    exact e2.1 _ _
  · have e3 := callsIn_wide (n := 0) |>.2 e2.2
    rw [show ([Value.func (.yield (C.w.heap.size + 1)) #[] #[]] ++ ccs.toList).toArray = #[.func (.yield (C.w.heap.size + 1)) #[] #[]] ++ ccs from by simp] at e3
    refine CallsIn.mono (F := Fence.wide) e3 ?_
    intro e4 w4 he
    cases e4 with
    | panicked _ => exact he.elim
    | outgrown => exact he.elim
    | returned v =>
      obtain ⟨D, rfl, hx2, hO2, rfl, _⟩ := he
      have hx02 := hx1.trans hx2
      have hm0 : Marks C (C.push w1 (C.w.heap.size + 1) 0 (.loop k env .rdy)) [C.w.heap.size] := by
        refine ⟨by simp, fun x hx => ?_⟩
        simp only [List.mem_singleton] at hx
        subst hx
        refine ⟨Nat.le_refl _, hh0, fun i o hi => ?_⟩
        rcases app_get hi with hi | ⟨_, hi⟩
        · have := hO.lt hi; omega
        · injection hi with hi _; omega
      unfold rfnK at h
      split at h
      rotate_left
      · cases h
      rename_i kk env2 s2 j1
      obtain ⟨ob', j2, j3, j4⟩ := hx2.ids C.st.length _ push_st
      rw [j1] at j2
      cases j2
      have hkk : kk = k := j3
      subst hkk
      have hB2 : D.B[C.st.length]? = some (C.w.heap.size + 1, 0) := by
        rcases j4 with ⟨_, j4⟩ | j4
        · rw [j4]; exact push_B hO
        · exact absurd j4 (by simp [Ob.moved])
      obtain ⟨q2, cs2, hh2, hA2, hvc2⟩ := hO2.obs _ _ _ _ j1 hB2
      have hA3 : LoopAt kk .over { q2 with state := .exhausted } cs2 := ⟨hA2.big, hA2.ps, hA2.asg, hA2.body, hA2.n, trivial, hA2.len, hA2.at_⟩
      obtain ⟨hx3, hO3⟩ := turn_loop hO2 j1 hB2 hh2 hA3 hvc2
      have fin : ∀ (s : Sig) (e' : Env) (st' : Store), (∀ D a', Ext C D → D.OK → D.st = st' → EnvR D e' a' → a'.tmps.size = N → Dfs C D a a' → Q (sigX s) a' D.w) → compact bases C.st.length live e (D.st.set C.st.length (.loop kk env2 .over)) = (e', st') →
          Q (sigX s) { a with defers := [markD C.w.heap.size] ++ a.defers } (D.w.putObj (C.w.heap.size + 1) (.loop { q2 with state := .exhausted })) := by
        intro s e' st' hQ hcp
        obtain ⟨D5, z1, z2, z3, z4, z5, z6⟩ := compact_ok2 (hx02.trans hx3) hO3 hcp
        have hE4 : EnvR (D.set (D.w.putObj (C.w.heap.size + 1) (.loop { q2 with state := .exhausted })) C.st.length (C.w.heap.size + 1) 0 (.loop kk env2 .over)) e { a with defers := [markD C.w.heap.size] ++ a.defers } := hE.ext (hx02.trans hx3)
        have := hQ D5 { a with defers := [markD C.w.heap.size] ++ a.defers } z2 z3 z4 (EnvR_comp hE4 z5) hN ((show Dfs C _ a _ from ⟨[C.w.heap.size], (hm0.ext hx2).ext hx3, rfl⟩).comp z1 z6)
        rw [z1] at this
        exact this
      split at h
      · simp only [Option.some.injEq, Prod.mk.injEq] at h
        obtain ⟨rfl, h⟩ := h
        refine ⟨_, _, run_endLoop hh2 (by rw [hA2.s.1]; simp), ?_⟩
        have f := fin .norm e' st' hQ h
        rw [hA2.s.2] at f ⊢
        exact f
      · rename_i nn
        simp only [Option.some.injEq, Prod.mk.injEq] at h
        obtain ⟨rfl, h⟩ := h
        refine ⟨_, _, run_endLoop hh2 (by rw [hA2.s.1]; simp), ?_⟩
        have f := fin _ e' st' hQ h
        rw [hA2.s.2] at f ⊢
        show (jumpC nn).wpIn _ _ _ _ _ _
        match nn, f with
        | 0, this => exact wpIn_skip this
        | 1, this => exact wpIn_ret this
        | m + 2, this => exact wpIn_exit this
      · cases h
theorem IR_ok (hr : RawOK P G raw) (hsc : RawSc raw) (hG : GRo G) (hm : P.follows .mixedOrders = true) (n : Nat) : ∀ (ir : IR) (code : Code) (dom : List Nat) (fl : Fl) (dom' : List Nat), chk P N code ir dom = some (fl, dom') → fl = ir.fl → (ρ = none ∨ ir.plain = true) →
    ∀ (C : Ctx) (e : Env) (a : Act) (s : Sig) (e' : Env) (st' : Store), C.OK → GlobR C G → EnvR C e a → a.tmps.size = N → inDom e dom → IR.run G raw bases n ir e C.st = some (s, e', st') →
    ∀ Q : Exit → Act → World → Prop, (∀ D a', Ext C D → D.OK → D.st = st' → EnvR D e' a' → a'.tmps.size = N → Dfs C D a a' → Q (sigX s) a' D.w) → code.wpIn (FW ρ) 0 P Q a C.w := by
  intro ir
  induction ir with
  | skip =>
    intro code dom fl dom' hc hfl hp C e a s e' st' hO hg hE hN hd h Q hQ
    rcases chk_inv hc with ⟨hsk, _⟩ | ⟨_, _, _, _, _, h0⟩ | ⟨_, _, _, _, _, h0⟩ | ⟨_, _, _, _, _, _, h0⟩ | ⟨_, _, _, _, _, _, h0⟩ | ⟨_, _, _, _, _, h0⟩ | ⟨_, _, _, _, h0⟩ | ⟨_, _, _, h0⟩ | ⟨_, _, h0⟩ | ⟨_, _, h0⟩ | ⟨_, _, _, h0⟩ | ⟨_, _, _, _, _, _, _, _, h0⟩ <;> first | (cases h0; done) | skip
    cases h
    rcases hsk with rfl | ⟨l, rfl⟩
    · exact wpIn_skip (hQ C a (Ext.refl C) hO rfl hE hN (Dfs.same _ _ rfl))
    · exact wpIn_label (hQ C a (Ext.refl C) hO rfl hE hN (Dfs.same _ _ rfl))
  | items l =>
    intro code dom fl dom' hc hfl hp C e a s e' st' hO hg hE hN hd h Q hQ
    rcases chk_inv hc with ⟨_, h0⟩ | ⟨id, ops, draw, _, rfl, h0⟩ | ⟨_, _, _, _, _, h0⟩ | ⟨_, _, _, _, _, _, h0⟩ | ⟨_, _, _, _, _, _, h0⟩ | ⟨_, _, _, _, _, h0⟩ | ⟨_, _, _, _, h0⟩ | ⟨_, _, _, h0⟩ | ⟨_, _, h0⟩ | ⟨_, _, h0⟩ | ⟨_, _, _, h0⟩ | ⟨_, _, _, _, _, _, _, _, h0⟩ <;> first | (cases h0; done) | skip
    simp only [IR.run] at h
    split at h
    · rename_i e1 st1 k1
      cases h
      exact items_ok hr hsc hG hm hc hfl hO hg hE hN hd k1 Q (fun D a' q1 q2 q3 q4 q5 q6 => hQ D a' q1 q2 q3 q4 q5 (Dfs.same _ _ q6))
    · cases h
  | seq x y ihx ihy =>
    intro code dom fl dom' hc hfl hp C e a s e' st' hO hg hE hN hd h Q hQ
    rcases chk_inv hc with ⟨_, h0⟩ | ⟨_, _, _, _, _, h0⟩ | ⟨c1, c2, _, _, rfl, h0⟩ | ⟨_, _, _, _, _, _, h0⟩ | ⟨_, _, _, _, _, _, h0⟩ | ⟨_, _, _, _, _, h0⟩ | ⟨_, _, _, _, h0⟩ | ⟨_, _, _, h0⟩ | ⟨_, _, h0⟩ | ⟨_, _, h0⟩ | ⟨c1, _, rfl, h0⟩ | ⟨_, _, _, _, _, _, _, _, h0⟩ <;> first | (cases h0; done) | skip
    · cases h0
      simp only [chk, Option.bind_eq_some_iff, Option.some.injEq, Prod.mk.injEq] at hc
      obtain ⟨⟨f1, d1⟩, h1, ⟨f2, d2⟩, h2, h3, rfl⟩ := hc
      rw [hfl] at h3
      simp only [IR.fl, Fl.two.injEq] at h3
      simp only [IR.run] at h
      have hp1 : ρ = none ∨ x.plain = true := hp.imp id fun h => by simp only [IR.plain, Bool.and_eq_true] at h; exact h.1
      have hp2 : ρ = none ∨ y.plain = true := hp.imp id fun h => by simp only [IR.plain, Bool.and_eq_true] at h; exact h.2
      apply wpIn_seq
      cases k : IR.run G raw bases n x e C.st with
      | none => rw [k] at h; cases h
      | some z =>
        obtain ⟨s1, e1, st1⟩ := z
        rw [k] at h
        cases s1 with
        | norm =>
          simp only at h
          refine ihx c1 dom f1 d1 h1 h3.1 hp1 C e a .norm e1 st1 hO hg hE hN hd k _ ?_
          intro D a' q1 q2 q3 q4 q5 q6
          show c2.wpIn (FW ρ) 0 P Q a' D.w
          refine ihy c2 d1 f2 d2 h2 h3.2 hp2 D e1 a' s e' st' q2 (hg.ext q1) q4 q5 (dom_ok n x c1 dom f1 d1 h1 e C.st e1 st1 hd k) (by rw [q3]; exact h) Q ?_
          exact fun D2 a2 r1 r2 r3 r4 r5 r6 => hQ D2 a2 (q1.trans r1) r2 r3 r4 r5 (q6.trans q1 r1 r6)
        | exit i =>
          cases h
          exact ihx c1 dom f1 d1 h1 h3.1 hp1 C e a (.exit i) _ _ hO hg hE hN hd k _ (fun D a' q1 q2 q3 q4 q5 q6 => hQ D a' q1 q2 q3 q4 q5 q6)
        | ret =>
          cases h
          exact ihx c1 dom f1 d1 h1 h3.1 hp1 C e a .ret _ _ hO hg hE hN hd k _ (fun D a' q1 q2 q3 q4 q5 q6 => hQ D a' q1 q2 q3 q4 q5 q6)
    · cases h0
      simp only [chk, Option.bind_eq_some_iff, Option.some.injEq, Prod.mk.injEq] at hc
      obtain ⟨⟨f1, d1⟩, h1, h3, rfl⟩ := hc
      rw [hfl] at h3
      simp only [IR.fl, Fl.two.injEq] at h3
      simp only [IR.run] at h
      have hp1 : ρ = none ∨ x.plain = true := hp.imp id fun h => by simp only [IR.plain, Bool.and_eq_true] at h; exact h.1
      apply wpIn_scope_straight
      cases k : IR.run G raw bases n x e C.st with
      | none => rw [k] at h; cases h
      | some z =>
        obtain ⟨s1, e1, st1⟩ := z
        rw [k] at h
        cases s1 <;> cases h <;> exact ihx c1 dom f1 d1 h1 h3.1 hp1 C e a _ _ _ hO hg hE hN hd k _ (fun D a' q1 q2 q3 q4 q5 q6 => hQ D a' q1 q2 q3 q4 q5 q6)
  | cond c x y ihx ihy =>
    intro code dom fl dom' hc hfl hp C e a s e' st' hO hg hE hN hd h Q hQ
    rcases chk_inv hc with ⟨_, h0⟩ | ⟨_, _, _, _, _, h0⟩ | ⟨_, _, _, _, _, h0⟩ | ⟨t, c1, c2, _, _, rfl, h0⟩ | ⟨v0, c1, c2, _, _, rfl, h0⟩ | ⟨_, _, _, _, _, h0⟩ | ⟨_, _, _, _, h0⟩ | ⟨_, _, _, h0⟩ | ⟨_, _, h0⟩ | ⟨_, _, h0⟩ | ⟨_, _, _, h0⟩ | ⟨_, _, _, _, _, _, _, _, h0⟩ <;> first | (cases h0; done) | skip
    · cases h0
      simp only [chk, if_true, Option.bind_eq_some_iff, Option.some.injEq, Prod.mk.injEq] at hc
      obtain ⟨⟨f1, d1⟩, h1, ⟨f2, d2⟩, h2, h3, rfl⟩ := hc
      rw [hfl] at h3
      simp only [IR.fl, Fl.two.injEq] at h3
      simp only [IR.run] at h
      split at h
      · rename_i b hb
        obtain ⟨cc, g1, g2⟩ := hE t _ hb
        have := VR_plain g2
        subst this
        have hp1 : ρ = none ∨ x.plain = true := hp.imp id fun h => by simp only [IR.plain, Bool.and_eq_true] at h; exact h.1
        have hp2 : ρ = none ∨ y.plain = true := hp.imp id fun h => by simp only [IR.plain, Bool.and_eq_true] at h; exact h.2
        refine wpIn_cond (t := b) (eval_tmp g1) ?_
        split at h
        · rename_i hb2
          subst hb2
          exact ihx c1 dom f1 d1 h1 h3.1 hp1 C e a s e' st' hO hg hE hN hd h Q hQ
        · rename_i hb2
          rw [if_neg hb2]
          exact ihy c2 dom f2 d2 h2 h3.2 hp2 C e a s e' st' hO hg hE hN hd h Q hQ
      · cases h
    · cases h0
      simp only [chk, if_true, Option.bind_eq_some_iff, Option.some.injEq, Prod.mk.injEq] at hc
      obtain ⟨⟨f1, d1⟩, h1, ⟨f2, d2⟩, h2, h3, rfl⟩ := hc
      rw [hfl] at h3
      simp only [IR.fl, Fl.two.injEq] at h3
      simp only [IR.run] at h
      split at h
      · rename_i b hb
        simp only [Opd.ev, Option.some.injEq, AV.v.injEq, Value.bool.injEq] at hb
        subst hb
        have hp1 : ρ = none ∨ x.plain = true := hp.imp id fun h => by simp only [IR.plain, Bool.and_eq_true] at h; exact h.1
        have hp2 : ρ = none ∨ y.plain = true := hp.imp id fun h => by simp only [IR.plain, Bool.and_eq_true] at h; exact h.2
        refine wpIn_cond (t := v0) rfl ?_
        split at h
        · rename_i hb2
          subst hb2
          exact ihx c1 dom f1 d1 h1 h3.1 hp1 C e a s e' st' hO hg hE hN hd h Q hQ
        · rename_i hb2
          rw [if_neg hb2]
          exact ihy c2 dom f2 d2 h2 h3.2 hp2 C e a s e' st' hO hg hE hN hd h Q hQ
      · cases h
    · cases h0; cases h
  | block id live x ih =>
    intro code dom fl dom' hc hfl hp C e a s e' st' hO hg hE hN hd h Q hQ
    rcases chk_inv hc with ⟨_, h0⟩ | ⟨_, _, _, _, _, h0⟩ | ⟨_, _, _, _, _, h0⟩ | ⟨_, _, _, _, _, _, h0⟩ | ⟨_, _, _, _, _, _, h0⟩ | ⟨_, c1, _, _, rfl, h0⟩ | ⟨_, _, _, _, h0⟩ | ⟨_, _, _, h0⟩ | ⟨_, _, h0⟩ | ⟨_, _, h0⟩ | ⟨_, _, _, h0⟩ | ⟨_, _, _, _, _, _, _, _, h0⟩ <;> first | (cases h0; done) | skip
    cases h0
    simp only [chk, if_true, Option.bind_eq_some_iff, Option.some.injEq, Prod.mk.injEq] at hc
    obtain ⟨⟨f1, d1⟩, h1, h3, rfl⟩ := hc
    rw [hfl] at h3
    simp only [IR.fl] at h3
    simp only [IR.run] at h
    have hp1 : ρ = none ∨ x.plain = true := hp.imp (fun h => h) fun h => by simp only [IR.plain] at h; exact h
    apply wpIn_block
    split at h
    · rename_i e1 st1 k
      simp only [Option.some.injEq, Prod.mk.injEq] at h
      obtain ⟨rfl, h⟩ := h
      refine ih c1 dom f1 d1 h1 h3 hp1 C e a .norm _ _ hO hg hE hN hd k _ ?_
      intro D a' q1 q2 q3 q4 q5 q6
      rw [← q3] at h
      obtain ⟨D2, z1, z2, z3, z4, z5, z6⟩ := compact_ok2 q1 q2 h
      rw [← z1]
      exact hQ D2 a' z2 z3 z4 (EnvR_comp q4 z5) q5 (q6.comp z1 z6)
    · rename_i i e1 st1 k
      refine ih c1 dom f1 d1 h1 h3 hp1 C e a (.exit i) e1 st1 hO hg hE hN hd k _ ?_
      intro D a' q1 q2 q3 q4 q5 q6
      simp only [sigX, Exit.inBlock]
      split at h
      · rename_i hi
        rw [if_pos hi]
        simp only [Option.some.injEq, Prod.mk.injEq] at h
        obtain ⟨rfl, h⟩ := h
        rw [← q3] at h
        obtain ⟨D2, z1, z2, z3, z4, z5, z6⟩ := compact_ok2 q1 q2 h
        rw [← z1]
        exact hQ D2 a' z2 z3 z4 (EnvR_comp q4 z5) q5 (q6.comp z1 z6)
      · rename_i hi
        rw [if_neg hi]
        cases h
        exact hQ D a' q1 q2 q3 q4 q5 q6
    · rename_i hn1 hn2
      cases s with
      | norm => exact absurd h (hn1 _ _)
      | exit i => exact absurd h (hn2 _ _ _)
      | ret => exact ih c1 dom f1 d1 h1 h3 hp1 C e a .ret e' st' hO hg hE hN hd h _ (fun D a' q1 q2 q3 q4 q5 q6 => hQ D a' q1 q2 q3 q4 q5 q6)
  | loop live x ih =>
    intro code dom fl dom' hc hfl hp C e a s e' st' hO hg hE hN hd h Q hQ
    rcases chk_inv hc with ⟨_, h0⟩ | ⟨_, _, _, _, _, h0⟩ | ⟨_, _, _, _, _, h0⟩ | ⟨_, _, _, _, _, _, h0⟩ | ⟨_, _, _, _, _, _, h0⟩ | ⟨_, _, _, _, _, h0⟩ | ⟨c1, _, _, rfl, h0⟩ | ⟨_, _, _, h0⟩ | ⟨_, _, h0⟩ | ⟨_, _, h0⟩ | ⟨_, _, _, h0⟩ | ⟨_, _, _, _, _, _, _, _, h0⟩ <;> first | (cases h0; done) | skip
    cases h0
    simp only [chk, Option.bind_eq_some_iff, Option.some.injEq, Prod.mk.injEq] at hc
    obtain ⟨⟨f1, d1⟩, h1, h3, rfl⟩ := hc
    rw [hfl] at h3
    simp only [IR.fl] at h3
    simp only [IR.run] at h
    have hp1 : ρ = none ∨ x.plain = true := hp.imp (fun h => h) fun h => by simp only [IR.plain] at h; exact h
    let J : Act → World → Nat → Prop := fun a1 w1 k => ∃ (D : Ctx) (e1 : Env), D.w = w1 ∧ Ext C D ∧ D.OK ∧ EnvR D e1 a1 ∧ a1.tmps.size = N ∧ Dfs C D a a1 ∧ iter (IR.run G raw bases n x) (compact bases C.st.length live) k e1 D.st = some (s, e', st')
    let μ : Act → World → Nat := fun a1 w1 => Classical.epsilon fun k => J a1 w1 k ∧ ∀ j, j < k → ¬ J a1 w1 j
    have hμ : ∀ a1 w1, (∃ k, J a1 w1 k) → J a1 w1 (μ a1 w1) ∧ ∀ j, j < μ a1 w1 → ¬ J a1 w1 j := fun a1 w1 hk => Classical.epsilon_spec (least hk)
    refine wpIn_loop (fun a1 w1 => ∃ k, J a1 w1 k) μ ⟨n, C, e, rfl, Ext.refl C, hO, hE, hN, Dfs.same _ _ rfl, h⟩ ?_
    intro a1 w1 hI
    obtain ⟨hJ, hmin⟩ := hμ a1 w1 hI
    generalize hk : μ a1 w1 = k at hJ hmin
    obtain ⟨D, e1, rfl, r1, r2, r3, r4, r5, r6⟩ := hJ
    cases k with
    | zero => cases r6
    | succ k =>
      simp only [iter] at r6
      generalize hcp : compact bases C.st.length live e1 D.st = cp at r6
      obtain ⟨e3, st3⟩ := cp
      have hd2 : inDom e3 live := fun t v ht => compact_get (by rw [hcp]; exact ht)
      obtain ⟨D3, z1, z2, z3, z4, z5, z6⟩ := compact_ok2 r1 r2 hcp
      have r5 := r5.comp z1 z6
      have hE3 : EnvR D3 e3 a1 := EnvR_comp r3 z5
      subst z4
      rw [← z1]
      cases q : IR.run G raw bases n x e3 D3.st with
      | none => rw [q] at r6; cases r6
      | some z =>
        obtain ⟨s2, e2, st2⟩ := z
        rw [q] at r6
        cases s2 with
        | norm =>
          simp only at r6
          refine ih c1 live f1 d1 h1 h3 hp1 D3 e3 a1 .norm e2 st2 z3 (hg.ext z2) hE3 r4 hd2 q _ ?_
          intro D2 a2 q1 q2 q3 q4 q5 q6
          have hJ2 : J a2 D2.w k := ⟨D2, e2, rfl, z2.trans q1, q2, q4, q5, r5.trans z2 q1 q6, by rw [q3]; exact r6⟩
          refine ⟨⟨k, hJ2⟩, ?_⟩
          rcases Nat.lt_or_ge (μ a2 D2.w) (k + 1) with hlt | hge
          · exact hlt
          · exact absurd hJ2 ((hμ a2 D2.w ⟨k, hJ2⟩).2 k (by omega))
        | exit i =>
          cases r6
          exact ih c1 live f1 d1 h1 h3 hp1 D3 e3 a1 (.exit i) e' st' z3 (hg.ext z2) hE3 r4 hd2 q _ (fun D2 a2 q1 q2 q3 q4 q5 q6 => hQ D2 a2 (z2.trans q1) q2 q3 q4 q5 (r5.trans z2 q1 q6))
        | ret =>
          cases r6
          exact ih c1 live f1 d1 h1 h3 hp1 D3 e3 a1 .ret e' st' z3 (hg.ext z2) hE3 r4 hd2 q _ (fun D2 a2 q1 q2 q3 q4 q5 q6 => hQ D2 a2 (z2.trans q1) q2 q3 q4 q5 (r5.trans z2 q1 q6))
  | exit i live =>
    intro code dom fl dom' hc hfl hp C e a s e' st' hO hg hE hN hd h Q hQ
    rcases chk_inv hc with ⟨_, h0⟩ | ⟨_, _, _, _, _, h0⟩ | ⟨_, _, _, _, _, h0⟩ | ⟨_, _, _, _, _, _, h0⟩ | ⟨_, _, _, _, _, _, h0⟩ | ⟨_, _, _, _, _, h0⟩ | ⟨_, _, _, _, h0⟩ | ⟨_, _, rfl, h0⟩ | ⟨_, _, h0⟩ | ⟨_, _, h0⟩ | ⟨_, _, _, h0⟩ | ⟨_, _, _, _, _, _, _, _, h0⟩ <;> first | (cases h0; done) | skip
    cases h0
    cases h
    exact wpIn_exit (hQ C a (Ext.refl C) hO rfl (EnvR_keep hE _) hN (Dfs.same _ _ rfl))
  | ret live =>
    intro code dom fl dom' hc hfl hp C e a s e' st' hO hg hE hN hd h Q hQ
    rcases chk_inv hc with ⟨_, h0⟩ | ⟨_, _, _, _, _, h0⟩ | ⟨_, _, _, _, _, h0⟩ | ⟨_, _, _, _, _, _, h0⟩ | ⟨_, _, _, _, _, _, h0⟩ | ⟨_, _, _, _, _, h0⟩ | ⟨_, _, _, _, h0⟩ | ⟨_, _, _, h0⟩ | ⟨_, rfl, h0⟩ | ⟨_, _, h0⟩ | ⟨_, _, _, h0⟩ | ⟨_, _, _, _, _, _, _, _, h0⟩ <;> first | (cases h0; done) | skip
    cases h
    exact wpIn_ret (hQ C a (Ext.refl C) hO rfl (EnvR_keep hE _) hN (Dfs.same _ _ rfl))
  | rfn g k vars live => exact rfn_ok hr hsc hG hm n g k vars live
end
end Go.Proofs.YtoobogpbejdocaaDoor.Ev
