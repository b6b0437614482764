import Derived.Test.YtoobogpbejdocaaDoorEvAny
set_option linter.unusedVariables false
set_option linter.unusedSectionVars false
set_option linter.unusedSimpArgs false
namespace Go.Proofs.YtoobogpbejdocaaDoor.Ev
mutual
def Item.dst : Item → List Nat
  | .op d _ => d.toList
  | .opr d _ _ => d.toList
  | .call d _ _ _ => d.toList
  | .gand d _ sub _ => Item.dsts sub ++ [d]
  | .gor d _ sub _ => Item.dsts sub ++ [d]
  | .gif _ _ sub => Item.dsts sub
def Item.dsts : List Item → List Nat
  | [] => []
  | i :: is => Item.dst i ++ Item.dsts is
end
mutual
def Item.sk (U : List Nat) : Item → Bool
  | .op _ _ => true
  | .opr _ _ _ => true
  | .call _ _ _ _ => true
  | .gand _ (.t c) sub _ => U.contains c && !(Item.dsts sub).contains c && Item.sks U sub
  | .gor _ (.t c) sub _ => U.contains c && !(Item.dsts sub).contains c && Item.sks U sub
  | .gif (.t c) _ sub => U.contains c && !(Item.dsts sub).contains c && Item.sks U sub
  | _ => false
def Item.sks (U : List Nat) : List Item → Bool
  | [] => true
  | i :: is => Item.sk U i && Item.sks (Item.dst i ++ U) is
end
def Item.out : Item → List Nat
  | .op d _ => d.toList
  | .opr d _ _ => d.toList
  | .call d _ _ _ => d.toList
  | .gand d _ _ _ => [d]
  | .gor d _ _ _ => [d]
  | .gif _ _ sub => Item.dsts sub
def notIn (l m : List Nat) : Bool := l.all fun t => !m.contains t
mutual
def Item.wf (dom : List Nat) : Item → Bool
  | .op _ _ => true
  | .opr _ _ _ => true
  | .call _ _ _ _ => true
  | .gand _ (.t c) sub _ => !(Item.dsts sub).contains c && Item.sks [] sub && notIn (Item.dsts sub) dom && Item.wfs [c] dom sub
  | .gor _ (.t c) sub _ => !(Item.dsts sub).contains c && Item.sks [] sub && notIn (Item.dsts sub) dom && Item.wfs [c] dom sub
  | .gif (.t c) _ sub => !(Item.dsts sub).contains c && Item.sks [] sub && notIn (Item.dsts sub) dom && Item.wfs [c] dom sub
  | _ => false
def Item.wfs (g : List Nat) (dom : List Nat) : List Item → Bool
  | [] => true
  | i :: is => Item.wf dom i && notIn g (Item.dst i) && Item.wfs g (Item.out i ++ dom) is
end
def gts : Option (Nat × Bool) → List Nat
  | some (c, _) => [c]
  | none => []
def wantG (g : Option (Nat × Bool)) (e : Env) : Option Bool :=
  match g with
  | none => some true
  | some (c, w) => match e.get c with
    | some (.v (.bool b)) => some (b == w)
    | some (.tup []) => some false
    | _ => none
theorem notIn_iff {l m : List Nat} : notIn l m = true ↔ ∀ t, t ∈ l → t ∉ m := by
  simp [notIn, List.all_eq_true]
def Sub (e e1 : Env) : Prop := ∀ t v, e.get t = some v → e1.get t = some v
section
variable {G : Nat → Option (List AV)} {raw : Raw} {bases : List Nat}
theorem runs_app : ∀ {a b : List FO} {e : Env} {st : Store} {e1 : Env} {st1 : Store}, FO.runs G raw bases a e st = some (e1, st1) → FO.runs G raw bases (a ++ b) e st = FO.runs G raw bases b e1 st1
  | [], b, e, st, e1, st1, h => by
    simp only [FO.runs, Option.some.injEq, Prod.mk.injEq] at h
    obtain ⟨rfl, rfl⟩ := h
    rfl
  | f :: a, b, e, st, e1, st1, h => by
    simp only [FO.runs] at h
    simp only [List.cons_append, FO.runs]
    split at h
    · rename_i r st2 k1
      exact runs_app h
    · cases h
theorem want_eq (f : FO) (e : Env) : f.want e = wantG f.g e := by
  unfold FO.want wantG; rfl
theorem wantG_congr {g : Option (Nat × Bool)} {e e1 : Env} (h : ∀ t, t ∈ gts g → e1.get t = e.get t) : wantG g e1 = wantG g e := by
  cases g with
  | none => rfl
  | some x => obtain ⟨c, w⟩ := x; simp only [wantG, h c (by simp [gts])]
theorem skip_one {f : FO} {e : Env} {st : Store} (h : wantG f.g e = some false) : FO.runs G raw bases [f] e st = some (Env.put e f.d (.tup []), st) := by
  simp only [FO.runs, FO.run, want_eq, h]
mutual
theorem skip_i : ∀ (i : Item) (g : Option (Nat × Bool)) (U : List Nat) (e : Env) (st : Store), wantG g e = some false → (∀ t, t ∈ gts g → t ∉ Item.dst i) → Item.sk U i = true → (∀ t, t ∈ U → e.get t = some (.tup [])) →
    ∃ e2, FO.runs G raw bases (Item.fo g i) e st = some (e2, st) ∧ (∀ t, t ∈ Item.dst i ++ U → e2.get t = some (.tup [])) ∧ ∀ t, t ∉ Item.dst i → e2.get t = e.get t
  | .op d p, g, U, e, st, hg, hd, hs, hU => by
    refine ⟨_, skip_one hg, ?_, ?_⟩
    · intro t ht
      rw [get_put]
      split
      · rfl
      · rename_i hn
        simp only [Item.dst, List.mem_append, Option.mem_toList, Option.mem_def] at ht
        rcases ht with ht | ht
        · exact absurd ht hn
        · exact hU t ht
    · intro t ht
      rw [get_put, if_neg]
      intro h
      exact ht (by simp only [Item.dst, Option.mem_toList, Option.mem_def]; exact h)
  | .opr d p ex, g, U, e, st, hg, hd, hs, hU => by
    refine ⟨_, skip_one hg, ?_, ?_⟩
    · intro t ht
      rw [get_put]
      split
      · rfl
      · rename_i hn
        simp only [Item.dst, List.mem_append, Option.mem_toList, Option.mem_def] at ht
        rcases ht with ht | ht
        · exact absurd ht hn
        · exact hU t ht
    · intro t ht
      rw [get_put, if_neg]
      intro h
      exact ht (by simp only [Item.dst, Option.mem_toList, Option.mem_def]; exact h)
  | .call d m f az, g, U, e, st, hg, hd, hs, hU => by
    refine ⟨_, skip_one hg, ?_, ?_⟩
    · intro t ht
      rw [get_put]
      split
      · rfl
      · rename_i hn
        simp only [Item.dst, List.mem_append, Option.mem_toList, Option.mem_def] at ht
        rcases ht with ht | ht
        · exact absurd ht hn
        · exact hU t ht
    · intro t ht
      rw [get_put, if_neg]
      intro h
      exact ht (by simp only [Item.dst, Option.mem_toList, Option.mem_def]; exact h)
  | .gand d (.t c) sub x, g, U, e, st, hg, hd, hs, hU => by
    simp only [Item.sk, Bool.and_eq_true, Bool.not_eq_true', List.contains_eq_mem, decide_eq_true_eq, decide_eq_false_iff_not] at hs
    obtain ⟨⟨h1, h2⟩, h3⟩ := hs
    obtain ⟨e2, k1, k2, k3⟩ := skip_l sub (some (c, true)) U e st (by simp [wantG, hU c h1]) (by simp only [gts, List.mem_singleton]; rintro t rfl; exact h2) h3 hU
    have hg2 : wantG g e2 = some false := by rw [wantG_congr (e := e) fun t ht => k3 t fun hm => hd t ht (by simp [Item.dst, hm])]; exact hg
    refine ⟨(d, .tup []) :: e2, ?_, ?_, ?_⟩
    · simp only [Item.fo]; rw [runs_app k1, skip_one hg2]; rfl
    · intro t ht
      simp only [Env.get]
      split
      · rfl
      · rename_i hn
        refine k2 t ?_
        simp only [Item.dst, List.mem_append, List.mem_singleton] at ht ⊢
        rcases ht with (ht | ht) | ht
        · exact .inl ht
        · exact absurd ht.symm hn
        · exact .inr ht
    · intro t ht
      simp only [Item.dst, List.mem_append, List.mem_singleton, not_or] at ht
      simp only [Env.get]
      rw [if_neg (fun h => ht.2 h.symm), k3 t ht.1]
  | .gor d (.t c) sub x, g, U, e, st, hg, hd, hs, hU => by
    simp only [Item.sk, Bool.and_eq_true, Bool.not_eq_true', List.contains_eq_mem, decide_eq_true_eq, decide_eq_false_iff_not] at hs
    obtain ⟨⟨h1, h2⟩, h3⟩ := hs
    obtain ⟨e2, k1, k2, k3⟩ := skip_l sub (some (c, false)) U e st (by simp [wantG, hU c h1]) (by simp only [gts, List.mem_singleton]; rintro t rfl; exact h2) h3 hU
    have hg2 : wantG g e2 = some false := by rw [wantG_congr (e := e) fun t ht => k3 t fun hm => hd t ht (by simp [Item.dst, hm])]; exact hg
    refine ⟨(d, .tup []) :: e2, ?_, ?_, ?_⟩
    · simp only [Item.fo]; rw [runs_app k1, skip_one hg2]; rfl
    · intro t ht
      simp only [Env.get]
      split
      · rfl
      · rename_i hn
        refine k2 t ?_
        simp only [Item.dst, List.mem_append, List.mem_singleton] at ht ⊢
        rcases ht with (ht | ht) | ht
        · exact .inl ht
        · exact absurd ht.symm hn
        · exact .inr ht
    · intro t ht
      simp only [Item.dst, List.mem_append, List.mem_singleton, not_or] at ht
      simp only [Env.get]
      rw [if_neg (fun h => ht.2 h.symm), k3 t ht.1]
  | .gif (.t c) w sub, g, U, e, st, hg, hd, hs, hU => by
    simp only [Item.sk, Bool.and_eq_true, Bool.not_eq_true', List.contains_eq_mem, decide_eq_true_eq, decide_eq_false_iff_not] at hs
    obtain ⟨⟨h1, h2⟩, h3⟩ := hs
    obtain ⟨e2, k1, k2, k3⟩ := skip_l sub (some (c, w)) U e st (by simp [wantG, hU c h1]) (by simp only [gts, List.mem_singleton]; rintro t rfl; exact h2) h3 hU
    refine ⟨e2, ?_, ?_, ?_⟩
    · simp only [Item.fo]; exact k1
    · simp only [Item.dst]; exact k2
    · simp only [Item.dst]; exact k3
  | .gand d (.c _) sub x, g, U, e, st, hg, hd, hs, hU => by cases hs
  | .gand d (.g _) sub x, g, U, e, st, hg, hd, hs, hU => by cases hs
  | .gand d (.f _) sub x, g, U, e, st, hg, hd, hs, hU => by cases hs
  | .gor d (.c _) sub x, g, U, e, st, hg, hd, hs, hU => by cases hs
  | .gor d (.g _) sub x, g, U, e, st, hg, hd, hs, hU => by cases hs
  | .gor d (.f _) sub x, g, U, e, st, hg, hd, hs, hU => by cases hs
  | .gif (.c _) w sub, g, U, e, st, hg, hd, hs, hU => by cases hs
  | .gif (.g _) w sub, g, U, e, st, hg, hd, hs, hU => by cases hs
  | .gif (.f _) w sub, g, U, e, st, hg, hd, hs, hU => by cases hs
theorem skip_l : ∀ (l : List Item) (g : Option (Nat × Bool)) (U : List Nat) (e : Env) (st : Store), wantG g e = some false → (∀ t, t ∈ gts g → t ∉ Item.dsts l) → Item.sks U l = true → (∀ t, t ∈ U → e.get t = some (.tup [])) →
    ∃ e2, FO.runs G raw bases (Item.fos g l) e st = some (e2, st) ∧ (∀ t, t ∈ Item.dsts l ++ U → e2.get t = some (.tup [])) ∧ ∀ t, t ∉ Item.dsts l → e2.get t = e.get t
  | [], g, U, e, st, hg, hd, hs, hU => ⟨e, rfl, by simpa [Item.dsts] using hU, fun t _ => rfl⟩
  | i :: is, g, U, e, st, hg, hd, hs, hU => by
    simp only [Item.sks, Bool.and_eq_true] at hs
    simp only [Item.dsts, List.mem_append, not_or] at hd
    obtain ⟨e1, k1, k2, k3⟩ := skip_i i g U e st hg (fun t ht => (hd t ht).1) hs.1 hU
    have hg1 : wantG g e1 = some false := by rw [wantG_congr (e := e) fun t ht => k3 t (hd t ht).1]; exact hg
    obtain ⟨e2, l1, l2, l3⟩ := skip_l is g (Item.dst i ++ U) e1 st hg1 (fun t ht => (hd t ht).2) hs.2 k2
    refine ⟨e2, ?_, ?_, ?_⟩
    · simp only [Item.fos]; rw [runs_app k1, l1]
    · intro t ht
      refine l2 t ?_
      simp only [Item.dsts, List.mem_append] at ht ⊢
      rcases ht with (ht | ht) | ht
      · exact .inr (.inl ht)
      · exact .inl ht
      · exact .inr (.inr ht)
    · intro t ht
      simp only [Item.dsts, List.mem_append, not_or] at ht
      rw [l3 t ht.2, k3 t ht.1]
end
theorem Sub_ev {e e1 : Env} (h : Sub e e1) {x : Opd} {a : AV} (k : x.ev G e = some a) : x.ev G e1 = some a := by
  cases x with
  | t n => exact h n a k
  | _ => exact k
theorem exQ_sub {e e1 : Env} {st : Store} {v : AV} {ex : List Nat} (hs : Sub e e1) (h : (boxQ st v && exQ e v ex) = true) : (boxQ st v && exQ e1 v ex) = true := by
  rw [Bool.and_eq_true] at h ⊢
  refine ⟨h.1, ?_⟩
  unfold exQ at h ⊢
  rw [List.all_eq_true] at h ⊢
  intro t ht
  have h1 := h.2 t ht
  unfold exA at h1 ⊢
  cases hid : v.id? with
  | none => rfl
  | some i =>
    rw [hid] at h1
    dsimp only at h1 ⊢
    cases hg : e.get t with
    | none => rw [hg] at h1; cases h1
    | some w => rw [hs t w hg]; rw [hg] at h1; exact h1
theorem Sub_put {e e1 : Env} (h : Sub e e1) {d : Option Nat} {a : AV} : Sub (Env.put e d a) (Env.put e1 d a) := by
  intro t v k
  rw [get_put] at k ⊢
  split
  · rename_i hd; rw [if_pos hd] at k; exact k
  · rename_i hd; rw [if_neg hd] at k; exact h t v k
theorem Opds_sub {e e1 : Env} (h : Sub e e1) : ∀ {l : List Opd} {r : List AV}, Opd.evs G e l = some r → Opd.evs G e1 l = some r
  | [], r, k => k
  | x :: xs, r, k => by
    simp only [Opd.evs] at k ⊢
    cases k1 : x.ev G e with
    | none => rw [k1] at k; cases k
    | some a =>
      rw [k1] at k
      rw [Sub_ev h k1]
      dsimp only at k ⊢
      cases k2 : Opd.evs G e xs with
      | none => rw [k2] at k; cases k
      | some az => rw [k2] at k; rw [Opds_sub h k2]; exact k
theorem Opdo_sub {e e1 : Env} (h : Sub e e1) {x : Option Opd} {r : Option AV} (k : Opd.evo G e x = some r) : Opd.evo G e1 x = some r := by
  cases x with
  | none => exact k
  | some x =>
    simp only [Opd.evo] at k ⊢
    cases k1 : x.ev G e with
    | none => rw [k1] at k; cases k
    | some a => rw [k1] at k; rw [Sub_ev h k1]; exact k
theorem parts_sub {e e1 : Env} (h : Sub e e1) {n : Nat} : ∀ {l : List (Nat × Nat × Opd)} {r}, evParts G e n l = some r → evParts G e1 n l = some r
  | [], r, k => k
  | (o, m, x) :: xs, r, k => by
    simp only [evParts] at k ⊢
    cases k1 : x.ev G e with
    | none => rw [k1] at k; cases k
    | some a =>
      rw [k1] at k
      rw [Sub_ev h k1]
      dsimp only at k ⊢
      split at k
      · rename_i hc
        rw [if_pos hc]
        cases k2 : evParts G e n xs with
        | none => rw [k2] at k; cases k
        | some az => rw [k2] at k; rw [parts_sub h k2]; exact k
      · cases k
theorem Prim_sub {e e1 : Env} (h : Sub e e1) {p : Prim} {st : Store} {r : AV × Store} (k : p.ev G bases e st = some r) : p.ev G bases e1 st = some r := by
  cases p
  case pick c a b =>
    simp only [Prim.ev] at k ⊢
    split at k
    · rename_i t k1
      rw [Sub_ev h k1]
      dsimp only
      split at k
      · rename_i a' k2
        rw [Sub_ev h k2]; exact k
      · cases k
    · cases k
  case alloc => exact k
  case mkm => exact k
  case mup t m y x =>
    simp only [Prim.ev] at k ⊢
    split at k
    · rename_i id k1
      rw [Sub_ev h k1]
      dsimp only
      split at k
      · rename_i kv k2
        rw [Sub_ev h k2]
        dsimp only
        split at k
        · rename_i b k3
          rw [Sub_ev h k3]
          exact k
        · cases k
      · cases k
    · cases k
  case build z ps =>
    simp only [Prim.ev] at k ⊢
    split at k
    · rename_i l k1
      rw [parts_sub h k1]; exact k
    · cases k
  case bsl o m ps =>
    simp only [Prim.ev] at k ⊢
    split at k
    · rename_i l k1
      rw [Opds_sub h k1]; exact k
    · cases k
  case mkf f ps =>
    simp only [Prim.ev] at k ⊢
    split at k
    · rename_i l k1
      rw [Opds_sub h k1]; exact k
    · cases k
  case mn ps =>
    simp only [Prim.ev] at k ⊢
    split at k
    · rename_i l k1
      rw [Opds_sub h k1]; exact k
    · cases k
  case mx ps =>
    simp only [Prim.ev] at k ⊢
    split at k
    · rename_i l k1
      rw [Opds_sub h k1]; exact k
    · cases k
  case sls x lo hi =>
    simp only [Prim.ev] at k ⊢
    cases k1 : x.ev G e with
    | none => rw [k1] at k; cases k
    | some a =>
      rw [k1] at k
      rw [Sub_ev h k1]
      cases k2 : Opd.evo G e lo with
      | none => rw [k2] at k; split at k <;> cases k
      | some l =>
        rw [k2] at k
        rw [Opdo_sub h k2]
        cases k3 : Opd.evo G e hi with
        | none => rw [k3] at k; split at k <;> cases k
        | some l => rw [k3] at k; rw [Opdo_sub h k3]; exact k
  case slx m x lo hi =>
    simp only [Prim.ev] at k ⊢
    cases k1 : x.ev G e with
    | none => rw [k1] at k; cases k
    | some a =>
      rw [k1] at k
      rw [Sub_ev h k1]
      dsimp only at k ⊢
      cases k2 : Opd.evo G e lo with
      | none => rw [k2] at k; cases k
      | some l =>
        rw [k2] at k
        rw [Opdo_sub h k2]
        dsimp only at k ⊢
        cases k3 : Opd.evo G e hi with
        | none => rw [k3] at k; cases k
        | some l => rw [k3] at k; rw [Opdo_sub h k3]; exact k
  all_goals
    first
      | (rename_i x
         simp only [Prim.ev] at k ⊢
         cases k1 : x.ev G e with
         | none => rw [k1] at k; cases k
         | some a => rw [k1] at k; rw [Sub_ev h k1]; exact k
         done)
      | (rename_i x y
         simp only [Prim.ev] at k ⊢
         cases k1 : x.ev G e with
         | none => rw [k1] at k; cases k
         | some a =>
           rw [k1] at k
           rw [Sub_ev h k1]
           cases k2 : y.ev G e with
           | none => rw [k2] at k; first | (cases k; done) | (split at k <;> cases k)
           | some b => rw [k2] at k; rw [Sub_ev h k2]; exact k
         done)
mutual
theorem take_i : ∀ (i : Item) (g : Option (Nat × Bool)) (dom : List Nat) (e e1 : Env) (st : Store) (e' : Env) (st' : Store), Item.run G raw bases i e st = some (e', st') → Sub e e1 → (∀ t v, e.get t = some v → t ∈ dom) →
    wantG g e1 = some true → (∀ t, t ∈ gts g → t ∉ Item.dst i) → Item.wf dom i = true →
    ∃ e2, FO.runs G raw bases (Item.fo g i) e1 st = some (e2, st') ∧ Sub e' e2 ∧ (∀ t, t ∉ Item.dst i → e2.get t = e1.get t) ∧ (∀ t v, e'.get t = some v → t ∈ Item.out i ++ dom)
  | .op d p, g, dom, e, e1, st, e', st', h, hs, hdom, hg, hd, hw => by
    simp only [Item.run] at h
    split at h
    · rename_i a st1 k1
      simp only [Option.some.injEq, Prod.mk.injEq] at h
      obtain ⟨rfl, rfl⟩ := h
      refine ⟨Env.put e1 d a, ?_, Sub_put hs, ?_, ?_⟩
      · simp only [Item.fo, FO.runs, FO.run, want_eq, hg, Bod.ev, Prim_sub hs k1]
      · intro t ht
        rw [get_put, if_neg]
        intro h
        exact ht (by simp only [Item.dst, Option.mem_toList, Option.mem_def]; exact h)
      · intro t v ht
        rw [get_put] at ht
        simp only [Item.out, List.mem_append, Option.mem_toList, Option.mem_def]
        split at ht
        · rename_i hd; exact .inl hd
        · exact .inr (hdom t v ht)
    · cases h
  | .opr d p ex, g, dom, e, e1, st, e', st', h, hs, hdom, hg, hd, hw => by
    simp only [Item.run] at h
    split at h
    · rename_i v k0
      split at h
      · rename_i kn
        split at h
        · rename_i a st1 k1
          simp only [Option.some.injEq, Prod.mk.injEq] at h
          obtain ⟨rfl, rfl⟩ := h
          refine ⟨Env.put e1 d a, ?_, Sub_put hs, ?_, ?_⟩
          · simp only [Item.fo, FO.runs, FO.run, want_eq, hg, Bod.ev, Sub_ev hs k0, if_pos (exQ_sub hs kn), Prim_sub hs k1]
          · intro t ht
            rw [get_put, if_neg]
            intro h
            exact ht (by simp only [Item.dst, Option.mem_toList, Option.mem_def]; exact h)
          · intro t v ht
            rw [get_put] at ht
            simp only [Item.out, List.mem_append, Option.mem_toList, Option.mem_def]
            split at ht
            · rename_i hd; exact .inl hd
            · exact .inr (hdom t v ht)
        · cases h
      · cases h
    · cases h
  | .call d m f az, g, dom, e, e1, st, e', st', h, hs, hdom, hg, hd, hw => by
    simp only [Item.run] at h
    split at h
    · rename_i fv k0
      split at h
      · rename_i avs k2
        split at h
        · rename_i a st1 k1
          simp only [Option.some.injEq, Prod.mk.injEq] at h
          obtain ⟨rfl, rfl⟩ := h
          refine ⟨Env.put e1 d a, ?_, Sub_put hs, ?_, ?_⟩
          · simp only [Item.fo, FO.runs, FO.run, want_eq, hg, Bod.ev, Sub_ev hs k0, Opds_sub hs k2, k1]
          · intro t ht
            rw [get_put, if_neg]
            intro h
            exact ht (by simp only [Item.dst, Option.mem_toList, Option.mem_def]; exact h)
          · intro t v ht
            rw [get_put] at ht
            simp only [Item.out, List.mem_append, Option.mem_toList, Option.mem_def]
            split at ht
            · rename_i hd; exact .inl hd
            · exact .inr (hdom t v ht)
        · cases h
      · cases h
    · cases h
  | .gand d (.t c) sub x, g, dom, e, e1, st, e', st', h, hs, hdom, hg, hd, hw => by
    simp only [Item.wf, Bool.and_eq_true, Bool.not_eq_true', List.contains_eq_mem, decide_eq_true_eq, decide_eq_false_iff_not, notIn_iff] at hw
    obtain ⟨⟨⟨w1, w2⟩, w3⟩, w4⟩ := hw
    simp only [Item.run] at h
    have hd' : ∀ t, t ∈ gts g → t ∉ Item.dsts sub := fun t ht hm => hd t ht (by simp [Item.dst, hm])
    have fin : ∀ (e2 : Env) (a : AV), (∀ t, t ∉ Item.dsts sub → e2.get t = e1.get t) → Sub ((d, a) :: e) ((d, a) :: e2) ∧ (∀ t, t ∉ Item.dst (.gand d (.t c) sub x) → Env.get ((d, a) :: e2) t = e1.get t) ∧ (∀ t v, Env.get ((d, a) :: e) t = some v → t ∈ Item.out (.gand d (.t c) sub x) ++ dom) := by
      intro e2 a k3
      refine ⟨?_, ?_, ?_⟩
      · intro t v ht
        simp only [Env.get] at ht ⊢
        split
        · rename_i hd; rw [if_pos hd] at ht; exact ht
        · rename_i hd
          rw [if_neg hd] at ht
          rw [k3 t (fun hm => w3 t hm (hdom t v ht))]
          exact hs t v ht
      · intro t ht
        simp only [Item.dst, List.mem_append, List.mem_singleton, not_or] at ht
        simp only [Env.get]
        rw [if_neg (fun h => ht.2 h.symm), k3 t ht.1]
      · intro t v ht
        simp only [Env.get] at ht
        simp only [Item.out, List.mem_append, List.mem_singleton]
        split at ht
        · rename_i hd; exact .inl hd.symm
        · exact .inr (hdom t v ht)
    split at h
    · rename_i b kc
      have kc1 : e1.get c = some (.v (.bool b)) := hs c _ kc
      split at h
      · rename_i hb
        subst hb
        split at h
        · rename_i e'' st1 k1
          split at h
          · rename_i a k2
            simp only [Option.some.injEq, Prod.mk.injEq] at h
            obtain ⟨rfl, rfl⟩ := h
            obtain ⟨e2, l1, l2, l3, _⟩ := take_l sub (some (c, true)) dom e e1 st e'' st1 k1 hs hdom (by simp [wantG, kc1]) (by simp only [gts, List.mem_singleton]; rintro t rfl; exact w1) w4
            obtain ⟨f1, f2, f3⟩ := fin e2 a l3
            refine ⟨(d, a) :: e2, ?_, f1, f2, f3⟩
            have hg2 : wantG g e2 = some true := by rw [wantG_congr (e := e1) fun t ht => l3 t (hd' t ht)]; exact hg
            have kc2 : e2.get c = some (.v (.bool true)) := by rw [l3 c w1]; exact kc1
            simp only [Item.fo]
            rw [runs_app l1]
            have hp : (Prim.pick (.t c) x (.c (.v (.bool false)))).ev G bases e2 st1 = some (a, st1) := by
              simp only [Prim.ev]
              rw [show (Opd.t c).ev G e2 = some (.v (.bool true)) from kc2]
              dsimp only
              rw [if_pos rfl, Sub_ev l2 k2]
            simp only [FO.runs, FO.run, want_eq, hg2, Bod.ev, hp]
            rfl
          · cases h
        · cases h
      · rename_i hb
        have hb' : b = false := by simpa using hb
        subst hb'
        simp only [Option.some.injEq, Prod.mk.injEq] at h
        obtain ⟨rfl, rfl⟩ := h
        obtain ⟨e2, l1, l2, l3⟩ := skip_l (G := G) (raw := raw) (bases := bases) sub (some (c, true)) [] e1 st (by simp [wantG, kc1]) (by simp only [gts, List.mem_singleton]; rintro t rfl; exact w1) w2 (fun t ht => by cases ht)
        obtain ⟨f1, f2, f3⟩ := fin e2 (.v (.bool false)) l3
        refine ⟨_, ?_, f1, f2, f3⟩
        have hg2 : wantG g e2 = some true := by rw [wantG_congr (e := e1) fun t ht => l3 t (hd' t ht)]; exact hg
        have kc2 : e2.get c = some (.v (.bool false)) := by rw [l3 c w1]; exact kc1
        simp only [Item.fo]
        rw [runs_app l1]
        simp only [FO.runs, FO.run, want_eq, hg2, Bod.ev, Prim.ev, Opd.ev, kc2]
        rfl
    · cases h
  | .gor d (.t c) sub x, g, dom, e, e1, st, e', st', h, hs, hdom, hg, hd, hw => by
    simp only [Item.wf, Bool.and_eq_true, Bool.not_eq_true', List.contains_eq_mem, decide_eq_true_eq, decide_eq_false_iff_not, notIn_iff] at hw
    obtain ⟨⟨⟨w1, w2⟩, w3⟩, w4⟩ := hw
    simp only [Item.run] at h
    have hd' : ∀ t, t ∈ gts g → t ∉ Item.dsts sub := fun t ht hm => hd t ht (by simp [Item.dst, hm])
    have fin : ∀ (e2 : Env) (a : AV), (∀ t, t ∉ Item.dsts sub → e2.get t = e1.get t) → Sub ((d, a) :: e) ((d, a) :: e2) ∧ (∀ t, t ∉ Item.dst (.gor d (.t c) sub x) → Env.get ((d, a) :: e2) t = e1.get t) ∧ (∀ t v, Env.get ((d, a) :: e) t = some v → t ∈ Item.out (.gor d (.t c) sub x) ++ dom) := by
      intro e2 a k3
      refine ⟨?_, ?_, ?_⟩
      · intro t v ht
        simp only [Env.get] at ht ⊢
        split
        · rename_i hd; rw [if_pos hd] at ht; exact ht
        · rename_i hd
          rw [if_neg hd] at ht
          rw [k3 t (fun hm => w3 t hm (hdom t v ht))]
          exact hs t v ht
      · intro t ht
        simp only [Item.dst, List.mem_append, List.mem_singleton, not_or] at ht
        simp only [Env.get]
        rw [if_neg (fun h => ht.2 h.symm), k3 t ht.1]
      · intro t v ht
        simp only [Env.get] at ht
        simp only [Item.out, List.mem_append, List.mem_singleton]
        split at ht
        · rename_i hd; exact .inl hd.symm
        · exact .inr (hdom t v ht)
    split at h
    · rename_i b kc
      have kc1 : e1.get c = some (.v (.bool b)) := hs c _ kc
      split at h
      · rename_i hb
        subst hb
        simp only [Option.some.injEq, Prod.mk.injEq] at h
        obtain ⟨rfl, rfl⟩ := h
        obtain ⟨e2, l1, l2, l3⟩ := skip_l (G := G) (raw := raw) (bases := bases) sub (some (c, false)) [] e1 st (by simp [wantG, kc1]) (by simp only [gts, List.mem_singleton]; rintro t rfl; exact w1) w2 (fun t ht => by cases ht)
        obtain ⟨f1, f2, f3⟩ := fin e2 (.v (.bool true)) l3
        refine ⟨_, ?_, f1, f2, f3⟩
        have hg2 : wantG g e2 = some true := by rw [wantG_congr (e := e1) fun t ht => l3 t (hd' t ht)]; exact hg
        have kc2 : e2.get c = some (.v (.bool true)) := by rw [l3 c w1]; exact kc1
        simp only [Item.fo]
        rw [runs_app l1]
        simp only [FO.runs, FO.run, want_eq, hg2, Bod.ev, Prim.ev, Opd.ev, kc2]
        rfl
      · rename_i hb
        have hb' : b = false := by simpa using hb
        subst hb'
        split at h
        · rename_i e'' st1 k1
          split at h
          · rename_i a k2
            simp only [Option.some.injEq, Prod.mk.injEq] at h
            obtain ⟨rfl, rfl⟩ := h
            obtain ⟨e2, l1, l2, l3, _⟩ := take_l sub (some (c, false)) dom e e1 st e'' st1 k1 hs hdom (by simp [wantG, kc1]) (by simp only [gts, List.mem_singleton]; rintro t rfl; exact w1) w4
            obtain ⟨f1, f2, f3⟩ := fin e2 a l3
            refine ⟨(d, a) :: e2, ?_, f1, f2, f3⟩
            have hg2 : wantG g e2 = some true := by rw [wantG_congr (e := e1) fun t ht => l3 t (hd' t ht)]; exact hg
            have kc2 : e2.get c = some (.v (.bool false)) := by rw [l3 c w1]; exact kc1
            simp only [Item.fo]
            rw [runs_app l1]
            have hp : (Prim.pick (.t c) (.c (.v (.bool true))) x).ev G bases e2 st1 = some (a, st1) := by
              simp only [Prim.ev]
              rw [show (Opd.t c).ev G e2 = some (.v (.bool false)) from kc2]
              dsimp only
              rw [if_neg Bool.false_ne_true, Sub_ev l2 k2]
            simp only [FO.runs, FO.run, want_eq, hg2, Bod.ev, hp]
            rfl
          · cases h
        · cases h
    · cases h
  | .gif (.t c) w sub, g, dom, e, e1, st, e', st', h, hs, hdom, hg, hd, hw => by
    simp only [Item.wf, Bool.and_eq_true, Bool.not_eq_true', List.contains_eq_mem, decide_eq_true_eq, decide_eq_false_iff_not, notIn_iff] at hw
    obtain ⟨⟨⟨w1, w2⟩, w3⟩, w4⟩ := hw
    simp only [Item.run] at h
    split at h
    · rename_i b kc
      have kc1 : e1.get c = some (.v (.bool b)) := hs c _ kc
      split at h
      · rename_i hb
        subst hb
        obtain ⟨e2, l1, l2, l3, l4⟩ := take_l sub (some (c, b)) dom e e1 st e' st' h hs hdom (by simp [wantG, kc1]) (by simp only [gts, List.mem_singleton]; rintro t rfl; exact w1) w4
        refine ⟨e2, by simp only [Item.fo]; exact l1, l2, by simp only [Item.dst]; exact l3, ?_⟩
        intro t v ht
        simp only [Item.out]
        exact l4 t v ht
      · rename_i hb
        simp only [Option.some.injEq, Prod.mk.injEq] at h
        obtain ⟨rfl, rfl⟩ := h
        obtain ⟨e2, l1, l2, l3⟩ := skip_l (G := G) (raw := raw) (bases := bases) sub (some (c, w)) [] e1 st (by simp only [wantG, kc1]; congr 1; cases b <;> cases w <;> first | rfl | exact absurd rfl hb) (by simp only [gts, List.mem_singleton]; rintro t rfl; exact w1) w2 (fun t ht => by cases ht)
        refine ⟨e2, by simp only [Item.fo]; exact l1, ?_, by simp only [Item.dst]; exact l3, ?_⟩
        · intro t v ht
          rw [l3 t (fun hm => w3 t hm (hdom t v ht))]
          exact hs t v ht
        · intro t v ht
          simp only [List.mem_append]
          exact .inr (hdom t v ht)
    · cases h
  | .gand d (.c _) sub x, g, dom, e, e1, st, e', st', h, hs, hdom, hg, hd, hw => by cases hw
  | .gand d (.g _) sub x, g, dom, e, e1, st, e', st', h, hs, hdom, hg, hd, hw => by cases hw
  | .gand d (.f _) sub x, g, dom, e, e1, st, e', st', h, hs, hdom, hg, hd, hw => by cases hw
  | .gor d (.c _) sub x, g, dom, e, e1, st, e', st', h, hs, hdom, hg, hd, hw => by cases hw
  | .gor d (.g _) sub x, g, dom, e, e1, st, e', st', h, hs, hdom, hg, hd, hw => by cases hw
  | .gor d (.f _) sub x, g, dom, e, e1, st, e', st', h, hs, hdom, hg, hd, hw => by cases hw
  | .gif (.c _) w sub, g, dom, e, e1, st, e', st', h, hs, hdom, hg, hd, hw => by cases hw
  | .gif (.g _) w sub, g, dom, e, e1, st, e', st', h, hs, hdom, hg, hd, hw => by cases hw
  | .gif (.f _) w sub, g, dom, e, e1, st, e', st', h, hs, hdom, hg, hd, hw => by cases hw
theorem take_l : ∀ (l : List Item) (g : Option (Nat × Bool)) (dom : List Nat) (e e1 : Env) (st : Store) (e' : Env) (st' : Store), Item.runs G raw bases l e st = some (e', st') → Sub e e1 → (∀ t v, e.get t = some v → t ∈ dom) →
    wantG g e1 = some true → (∀ t, t ∈ gts g → t ∉ Item.dsts l) → Item.wfs (gts g) dom l = true →
    ∃ e2, FO.runs G raw bases (Item.fos g l) e1 st = some (e2, st') ∧ Sub e' e2 ∧ (∀ t, t ∉ Item.dsts l → e2.get t = e1.get t) ∧ (∀ t v, e'.get t = some v → t ∈ Item.dsts l ++ dom)
  | [], g, dom, e, e1, st, e', st', h, hs, hdom, hg, hd, hw => by
    simp only [Item.runs, Option.some.injEq, Prod.mk.injEq] at h
    obtain ⟨rfl, rfl⟩ := h
    exact ⟨e1, rfl, hs, fun t _ => rfl, fun t v ht => by simpa [Item.dsts] using hdom t v ht⟩
  | i :: is, g, dom, e, e1, st, e', st', h, hs, hdom, hg, hd, hw => by
    simp only [Item.wfs, Bool.and_eq_true, notIn_iff] at hw
    obtain ⟨⟨w1, w2⟩, w3⟩ := hw
    simp only [Item.runs] at h
    split at h
    · rename_i em stm k1
      obtain ⟨e2, l1, l2, l3, l4⟩ := take_i i g dom e e1 st em stm k1 hs hdom hg w2 w1
      have hg2 : wantG g e2 = some true := by rw [wantG_congr (e := e1) fun t ht => l3 t (w2 t ht)]; exact hg
      obtain ⟨e3, m1, m2, m3, m4⟩ := take_l is g (Item.out i ++ dom) em e2 stm e' st' h l2 l4 hg2 (fun t ht hm => hd t ht (by simp [Item.dsts, hm])) w3
      refine ⟨e3, by simp only [Item.fos]; rw [runs_app l1]; exact m1, m2, ?_, ?_⟩
      · intro t ht
        simp only [Item.dsts, List.mem_append, not_or] at ht
        rw [m3 t ht.2, l3 t ht.1]
      · intro t v ht
        have := m4 t v ht
        simp only [Item.dsts, List.mem_append] at this ⊢
        rcases this with h | h | h
        · exact .inl (.inr h)
        · refine .inl (.inl ?_)
          cases i <;> simp only [Item.out, Item.dst, List.mem_append, List.mem_singleton] at h ⊢ <;> first | exact h | exact .inr h
        · exact .inr h
    · cases h
end
end
end Go.Proofs.YtoobogpbejdocaaDoor.Ev
