import Derived.Test.YtoobogpbejdocaaDoorEvRen0
set_option linter.unusedVariables false
set_option linter.unusedSectionVars false
set_option linter.unusedSimpArgs false
namespace Go.Proofs.YtoobogpbejdocaaDoor.Ev
def Ob.under (n : Nat) : Ob → Bool
  | .box cs => belows n cs
  | .row _ _ xs _ => belowss n xs
  | .map es => es.all fun p => p.2.under n
  | .sit _ _ => true
  | .loop _ env _ => belows n env
def Sc (b : Nat) (st : Store) : Prop := b ≤ st.length ∧ ∀ (i : Nat) (ob : Ob), i < b → st[i]? = some ob → ob.under b = true
def RawSc (raw : Raw) : Prop := ∀ f az bases st r st', raw f az bases st = some (r, st') → st.length ≤ st'.length ∧ ∀ b, b ∈ bases → Sc b st → Sc b st'
theorem compact_sc {bases live : List Nat} {e : Env} {st : Store} {n0 : Nat} (hn : n0 ≤ st.length) : n0 ≤ (compact bases n0 live e st).2.length ∧ ∀ b, b ∈ bases → Sc b st → Sc b (compact bases n0 live e st).2 := by
  unfold compact
  split
  · rename_i h1
    have hb : bases = [] := by simpa using h1.1
    subst hb
    dsimp only
    refine ⟨?_, fun b hb => by simp at hb⟩
    split
    · rename_i hc
      simp only [Bool.and_eq_true] at hc
      rw [sel_length fun i hi => (closedB_ok hc.1.1 i hi).imp fun _ q => q.1]
      simp only [List.length_append, upto_length]; omega
    · exact hn
  · exact ⟨hn, fun b _ h => h⟩
theorem Sc.app {b : Nat} {st l : Store} (h : Sc b st) : Sc b (st ++ l) :=
  ⟨by simp only [List.length_append]; have := h.1; omega, fun i ob hi ho => by rw [List.getElem?_append_left (by have := h.1; omega)] at ho; exact h.2 i ob hi ho⟩
theorem Sc.set {b : Nat} {st : Store} (h : Sc b st) {id : Nat} {ob : Ob} (hu : id < b → ob.under b = true) : Sc b (st.set id ob) :=
  ⟨by rw [List.length_set]; exact h.1, fun i o hi ho => by
    rw [List.getElem?_set] at ho
    split at ho
    · rename_i e
      subst e
      split at ho
      · cases ho; exact hu hi
      · cases ho
    · exact h.2 i o hi ho⟩
theorem Sc.take {b : Nat} {st st0 : Store} (h : Sc b st) {n : Nat} (hb : b ≤ n) (hn : n ≤ st.length) : Sc b (st.take n) :=
  ⟨by rw [List.length_take]; omega, fun i o hi ho => by
    rw [List.getElem?_take] at ho
    split at ho
    · exact h.2 i o hi ho
    · cases ho⟩
theorem belows_app {n : Nat} : ∀ {a b : List AV}, belows n (a ++ b) = (belows n a && belows n b)
  | [], b => by simp [belows]
  | x :: a, b => by simp only [List.cons_append, belows, belows_app, Bool.and_assoc]
theorem belows_all {n : Nat} : ∀ {a : List AV}, belows n a = a.all (AV.under n)
  | [] => rfl
  | x :: a => by simp only [belows, belows_all, List.all_cons]
theorem belowss_all {n : Nat} : ∀ {a : List (List AV)}, belowss n a = a.all (belows n)
  | [] => rfl
  | x :: a => by simp only [belowss, belowss_all, List.all_cons]
theorem belows_sub {n : Nat} {a b : List AV} (h : belows n a = true) (hs : ∀ x, x ∈ b → x ∈ a) : belows n b = true := by
  rw [belows_all, List.all_eq_true] at *
  exact fun x hx => h x (hs x hx)
theorem belowss_flat {n : Nat} {a : List (List AV)} : belowss n a = belows n a.flatten := by
  induction a with
  | nil => rfl
  | cons x a ih => simp only [belowss, List.flatten_cons, belows_app, ih]
theorem okSt_at {bases : List Nat} {id : Nat} {l : List AV} (h : okSt bases id l = true) {b : Nat} (hb : b ∈ bases) (hi : id < b) : belows b l = true := by
  simp only [okSt, List.all_eq_true, Bool.or_eq_true, decide_eq_true_eq] at h
  rcases h b hb with h | h
  · omega
  · exact h
theorem belows_put {n : Nat} {cs l : List AV} {off : Nat} (h1 : belows n cs = true) (h2 : belows n l = true) : belows n (putCells cs off l) = true := by
  unfold putCells
  simp only [belows_app, Bool.and_eq_true]
  exact ⟨⟨belows_sub h1 fun x hx => List.mem_of_mem_take hx, h2⟩, belows_sub h1 fun x hx => List.mem_of_mem_drop hx⟩
theorem belowss_set {n : Nat} {xs : List (List AV)} {c : List AV} {i : Nat} (h1 : belowss n xs = true) (h2 : belows n c = true) : belowss n (xs.set i c) = true := by
  rw [belowss_all, List.all_eq_true] at *
  intro x hx
  rcases List.mem_or_eq_of_mem_set hx with h | rfl
  · exact h1 x h
  · exact h2
section
variable {G : Nat → Option (List AV)} {raw : Raw} {bases : List Nat} {e : Env} {st st' : Store} {a : AV} {b : Nat}
theorem stAt_sc {n : Nat} {l : List AV} {p : AV} (h : stAt bases st n l p = some st') (hb : b ∈ bases) (hs : Sc b st) : Sc b st' := by
  cases p <;> simp only [stAt] at h <;> try (cases h; done)
  rename_i id gen i off
  split at h
  · rename_i hc
    split at h
    · rename_i cs k1
      split at h
      · cases h
        refine hs.set fun hi => ?_
        have := hs.2 _ _ hi k1
        simp only [Ob.under] at this ⊢
        exact belows_put this (okSt_at hc.2 hb hi)
      · cases h
    · rename_i e' g xs nw k1
      split at h
      · split at h
        · rename_i c k2
          split at h
          · cases h
            refine hs.set fun hi => ?_
            have := hs.2 _ _ hi k1
            simp only [Ob.under] at this ⊢
            have hc' : belows b c = true := by
              rw [belowss_all, List.all_eq_true] at this
              exact this c (List.mem_of_getElem? k2)
            exact belowss_set this (belows_put hc' (okSt_at hc.2 hb hi))
          · cases h
        · cases h
      · cases h
    · cases h
  · cases h
theorem mput_under {n : Nat} {t : TK} {k : Value} {x : AV} : ∀ {es es' : List (Value × AV)}, mput t k x es = some es' → (es.all fun p => p.2.under n) = true → x.under n = true → (es'.all fun p => p.2.under n) = true
  | [], es', h, _, hx => by simp only [mput, Option.some.injEq] at h; subst h; simp [hx]
  | p :: r, es', h, hr, hx => by
    simp only [List.all_cons, Bool.and_eq_true] at hr
    simp only [mput] at h
    split at h
    · cases h; simp [hx, hr.2]
    · split at h
      · rename_i l hl
        cases h
        simp only [List.all_cons, Bool.and_eq_true]
        exact ⟨hr.1, mput_under hl hr.2 hx⟩
      · cases h
    · cases h
theorem mdel_under {n : Nat} {t : TK} {k : Value} : ∀ {es es' : List (Value × AV)}, mdel t k es = some es' → (es.all fun p => p.2.under n) = true → (es'.all fun p => p.2.under n) = true
  | [], es', h, _ => by simp only [mdel, Option.some.injEq] at h; subst h; rfl
  | p :: r, es', h, hr => by
    simp only [List.all_cons, Bool.and_eq_true] at hr
    simp only [mdel] at h
    split at h
    · cases h; exact hr.2
    · split at h
      · rename_i l hl
        cases h
        simp only [List.all_cons, Bool.and_eq_true]
        exact ⟨hr.1, mdel_under hl hr.2⟩
      · cases h
    · cases h
theorem Prim_sc {p : Prim} (h : p.ev G bases e st = some (a, st')) (hb : b ∈ bases) (hs : Sc b st) : Sc b st' := by
  cases p <;> simp only [Prim.ev] at h
  case store n p x =>
    repeat' split at h
    all_goals first | (cases h; done) | skip
    rename_i st1 k1
    cases h
    exact stAt_sc k1 hb hs
  case app k bytes x y =>
    repeat' split at h
    all_goals first | (cases h; done) | skip
    · cases h; exact hs
    · cases h; exact hs.app
    · rename_i id gen off ln _ k' g xs nw k1 hc
      cases h
      refine hs.set fun hi => ?_
      have := hs.2 _ _ hi k1
      simp only [Ob.under] at this ⊢
      have h2 := okSt_at hc.2.2.2.2.2 hb hi
      rw [belowss_flat, List.flatten_append, belows_app, Bool.and_eq_true]
      refine ⟨?_, h2⟩
      rw [← belowss_flat]
      rw [belowss_all, List.all_eq_true] at *
      exact fun x hx => this x (List.mem_of_mem_drop (List.mem_of_mem_take hx))
  case nxt x =>
    repeat' split at h
    all_goals first | (cases h; done) | skip
    · cases h
      exact hs.set fun hi => rfl
    · cases h; exact hs
  case mup t m k x =>
    repeat' split at h
    all_goals first | (cases h; done) | skip
    rename_i hc _ es k1 _ es' k2
    cases h
    refine hs.set fun hi => ?_
    have := hs.2 _ _ hi k1
    simp only [Ob.under] at this ⊢
    have h2 := okSt_at hc.2.1 hb hi
    simp only [belows, Bool.and_true] at h2
    exact mput_under k2 this h2
  case mdl t m k =>
    repeat' split at h
    all_goals first | (cases h; done) | skip
    rename_i es k1 _ es' k2
    cases h
    refine hs.set fun hi => ?_
    have := hs.2 _ _ hi k1
    simp only [Ob.under] at this ⊢
    exact mdel_under k2 this
  case snp x =>
    repeat' split at h
    all_goals first | (cases h; done) | skip
    · rename_i id gen off ln _ k g xs nw k1 hc
      cases h
      refine hs.set fun hi => ?_
      have := hs.2 _ _ hi k1
      exact this
    · cases h; exact hs
  case cvs x =>
    repeat' split at h
    all_goals first | (cases h; done) | skip
    · rename_i id gen off ln _ k g xs nw k1 hc
      cases h
      refine hs.set fun hi => ?_
      have := hs.2 _ _ hi k1
      exact this
  all_goals
    repeat' split at h
    all_goals first | (cases h; done) | skip
    all_goals (simp only [Option.some.injEq, Prod.mk.injEq] at h; obtain ⟨_, rfl⟩ := h; first | exact hs | exact hs.app)
theorem stAt_len {n : Nat} {l : List AV} {p : AV} (h : stAt bases st n l p = some st') : st.length ≤ st'.length := by
  cases p <;> simp only [stAt] at h <;> try (cases h; done)
  repeat' split at h
  all_goals first | (cases h; done) | (cases h; simp)
theorem Prim_len {p : Prim} (h : p.ev G bases e st = some (a, st')) : st.length ≤ st'.length := by
  cases p <;> simp only [Prim.ev] at h
  case store n p x =>
    repeat' split at h
    all_goals first | (cases h; done) | skip
    rename_i st1 k1
    cases h
    exact stAt_len k1
  all_goals
    repeat' split at h
    all_goals first | (cases h; done) | skip
    all_goals (simp only [Option.some.injEq, Prod.mk.injEq] at h; obtain ⟨_, rfl⟩ := h; simp)
theorem callM_sc0 (hr : RawSc raw) {m : Mode} (hm : m ≠ .A) (hm2 : m ≠ .B) {f : AV} {az : List AV} (h : callM raw m f az bases st = some (a, st')) : st.length ≤ st'.length ∧ ∀ b, b ∈ bases → Sc b st → Sc b st' := by
  cases f <;> simp only [callM] at h <;> try (cases h; done)
  rotate_left
  · cases m <;> simp only at h <;> try (cases h; done)
    split at h
    · rename_i hb
      have hb : bases = [] := by simpa using hb
      subst hb
      refine ⟨?_, fun b hb => by simp at hb⟩
      split at h
      · split at h
        · rename_i k1
          split at h
          · split at h
            · simp only [Option.some.injEq, Prod.mk.injEq] at h
              obtain ⟨_, rfl⟩ := h
              have := (hr _ _ _ _ _ _ k1).1
              rw [List.length_set] at this ⊢
              exact this
            · cases h
          · cases h
        · cases h
      · cases h
    · cases h
  cases m <;> simp only at h
  · repeat' split at h
    all_goals first | (cases h; done) | skip
    cases h; exact ⟨Nat.le_refl _, fun b _ hs => hs⟩
  · split at h
    · rename_i hb
      have hb : bases = [] := by simpa using hb
      subst hb
      refine ⟨?_, fun b hb => by simp at hb⟩
      split at h
      · split at h
        · cases h
          rw [List.length_append, putAll_length]
          omega
        · cases h
      · cases h
    · cases h
  · split at h
    · rename_i r st2 k1
      obtain ⟨h3, h2⟩ := hr _ _ _ _ _ _ k1
      have fin : st.length ≤ (st2.take st.length).length ∧ ∀ b, b ∈ bases → Sc b st → Sc b (st2.take st.length) :=
        ⟨by rw [List.length_take]; omega, fun b hb hs => (h2 b (List.mem_cons_of_mem _ hb) hs).take (st0 := st) hs.1 h3⟩
      split at h
      · cases h; exact fin
      · split at h
        · cases h; exact fin
        · cases h
    · cases h
  · exact hr _ _ _ _ _ _ h
  · repeat' split at h
    all_goals first | (cases h; done) | skip
    cases h; exact ⟨Nat.le_refl _, fun b _ hs => hs⟩
  · exact absurd rfl hm
  · exact absurd rfl hm2
theorem callM_sc (hr : RawSc raw) {m : Mode} {f : AV} {az : List AV} (h : callM raw m f az bases st = some (a, st')) : st.length ≤ st'.length ∧ ∀ b, b ∈ bases → Sc b st → Sc b st' := by
  by_cases hm : m = .A
  · subst hm
    cases f with
    | fn f caps =>
      rw [callM_A] at h
      split at h
      · exact callM_sc0 hr (m := .N) (by simp) (by simp) h
      · cases h
    | _ => cases h
  · by_cases hm2 : m = .B
    · subst hm2
      cases f with
      | fn f caps => exact callM_sc0 hr (m := .N) (by simp) (by simp) (callM_B_some.1 h).1
      | _ => cases h
    · exact callM_sc0 hr hm hm2 h
abbrev Grows (bases : List Nat) (st st' : Store) : Prop := st.length ≤ st'.length ∧ ∀ b, b ∈ bases → Sc b st → Sc b st'
theorem Grows.refl (st : Store) : Grows bases st st := ⟨Nat.le_refl _, fun _ _ h => h⟩
theorem Grows.trans {st st1 st2 : Store} (h : Grows bases st st1) (k : Grows bases st1 st2) : Grows bases st st2 := ⟨Nat.le_trans h.1 k.1, fun b hb hs => k.2 b hb (h.2 b hb hs)⟩
mutual
theorem item_sc (hr : RawSc raw) : ∀ (i : Item) (e : Env) (st : Store) (e' : Env) (st' : Store), Item.run G raw bases i e st = some (e', st') → Grows bases st st'
  | .op d p, e, st, e', st', h => by
    simp only [Item.run] at h
    split at h
    · rename_i a st1 k1
      cases h
      exact ⟨Prim_len k1, fun b hb hs => Prim_sc k1 hb hs⟩
    · cases h
  | .opr d p ex, e, st, e', st', h => by
    simp only [Item.run] at h
    split at h
    · split at h
      · split at h
        · rename_i a st1 k1
          cases h
          exact ⟨Prim_len k1, fun b hb hs => Prim_sc k1 hb hs⟩
        · cases h
      · cases h
    · cases h
  | .call d m f az, e, st, e', st', h => by
    simp only [Item.run] at h
    split at h
    · split at h
      · split at h
        · rename_i a st1 k1
          cases h
          exact callM_sc hr k1
        · cases h
      · cases h
    · cases h
  | .gand d c sub x, e, st, e', st', h => by
    simp only [Item.run] at h
    split at h
    · split at h
      · split at h
        · rename_i e2 st2 k1
          split at h
          · cases h; exact items_sc hr sub _ _ _ _ k1
          · cases h
        · cases h
      · cases h; exact Grows.refl _
    · cases h
  | .gor d c sub x, e, st, e', st', h => by
    simp only [Item.run] at h
    split at h
    · split at h
      · cases h; exact Grows.refl _
      · split at h
        · rename_i e2 st2 k1
          split at h
          · cases h; exact items_sc hr sub _ _ _ _ k1
          · cases h
        · cases h
    · cases h
  | .gif c w sub, e, st, e', st', h => by
    simp only [Item.run] at h
    split at h
    · split at h
      · exact items_sc hr sub _ _ _ _ h
      · cases h; exact Grows.refl _
    · cases h
theorem items_sc (hr : RawSc raw) : ∀ (l : List Item) (e : Env) (st : Store) (e' : Env) (st' : Store), Item.runs G raw bases l e st = some (e', st') → Grows bases st st'
  | [], e, st, e', st', h => by
    simp only [Item.runs, Option.some.injEq, Prod.mk.injEq] at h
    obtain ⟨_, rfl⟩ := h
    exact Grows.refl _
  | i :: is, e, st, e', st', h => by
    simp only [Item.runs] at h
    split at h
    · rename_i e1 st1 k1
      exact (item_sc hr i _ _ _ _ k1).trans (items_sc hr is _ _ _ _ h)
    · cases h
end
theorem iter_sc {body : Env → Store → Option (Sig × Env × Store)} (hb : ∀ e st s e' st', body e st = some (s, e', st') → Grows bases st st') (n0 : Nat) (live : List Nat) : ∀ (n : Nat) (e : Env) (st : Store) (s : Sig) (e' : Env) (st' : Store), n0 ≤ st.length →
    iter body (compact bases n0 live) n e st = some (s, e', st') → n0 ≤ st'.length ∧ ∀ b, b ∈ bases → Sc b st → Sc b st'
  | 0, e, st, s, e', st', _, h => by cases h
  | n + 1, e, st, s, e', st', hn, h => by
    simp only [iter] at h
    obtain ⟨q1, q2⟩ := compact_sc (bases := bases) (live := live) (e := e) hn
    cases k : body (compact bases n0 live e st).1 (compact bases n0 live e st).2 with
    | none => rw [k] at h; cases h
    | some z =>
      obtain ⟨s1, e1, st1⟩ := z
      rw [k] at h
      obtain ⟨r1, r2⟩ := hb _ _ _ _ _ k
      cases s1
      · obtain ⟨t1, t2⟩ := iter_sc hb n0 live n _ _ _ _ _ (by omega) h
        exact ⟨t1, fun b hb hs => t2 b hb (r2 b hb (q2 b hb hs))⟩
      · cases h; exact ⟨by omega, fun b hb hs => r2 b hb (q2 b hb hs)⟩
      · cases h; exact ⟨by omega, fun b hb hs => r2 b hb (q2 b hb hs)⟩
theorem Grows.compact {st st1 : Store} {live : List Nat} {e : Env} (h : Grows bases st st1) : Grows bases st (compact bases st.length live e st1).2 :=
  ⟨(compact_sc h.1).1, fun b hb hs => (compact_sc (e := e) (live := live) h.1).2 b hb (h.2 b hb hs)⟩
theorem ir_sc (hr : RawSc raw) (n : Nat) : ∀ (c : IR) (e : Env) (st : Store) (s : Sig) (e' : Env) (st' : Store), IR.run G raw bases n c e st = some (s, e', st') → Grows bases st st' := by
  intro c
  induction c with
  | skip => intro e st s e' st' h; cases h; exact Grows.refl _
  | items l =>
    intro e st s e' st' h
    simp only [IR.run] at h
    split at h
    · rename_i e1 st1 k1
      cases h; exact items_sc hr l _ _ _ _ k1
    · cases h
  | seq a b iha ihb =>
    intro e st s e' st' h
    simp only [IR.run] at h
    cases k : IR.run G raw bases n a e st with
    | none => rw [k] at h; cases h
    | some z =>
      obtain ⟨s1, e1, st1⟩ := z
      rw [k] at h
      cases s1
      · exact (iha _ _ _ _ _ k).trans (ihb _ _ _ _ _ h)
      · cases h; exact iha _ _ _ _ _ k
      · cases h; exact iha _ _ _ _ _ k
  | cond c a b iha ihb =>
    intro e st s e' st' h
    simp only [IR.run] at h
    split at h
    · split at h
      · exact iha _ _ _ _ _ h
      · exact ihb _ _ _ _ _ h
    · cases h
  | block id live b ih =>
    intro e st s e' st' h
    simp only [IR.run] at h
    split at h
    · rename_i e1 st1 k1
      have hk := (ih _ _ _ _ _ k1).compact (live := live) (e := e1)
      simp only [Option.some.injEq, Prod.mk.injEq] at h
      rw [h.2] at hk
      exact hk
    · rename_i i e1 st1 k1
      split at h
      · have hk := (ih _ _ _ _ _ k1).compact (live := live) (e := e1)
        simp only [Option.some.injEq, Prod.mk.injEq] at h
        rw [h.2] at hk
        exact hk
      · cases h; exact ih _ _ _ _ _ k1
    · exact ih _ _ _ _ _ h
  | loop live b ih =>
    intro e st s e' st' h
    simp only [IR.run] at h
    exact iter_sc ih st.length live n _ _ _ _ _ (Nat.le_refl _) h
  | exit id live => intro e st s e' st' h; cases h; exact Grows.refl _
  | ret live => intro e st s e' st' h; cases h; exact Grows.refl _
  | rfn g k vars live =>
    intro e st s e' st' h
    simp only [IR.run] at h
    split at h
    · split at h
      · split at h
        · rename_i f caps _ env _ _ st2 k1
          have hb : bases = [] := by
            simp only [callM] at k1
            split at k1
            · rename_i hb; simpa using hb
            · cases k1
          subst hb
          have h1 := (callM_sc hr k1).1
          rw [List.length_append, List.length_singleton] at h1
          refine ⟨?_, fun b hb => by simp at hb⟩
          have h2 : ∀ ob, st.length ≤ (compact [] st.length live e (st2.set st.length ob)).2.length := fun ob => (compact_sc (bases := []) (live := live) (e := e) (n0 := st.length) (st := st2.set st.length ob) (by rw [List.length_set]; omega)).1
          unfold rfnK at h
          split at h
          · split at h
            · simp only [Option.some.injEq, Prod.mk.injEq] at h
              have h3 := h2 (.loop k ‹_› .over)
              rw [h.2] at h3
              exact h3
            · simp only [Option.some.injEq, Prod.mk.injEq] at h
              have h3 := h2 (.loop k ‹_› .over)
              rw [h.2] at h3
              exact h3
            · cases h
          · cases h
        · cases h
      · cases h
    · cases h
end
def PrimSc (P : Prog) : Prop := ∀ f p az st r st' bases, P.prim f = some p → p az st = some (r, st') → Grows bases st st'
theorem fin_st {rs : List RV} {x : Option (Sig × Env × Store)} {r : AV × Store} (h : fin rs x = some r) : ∃ s e st, x = some (s, e, st) ∧ r.2 = st := by
  unfold fin at h
  split at h
  · split at h
    · cases h; exact ⟨_, _, _, rfl, rfl⟩
    · cases h
  · split at h
    · cases h; exact ⟨_, _, _, rfl, rfl⟩
    · cases h
  · cases h
theorem compactV_sc {bases : List Nat} {n0 : Nat} {q : AV × Store} (hn : n0 ≤ q.2.length) : n0 ≤ (compactV bases n0 q).2.length ∧ ∀ b, b ∈ bases → Sc b q.2 → Sc b (compactV bases n0 q).2 := by
  unfold compactV
  split
  · exact compact_sc hn
  · exact ⟨hn, fun b _ h => h⟩
theorem callF_sc {P : Prog} (hp : PrimSc P) : ∀ n, RawSc (callF P n)
  | 0 => fun f az bases st r st' h => by cases h
  | n + 1 => fun f az bases st r st' h => by
    simp only [callF] at h
    split at h
    · rename_i p k1
      exact hp f p az st r st' bases k1 h
    · split at h
      · rename_i fd k2
        split at h
        · rename_i hlen
          cases hq : fin fd.results (IR.run P.glob (callF P n) bases n fd.body (argEnv az 0) st) with
          | none => rw [hq] at h; cases h
          | some q =>
            rw [hq] at h
            simp only [finC, Option.some.injEq] at h
            obtain ⟨s, e1, st1, k3, k4⟩ := fin_st hq
            have hg := ir_sc (callF_sc hp n) n _ _ _ _ _ _ k3
            rw [← k4] at hg
            have hc := compactV_sc (bases := bases) hg.1
            rw [h] at hc
            exact ⟨hc.1, fun b hb hs => hc.2 b hb (hg.2 b hb hs)⟩
        · cases h
      · split at h
        · rename_i d k2
          split at h
          · rename_i hlen
            obtain ⟨_, rfl⟩ := hlen
            cases hq : IR.run P.glob (callF P n) [] n d.body (bindEnv d.vars az) st with
            | none => rw [hq] at h; cases h
            | some q =>
              obtain ⟨s, e1, st1⟩ := q
              rw [hq] at h
              simp only [finL, finC, Option.some.injEq] at h
              have hg := ir_sc (callF_sc hp n) n _ _ _ _ _ _ hq
              have hc := compactV_sc (bases := []) (q := (.v (.int .i64 (numOf s)), st1)) hg.1
              rw [h] at hc
              exact ⟨hc.1, fun b hb => by simp at hb⟩
          · cases h
        · cases h
end Go.Proofs.YtoobogpbejdocaaDoor.Ev
