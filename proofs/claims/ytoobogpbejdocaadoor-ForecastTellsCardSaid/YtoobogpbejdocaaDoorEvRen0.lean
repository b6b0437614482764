import Derived.Test.YtoobogpbejdocaaDoorEvLim
set_option linter.unusedVariables false
set_option linter.unusedSectionVars false
set_option linter.unusedSimpArgs false
namespace Go.Proofs.YtoobogpbejdocaaDoor.Ev
theorem mem_idss {i : Nat} : ∀ {l : List AV}, i ∈ idss l ↔ ∃ a, a ∈ l ∧ i ∈ a.ids
  | [] => by simp [idss]
  | a :: l => by simp only [idss, List.mem_append, mem_idss, List.mem_cons, exists_eq_or_imp]
theorem mem_idsss {i : Nat} : ∀ {l : List (List AV)}, i ∈ idsss l ↔ ∃ c, c ∈ l ∧ i ∈ idss c
  | [] => by simp [idsss]
  | a :: l => by simp only [idsss, List.mem_append, mem_idsss, List.mem_cons, exists_eq_or_imp]
theorem idsss_flat {l : List (List AV)} {i : Nat} : i ∈ idsss l ↔ i ∈ idss l.flatten := by
  rw [mem_idsss, mem_idss]
  constructor
  · rintro ⟨c, hc, hi⟩
    obtain ⟨a, ha, hi⟩ := mem_idss.1 hi
    exact ⟨a, List.mem_flatten.2 ⟨c, hc, ha⟩, hi⟩
  · rintro ⟨a, ha, hi⟩
    obtain ⟨c, hc, ha⟩ := List.mem_flatten.1 ha
    exact ⟨c, hc, mem_idss.2 ⟨a, ha, hi⟩⟩
theorem rens_map {ρ : Nat → Nat} : ∀ l : List AV, rens ρ l = l.map (AV.ren ρ)
  | [] => rfl
  | a :: l => by simp only [rens, List.map_cons, rens_map l]
theorem renss_map {ρ : Nat → Nat} : ∀ l : List (List AV), renss ρ l = l.map (rens ρ)
  | [] => rfl
  | a :: l => by simp only [renss, List.map_cons, renss_map l]
theorem rens_app {ρ : Nat → Nat} (a b : List AV) : rens ρ (a ++ b) = rens ρ a ++ rens ρ b := by simp only [rens_map, List.map_append]
theorem renss_flat {ρ : Nat → Nat} : ∀ l : List (List AV), (renss ρ l).flatten = rens ρ l.flatten
  | [] => rfl
  | a :: l => by simp only [renss, List.flatten_cons, renss_flat l, rens_app]
theorem renss_length {ρ : Nat → Nat} (l : List (List AV)) : (renss ρ l).length = l.length := by simp only [renss_map, List.length_map]
theorem rens_length {ρ : Nat → Nat} (l : List AV) : (rens ρ l).length = l.length := by simp only [rens_map, List.length_map]
theorem pos_get : ∀ {l : List Nat} {i : Nat}, i ∈ l → l[pos l i]? = some i
  | [], i, h => by simp at h
  | x :: l, i, h => by
    simp only [pos]
    by_cases e : x = i
    · simp [e]
    · rw [if_neg e, List.getElem?_cons_succ]
      exact pos_get ((List.mem_cons.1 h).resolve_left fun q => e q.symm)
theorem nodupB_ok : ∀ {l : List Nat}, nodupB l = true → ∀ (i j x : Nat), l[i]? = some x → l[j]? = some x → i = j
  | [], _, i, j, x, h, _ => by simp at h
  | y :: l, hn, i, j, x, h1, h2 => by
    simp only [nodupB, Bool.and_eq_true, Bool.not_eq_true', List.contains_eq_mem, decide_eq_false_iff_not] at hn
    cases i with
    | zero => cases j with
      | zero => rfl
      | succ j =>
        simp only [List.getElem?_cons_zero, Option.some.injEq, List.getElem?_cons_succ] at h1 h2
        subst h1
        exact absurd (List.mem_of_getElem? h2) hn.1
    | succ i => cases j with
      | zero =>
        simp only [List.getElem?_cons_zero, Option.some.injEq, List.getElem?_cons_succ] at h1 h2
        subst h2
        exact absurd (List.mem_of_getElem? h1) hn.1
      | succ j =>
        simp only [List.getElem?_cons_succ] at h1 h2
        rw [nodupB_ok hn.2 i j x h1 h2]
theorem closedB_ok {st : Store} {l : List Nat} : ∀ {r : List Nat}, closedB st l r = true → ∀ i, i ∈ r → ∃ ob, st[i]? = some ob ∧ ∀ j, j ∈ ob.ids → j ∈ l
  | [], _, i, h => by simp at h
  | x :: r, hc, i, h => by
    simp only [closedB, Bool.and_eq_true] at hc
    rcases List.mem_cons.1 h with rfl | h
    · cases hs : st[i]? with
      | none => rw [hs] at hc; simp at hc
      | some ob =>
        rw [hs] at hc
        refine ⟨ob, rfl, fun j hj => ?_⟩
        have := List.all_eq_true.1 hc.1 j hj
        simpa using this
    · exact closedB_ok hc.2 i h
theorem sel_get {st : Store} {ρ : Nat → Nat} : ∀ {r : List Nat}, (∀ i, i ∈ r → ∃ ob, st[i]? = some ob) → ∀ k : Nat, (sel st ρ r)[k]? = (r[k]?).bind fun i => (st[i]?).map (Ob.ren ρ)
  | [], _, k => by simp [sel]
  | x :: r, h, k => by
    obtain ⟨ob, hob⟩ := h x List.mem_cons_self
    simp only [sel, hob]
    cases k with
    | zero => simp [hob]
    | succ k => simp only [List.getElem?_cons_succ]; exact sel_get (fun i hi => h i (List.mem_cons_of_mem _ hi)) k
theorem sel_length {st : Store} {ρ : Nat → Nat} : ∀ {r : List Nat}, (∀ i, i ∈ r → ∃ ob, st[i]? = some ob) → (sel st ρ r).length = r.length
  | [], _ => rfl
  | x :: r, h => by
    obtain ⟨ob, hob⟩ := h x List.mem_cons_self
    simp only [sel, hob, List.length_cons, sel_length fun i hi => h i (List.mem_cons_of_mem _ hi)]
theorem upto_get : ∀ {n s k : Nat}, (upto n s)[k]? = if k < n then some (s + k) else none
  | 0, s, k => by simp [upto]
  | n + 1, s, k => by
    simp only [upto]
    cases k with
    | zero => simp
    | succ k =>
      rw [List.getElem?_cons_succ, upto_get]
      by_cases h : k < n
      · rw [if_pos h, if_pos (by omega)]; congr 1; omega
      · rw [if_neg h, if_neg (by omega)]
theorem upto_length : ∀ {n s : Nat}, (upto n s).length = n
  | 0, s => rfl
  | n + 1, s => by simp only [upto, List.length_cons, upto_length]
theorem putAll_length : ∀ {o : List Nat} {st l : Store}, (putAll st o l).length = st.length
  | [], st, l => by cases l <;> rfl
  | i :: o, st, [] => rfl
  | i :: o, st, ob :: l => by simp only [putAll, putAll_length, List.length_set]
theorem putAll_get : ∀ {o : List Nat} {st l : Store}, nodupB o = true → o.length ≤ l.length → (∀ i, i ∈ o → i < st.length) → ∀ (k i : Nat), o[k]? = some i → (putAll st o l)[i]? = l[k]?
  | [], st, l, _, _, _, k, i, h => by simp at h
  | x :: o, st, [], _, hl, _, k, i, h => by simp at hl
  | x :: o, st, ob :: l, hn, hl, hlt, k, i, h => by
    simp only [nodupB, Bool.and_eq_true, Bool.not_eq_true', List.contains_eq_mem, decide_eq_false_iff_not] at hn
    simp only [putAll]
    cases k with
    | zero =>
      simp only [List.getElem?_cons_zero, Option.some.injEq] at h
      subst h
      rw [putAll_other hn.1, List.getElem?_cons_zero, List.getElem?_set_self (hlt x List.mem_cons_self)]
    | succ k =>
      simp only [List.getElem?_cons_succ] at h ⊢
      exact putAll_get hn.2 (by simpa using hl) (fun j hj => by rw [List.length_set]; exact hlt j (List.mem_cons_of_mem _ hj)) k i h
where
  putAll_other {o : List Nat} {i : Nat} (h : i ∉ o) {st l : Store} : (putAll st o l)[i]? = st[i]? := by
    induction o generalizing st l with
    | nil => cases l <;> rfl
    | cons x o ih =>
      cases l with
      | nil => rfl
      | cons ob l =>
        simp only [putAll]
        rw [ih fun q => h (List.mem_cons_of_mem _ q)]
        rw [List.getElem?_set_ne (fun e => h (by rw [e]; exact List.mem_cons_self))]
theorem putAll_other {o : List Nat} {i : Nat} (h : i ∉ o) {st l : Store} : (putAll st o l)[i]? = st[i]? := putAll_get.putAll_other h
end Go.Proofs.YtoobogpbejdocaaDoor.Ev
