import Derived.Test.YtjidmpcgkcaeaaaGreatDoorEvFd1
set_option linter.unusedVariables false
set_option linter.unusedSimpArgs false
namespace Go.Proofs.YtjidmpcgkcaeaaaGreatDoor.Ev
structure ChT where
  at_ : Int
  saga : Int
  was : Int
  is_ : Int
def ChT.cells (c : ChT) : List AV := [vi c.at_, vi c.saga, vi c.was, vi c.is_]
theorem ro_ch : Ro ChT.cells := fun _ => rfl
def chg (i : Nat) (x x' : StT) (v : EvT) : List ChT :=
  if v.kind ≠ 0 ∧ phS x.sagas.list v.saga ≠ phS x'.sagas.list v.saga then [⟨i, v.saga, phS x.sagas.list v.saga, phS x'.sagas.list v.saga⟩] else []
def chgs (i : Nat) (x : StT) : List EvT → List (StT × StT × CmT) → List ChT
  | v :: r, (x', _, _) :: T => chg i x x' v ++ chgs (i + 1) x' r T
  | _, _ => []
theorem chg_in {i : Nat} {x x' : StT} {v : EvT} {c : ChT} (h : c ∈ chg i x x' v) : c.at_ = i := by
  unfold chg at h
  split at h
  · simp only [List.mem_singleton] at h; rw [h]
  · cases h
theorem chgs_in : ∀ (l : List EvT) (T : List (StT × StT × CmT)) (i : Nat) (x : StT) (c : ChT), c ∈ chgs i x l T → (i : Int) ≤ c.at_ ∧ c.at_ < ((i + l.length : Nat) : Int)
  | [], _, i, x, c, h => by simp [chgs] at h
  | v :: r, [], i, x, c, h => by simp [chgs] at h
  | v :: r, (x', y', cm) :: T, i, x, c, h => by
    rw [chgs, List.mem_append] at h
    rcases h with h | h
    · have := chg_in h
      simp only [List.length_cons]; omega
    · have := chgs_in r T (i + 1) x' c h
      simp only [List.length_cons]; omega
theorem chgs_len : ∀ (l : List EvT) (T : List (StT × StT × CmT)) (i : Nat) (x : StT), (chgs i x l T).length ≤ l.length
  | [], _, i, x => by simp [chgs]
  | v :: r, [], i, x => by simp [chgs]
  | v :: r, (x', y', cm) :: T, i, x => by
    have h1 := chgs_len r T (i + 1) x'
    have h2 : (chg i x x' v).length ≤ 1 := by unfold chg; split <;> simp
    rw [chgs, List.length_append, List.length_cons]; omega
abbrev ltA (a b : ChT) : Prop := a.at_ < b.at_
theorem chgs_pw : ∀ (l : List EvT) (T : List (StT × StT × CmT)) (i : Nat) (x : StT), (chgs i x l T).Pairwise ltA
  | [], _, i, x => by simp [chgs]
  | v :: r, [], i, x => by simp [chgs]
  | v :: r, (x', y', cm) :: T, i, x => by
    rw [chgs, List.pairwise_append]
    refine ⟨?_, chgs_pw r T (i + 1) x', fun a ha b hb => ?_⟩
    · unfold chg
      split
      · exact List.pairwise_singleton _ _
      · exact .nil
    · have h1 := chg_in ha
      have h2 := chgs_in r T (i + 1) x' b hb
      show a.at_ < b.at_
      omega
def fromC (k : Int) (C : List ChT) : List ChT := C.filter fun c => decide (k ≤ c.at_)
theorem from_all {k : Int} : ∀ {C : List ChT}, (∀ c, c ∈ C → k ≤ c.at_) → fromC k C = C := fun h => List.filter_eq_self.2 fun c hc => decide_eq_true (h c hc)
theorem from_none {k : Int} {C : List ChT} (h : ∀ c, c ∈ C → c.at_ < k) : fromC k C = [] := List.filter_eq_nil_iff.2 fun c hc => by
  have := h c hc
  simp only [decide_eq_true_eq]; omega
theorem from_drop {C : List ChT} (hp : C.Pairwise ltA) : ∀ (j : Nat) (c : ChT), C[j]? = some c → fromC (c.at_ + 1) C = C.drop (j + 1) := by
  induction C with
  | nil => intro j c h; cases h
  | cons d r ih =>
    intro j c h
    obtain ⟨p1, p2⟩ := List.pairwise_cons.1 hp
    cases j with
    | zero =>
      simp only [List.getElem?_cons_zero, Option.some.injEq] at h
      subst h
      have h1 : ¬ d.at_ + 1 ≤ d.at_ := by omega
      rw [fromC, List.filter_cons, if_neg (by simpa using h1)]
      exact from_all fun c hc => by have : d.at_ < c.at_ := p1 c hc; omega
    | succ j =>
      simp only [List.getElem?_cons_succ] at h
      have h1 : d.at_ < c.at_ := p1 c (List.mem_of_getElem? h)
      have h2 : ¬ c.at_ + 1 ≤ d.at_ := by omega
      rw [fromC, List.filter_cons, if_neg (by simpa using h2)]
      exact ih p2 j c h
def pageC (n : Int) (m : Nat) (R : List ChT) : List ChT × Int :=
  if m < R.length then (R.take m, (match R[m - 1]? with | some c => c.at_ + 1 | none => n)) else (R, n)
structure PgI (C : List ChT) (n : Int) (m t : Nat) (at_ : Int) : Prop where
  fr : fromC at_ C = C.drop (t * m)
  le : at_ ≤ n
  nn : 0 ≤ at_
  en : C.length ≤ t * m → 0 < t → at_ = n
theorem pg_start (C : List ChT) (n : Int) (m : Nat) (h0 : ∀ c, c ∈ C → 0 ≤ c.at_) (hn : 0 ≤ n) : PgI C n m 0 0 :=
  ⟨by rw [from_all h0, Nat.zero_mul, List.drop_zero], hn, Int.le_refl _, fun _ h => by omega⟩
theorem pg_step {C : List ChT} {n : Int} {m t : Nat} {at_ : Int} (hp : C.Pairwise ltA) (hC : ∀ c, c ∈ C → 0 ≤ c.at_ ∧ c.at_ < n) (hm : 0 < m) (h : PgI C n m t at_) :
    PgI C n m (t + 1) (pageC n m (C.drop (t * m))).2 ∧ at_ ≤ (pageC n m (C.drop (t * m))).2 ∧ (pageC n m (C.drop (t * m))).1 = (C.drop (t * m)).take m ∧ C.take (t * m) ++ (pageC n m (C.drop (t * m))).1 = C.take ((t + 1) * m) := by
  have e1 : (t + 1) * m = t * m + m := Nat.succ_mul t m
  have hnl := h.le
  have h0 := h.nn
  have hfr := h.fr
  rw [e1]
  generalize t * m = k at *
  have ta : C.take (k + m) = C.take k ++ (C.drop k).take m := List.take_add ..
  unfold pageC
  by_cases c : m < (C.drop k).length
  · have hl : k + m < C.length := by rw [List.length_drop] at c; omega
    have hg : (C.drop k)[m - 1]? = some (C[k + (m - 1)]'(by omega)) := by rw [List.getElem?_drop, List.getElem?_eq_getElem]
    have hc : C[k + (m - 1)]? = some (C[k + (m - 1)]'(by omega)) := List.getElem?_eq_getElem _
    rw [if_pos c]
    simp only [hg]
    generalize hx : C[k + (m - 1)]'(by omega) = x at hg hc
    have hb := hC x (List.mem_of_getElem? hc)
    have hin : x ∈ fromC at_ C := by rw [hfr]; exact List.mem_of_getElem? hg
    have hge : at_ ≤ x.at_ := of_decide_eq_true (List.mem_filter.1 hin).2
    have hd := from_drop hp (k + (m - 1)) x hc
    refine ⟨⟨?_, by omega, by omega, fun h1 => by rw [e1] at h1; omega⟩, by omega, (by first | rfl | trivial), ta.symm⟩
    rw [e1, hd, show k + (m - 1) + 1 = k + m by omega]
  · rw [if_neg c]
    rw [List.length_drop] at c
    have hall : (C.drop k).take m = C.drop k := List.take_of_length_le (by rw [List.length_drop]; omega)
    refine ⟨⟨?_, Int.le_refl _, by omega, fun _ _ => rfl⟩, hnl, hall.symm, by rw [ta, hall]⟩
    rw [e1, from_none fun c hc => (hC c hc).2, List.drop_eq_nil_of_le (by omega)]
end Go.Proofs.YtjidmpcgkcaeaaaGreatDoor.Ev
