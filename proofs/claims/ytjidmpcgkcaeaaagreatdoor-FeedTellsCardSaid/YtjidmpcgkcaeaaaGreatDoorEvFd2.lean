import Derived.Test.YtjidmpcgkcaeaaaGreatDoorEvFd1
set_option linter.unusedVariables false
set_option linter.unusedSimpArgs false
namespace Go.Proofs.YtjidmpcgkcaeaaaGreatDoor.Ev
structure ChT where
  at_ : Int
  saga : Int
  was : Int
  is_ : Int
def ChT.cells (c : ChT) : List AV := [vi c.at_, vi c.saga, vi c.was, vi c.is_]
theorem ro_ch : Ro ChT.cells := fun _ => rfl
def chg (i : Nat) (x x' : StT) (v : EvT) : List ChT :=
  if v.kind ≠ 0 ∧ phS x.sagas.list v.saga ≠ phS x'.sagas.list v.saga then [⟨i, v.saga, phS x.sagas.list v.saga, phS x'.sagas.list v.saga⟩] else []
def chgs (i : Nat) (x : StT) : List EvT → List (StT × StT × CmT) → List ChT
  | v :: r, (x', _, _) :: T => chg i x x' v ++ chgs (i + 1) x' r T
  | _, _ => []
theorem chg_in {i : Nat} {x x' : StT} {v : EvT} {c : ChT} (h : c ∈ chg i x x' v) : c.at_ = i := by
  unfold chg at h
  split at h
  · simp only [List.mem_singleton] at h; rw [h]
  · cases h
theorem chgs_in : ∀ (l : List EvT) (T : List (StT × StT × CmT)) (i : Nat) (x : StT) (c : ChT), c ∈ chgs i x l T → (i : Int) ≤ c.at_ ∧ c.at_ < ((i + l.length : Nat) : Int)
  | [], _, i, x, c, h => by simp [chgs] at h
  | v :: r, [], i, x, c, h => by simp [chgs] at h
  | v :: r, (x', y', cm) :: T, i, x, c, h => by
    rw [chgs, List.mem_append] at h
    rcases h with h | h
    · have := chg_in h
      simp only [List.length_cons]; omega
    · have := chgs_in r T (i + 1) x' c h
      simp only [List.length_cons]; omega
theorem chgs_len : ∀ (l : List EvT) (T : List (StT × StT × CmT)) (i : Nat) (x : StT), (chgs i x l T).length ≤ l.length
  | [], _, i, x => by simp [chgs]
  | v :: r, [], i, x => by simp [chgs]
  | v :: r, (x', y', cm) :: T, i, x => by
    have h1 := chgs_len r T (i + 1) x'
    have h2 : (chg i x x' v).length ≤ 1 := by unfold chg; split <;> simp
    rw [chgs, List.length_append, List.length_cons]; omega
def fromC (k : Int) (C : List ChT) : List ChT := C.filter fun c => decide (k ≤ c.at_)
theorem from_all {k : Int} : ∀ {C : List ChT}, (∀ c, c ∈ C → k ≤ c.at_) → fromC k C = C := fun h => List.filter_eq_self.2 fun c hc => decide_eq_true (h c hc)
theorem from_none {k : Int} {C : List ChT} (h : ∀ c, c ∈ C → c.at_ < k) : fromC k C = [] := List.filter_eq_nil_iff.2 fun c hc => by
  have := h c hc
  simp only [decide_eq_true_eq]; omega
structure PgI (C : List ChT) (n : Int) (m t : Nat) (at_ : Int) : Prop where
  fr : fromC at_ C = C.drop (t * m)
  le : at_ ≤ n
  nn : 0 ≤ at_
  en : C.length ≤ t * m → 0 < t → at_ = n
end Go.Proofs.YtjidmpcgkcaeaaaGreatDoor.Ev
