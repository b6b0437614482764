/-
  Picks: whether a term holds, by the document.
-/
import Derived.Test.YtgehbkdpodnajaaDoorEvPick4
set_option linter.unusedVariables false
set_option linter.unusedSimpArgs false
namespace Go.Proofs.YtgehbkdpodnajaaDoor.Ev
attribute [local congr] bind_congr_head
theorem good_sign {t : TermT} (h : goodB t = true) (hk : fieldK t.field ≠ 6) : t.sign = -1 ∨ t.sign = 0 ∨ t.sign = 1 := by
  have c := cmp_of t.field
  unfold goodB at h
  generalize fieldK t.field = k at *
  have hk9 := c.le
  have : k = 7 ∨ k = 8 ∨ k = 9 ∨ k < 6 := by omega
  rcases this with rfl | rfl | rfl | hk6
  · simp only [goodK, Bool.and_eq_true, decide_eq_true_eq] at h; omega
  · simp only [goodK, Bool.and_eq_true, decide_eq_true_eq] at h; omega
  · cases h
  · rw [goodK_lt t hk6] at h
    simp only [Bool.and_eq_true, decide_eq_true_eq] at h; omega
theorem good_nine {t : TermT} (h : goodB t = true) : fieldK t.field ≠ 9 := fun e => by
  unfold goodB at h; rw [e] at h; cases h
/-- The document's comparison. -/
theorem cmp_sign {v n g : Int} (h : g = -1 ∨ g = 0 ∨ g = 1) : (decide (g < 0) && decide (v < n) || decide (g = 0) && decide (v = n) || decide (0 < g) && decide (n < v)) = decide (cmpS v n = g) := by
  unfold cmpS
  rcases h with rfl | rfl | rfl
  · by_cases a : v < n
    · simp [a]
    · by_cases b : n < v <;> simp [a, b]
  · by_cases a : v < n
    · have : ¬ v = n := by omega
      simp [a, this]
    · by_cases b : n < v
      · have : ¬ v = n := by omega
        simp [a, b, this]
      · have : v = n := by omega
        simp [this]
  · by_cases a : v < n
    · have : ¬ n < v := by omega
      simp [a, this]
    · by_cases b : n < v <;> simp [a, b]
end Go.Proofs.YtgehbkdpodnajaaDoor.Ev
