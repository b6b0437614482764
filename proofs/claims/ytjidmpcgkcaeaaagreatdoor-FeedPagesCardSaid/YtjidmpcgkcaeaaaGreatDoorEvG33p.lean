import Derived.Test.YtjidmpcgkcaeaaaGreatDoorEvG33
import Derived.Test.YtjidmpcgkcaeaaaGreatDoorEvFd7
set_option linter.unusedVariables false
set_option linter.unusedSimpArgs false
set_option maxRecDepth 100000
namespace Go.Proofs.YtjidmpcgkcaeaaaGreatDoor.Ev
open Go.RowKit Go.Proofs Go.ChangeShapes Go.WideShapes
theorem arg_u8 {a : AV} (h : ArgOf Tryz.prog 5 a) : ∃ n, a = .v (.int .u8 n) ∧ 0 ≤ n ∧ n ≤ 255 := by
  unfold ArgOf at h
  rw [Tryz.underlying5] at h
  simp only [Reads, Tryz.underlying5] at h
  obtain ⟨n, h1, h2⟩ := h
  cases h1
  simp only [Lit.wf, Bool.and_eq_true, decide_eq_true_eq] at h2
  have e1 : IntKind.u8.min = 0 := rfl
  have e2 : IntKind.u8.max = 255 := rfl
  rw [e1, e2] at h2
  exact ⟨n, rfl, h2⟩
theorem law_feedPages (avs : List AV) (h : ArgsOf Tryz.prog [22, 5] avs) : callP E33 f_usufructlaw33_FeedPages avs = some (.v (.bool true)) := by
  simp only [ArgsOf] at h
  obtain ⟨a, _, rfl, ha, b, _, rfl, hb, rfl⟩ := h
  obtain ⟨x, rfl, hx⟩ := arg_evs ha
  obtain ⟨n, rfl, n0, n1⟩ := arg_u8 hb
  exact fn_FeedPages lok33 awake33P x (by omega) n n0 n1
end Go.Proofs.YtjidmpcgkcaeaaaGreatDoor.Ev
