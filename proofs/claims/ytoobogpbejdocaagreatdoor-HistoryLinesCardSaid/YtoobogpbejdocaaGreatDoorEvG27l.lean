import Derived.Test.YtoobogpbejdocaaGreatDoorEvG27
set_option linter.unusedVariables false
set_option linter.unusedSectionVars false
set_option linter.unusedSimpArgs false
set_option maxRecDepth 100000
namespace Go.Proofs.YtoobogpbejdocaaGreatDoor.Ev
open Go.RowKit Go.Proofs Go.ChangeShapes Go.WideShapes
theorem law_historyLines (avs : List AV) (h : ArgsOf Tryz.prog [22, 3] avs) : callP E27 f_usufructlaw27_HistoryLines avs = some (.v (.bool true)) := by
  simp only [ArgsOf] at h
  obtain ⟨a, _, rfl, ha, b, _, rfl, hb, rfl⟩ := h
  obtain ⟨x, rfl, hx⟩ := arg_evs ha
  obtain ⟨n, rfl⟩ := arg_int hb
  exact fn_HistoryLines lok27 pg27 lp27 awake27P x (by omega) n
end Go.Proofs.YtoobogpbejdocaaGreatDoor.Ev
