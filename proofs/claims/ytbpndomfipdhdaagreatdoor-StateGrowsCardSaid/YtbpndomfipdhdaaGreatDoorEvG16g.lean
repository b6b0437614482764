import Derived.Test.YtbpndomfipdhdaaGreatDoorEvG16
import Derived.Test.YtbpndomfipdhdaaGreatDoorEvSg23
set_option linter.unusedVariables false
set_option linter.unusedSimpArgs false
set_option maxRecDepth 100000
namespace Go.Proofs.YtbpndomfipdhdaaGreatDoor.Ev
open Go.RowKit Go.Proofs Go.ChangeShapes Go.WideShapes
theorem law_stateGrows (avs : List AV) (h : ArgsOf Tryz.prog [22, 3] avs) : callP E16 f_usufructlaw16_StateGrows avs = some (.v (.bool true)) := by
  simp only [ArgsOf] at h
  obtain ⟨a, _, rfl, ha, b, _, rfl, hb, rfl⟩ := h
  obtain ⟨x, rfl, hx⟩ := arg_evs ha
  obtain ⟨n, rfl⟩ := arg_int hb
  exact fn_StateGrows lok16 awake16P x (by omega) n
end Go.Proofs.YtbpndomfipdhdaaGreatDoor.Ev
