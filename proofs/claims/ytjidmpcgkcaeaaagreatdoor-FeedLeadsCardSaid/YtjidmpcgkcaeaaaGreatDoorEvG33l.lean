import Derived.Test.YtjidmpcgkcaeaaaGreatDoorEvG33
import Derived.Test.YtjidmpcgkcaeaaaGreatDoorEvFl7
set_option linter.unusedVariables false
set_option linter.unusedSimpArgs false
set_option maxRecDepth 100000
namespace Go.Proofs.YtjidmpcgkcaeaaaGreatDoor.Ev
open Go.RowKit Go.Proofs Go.ChangeShapes Go.WideShapes
theorem law_feedLeads (avs : List AV) (h : ArgsOf Tryz.prog [22, 5] avs) : callP E33 f_usufructlaw33_FeedLeads avs = some (.v (.bool true)) := by
  simp only [ArgsOf] at h
  obtain ⟨a, _, rfl, ha, b, _, rfl, hb, rfl⟩ := h
  obtain ⟨x, rfl, hx⟩ := arg_evs ha
  obtain ⟨n, rfl, n0, n1⟩ := arg_u8 hb
  exact fn_FeedLeads lok33 (by show prim33 26 = _; rfl) (by show prim33 25 = _; rfl) awake33P x (by omega) n n0 n1
end Go.Proofs.YtjidmpcgkcaeaaaGreatDoor.Ev
