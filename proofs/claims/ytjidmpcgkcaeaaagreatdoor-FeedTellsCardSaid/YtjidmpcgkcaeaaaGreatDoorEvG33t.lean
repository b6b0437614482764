import Derived.Test.YtjidmpcgkcaeaaaGreatDoorEvG33
import Derived.Test.YtjidmpcgkcaeaaaGreatDoorEvFd8
set_option linter.unusedVariables false
set_option linter.unusedSimpArgs false
set_option maxRecDepth 100000
namespace Go.Proofs.YtjidmpcgkcaeaaaGreatDoor.Ev
open Go.RowKit Go.Proofs Go.ChangeShapes Go.WideShapes
theorem law_feedTells (avs : List AV) (h : ArgsOf Tryz.prog [22, 3, 3] avs) : callP E33 f_usufructlaw33_FeedTells avs = some (.v (.bool true)) := by
  simp only [ArgsOf] at h
  obtain ⟨a, _, rfl, ha, b, _, rfl, hb, c, _, rfl, hc, rfl⟩ := h
  obtain ⟨x, rfl, hx⟩ := arg_evs ha
  obtain ⟨n, rfl⟩ := arg_int hb
  obtain ⟨m, rfl⟩ := arg_int hc
  exact fn_FeedTells lok33 awake33P x (by omega) n m
end Go.Proofs.YtjidmpcgkcaeaaaGreatDoor.Ev
