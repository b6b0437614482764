/-
  PickSagas: over whatever arguments the row hands over.
-/
import Derived.Test.YtgehbkdpodnajaaDoorEvG36
import Derived.Test.YtgehbkdpodnajaaDoorEvPick14
set_option maxRecDepth 100000
namespace Go.Proofs.YtgehbkdpodnajaaDoor.Ev
theorem law_pickSagas (m : Int) (avs : List AV) (h : ArgsOf Go.Proofs.Tryd.prog [31, 28] avs) : callP (E36 false m) f_usufructlaw36_PickSagas avs = some (.v (.bool true)) := by
  simp only [ArgsOf] at h
  obtain ⟨a, r, rfl, ha, b, r2, rfl, hb, rfl⟩ := h
  obtain ⟨l, rfl, _⟩ := arg_sagas ha
  obtain ⟨ts, rfl, _⟩ := arg_terms hb
  exact fn_lawPickSagas (std36 false m) (valid36 false m) (awake36P false m) l ts
end Go.Proofs.YtgehbkdpodnajaaDoor.Ev
