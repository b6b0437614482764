/-
  PickHolds: over whatever arguments the row hands over.
-/
import Derived.Test.YtgehbkdpodnajaaDoorEvG36
import Derived.Test.YtgehbkdpodnajaaDoorEvPick8
set_option maxRecDepth 100000
namespace Go.Proofs.YtgehbkdpodnajaaDoor.Ev
theorem law_pickHolds (m : Int) (avs : List AV) (h : ArgsOf Go.Proofs.Tryd.prog [23, 25] avs) : callP (E36 false m) f_usufructlaw36_PickHolds avs = some (.v (.bool true)) := by
  simp only [ArgsOf] at h
  obtain ⟨a, r, rfl, ha, b, r2, rfl, hb, rfl⟩ := h
  obtain ⟨t, rfl⟩ := arg_term ha
  obtain ⟨x, rfl⟩ := arg_saga hb
  exact fn_lawPickHolds (std36 false m) (valid36 false m) (awake36P false m) t x
end Go.Proofs.YtgehbkdpodnajaaDoor.Ev
