/-
  PickFewer: over whatever arguments the row hands over.
-/
import Derived.Test.YtgehbkdpodnajaaDoorEvG36
import Derived.Test.YtgehbkdpodnajaaDoorEvPick11
set_option maxRecDepth 100000
namespace Go.Proofs.YtgehbkdpodnajaaDoor.Ev
theorem law_pickFewer (m : Int) (avs : List AV) (h : ArgsOf Go.Proofs.Tryd.prog [31, 28, 23] avs) : callP (E36 false m) f_usufructlaw36_PickFewer avs = some (.v (.bool true)) := by
  simp only [ArgsOf] at h
  obtain ⟨a, r, rfl, ha, b, r2, rfl, hb, c, r3, rfl, hc, rfl⟩ := h
  obtain ⟨l, rfl, _⟩ := arg_sagas ha
  obtain ⟨ts, rfl, _⟩ := arg_terms hb
  obtain ⟨t, rfl⟩ := arg_term hc
  exact fn_lawPickFewer (std36 false m) (valid36 false m) (awake36P false m) l ts t
end Go.Proofs.YtgehbkdpodnajaaDoor.Ev
