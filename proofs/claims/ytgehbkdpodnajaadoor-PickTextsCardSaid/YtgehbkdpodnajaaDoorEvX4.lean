/-
  PickReads and PickTexts: over whatever arguments the rows hand over.
-/
import Derived.Test.YtgehbkdpodnajaaDoorEvG36J
import Derived.Test.YtgehbkdpodnajaaDoorEvRd14
set_option maxRecDepth 100000
namespace Go.Proofs.YtgehbkdpodnajaaDoor.Ev
theorem law_pickReads (m : Int) (avs : List AV) (h : ArgsOf Go.Proofs.Tryd.prog [9] avs) : callP (E36J m) f_usufructlaw36_PickReads avs = some (.v (.bool true)) := by
  simp only [ArgsOf] at h
  obtain ⟨a, r, rfl, ha, rfl⟩ := h
  obtain ⟨s, rfl, _⟩ := arg_string ha
  rw [← ba_of s]
  exact fn_lawPickReads (std36j m) (vok36j m) (phok36j m) (ibok36j m) (asok36j m) (spok36j m) (itok36j m) (jok36j m) (awake36jP m) s.data.toList
theorem law_pickTexts (m : Int) (avs : List AV) (h : ArgsOf Go.Proofs.Tryd.prog [28] avs) : callP (E36J m) f_usufructlaw36_PickTexts avs = some (.v (.bool true)) := by
  simp only [ArgsOf] at h
  obtain ⟨a, r, rfl, ha, rfl⟩ := h
  obtain ⟨l, rfl, _⟩ := arg_terms ha
  exact fn_lawPickTexts (std36j m) (vok36j m) (phok36j m) (ibok36j m) (asok36j m) (spok36j m) (itok36j m) (jok36j m) (awake36jP m) l
end Go.Proofs.YtgehbkdpodnajaaDoor.Ev
