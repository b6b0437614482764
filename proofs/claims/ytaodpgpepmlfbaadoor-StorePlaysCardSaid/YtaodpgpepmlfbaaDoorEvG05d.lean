/-
  Chapter 05: the law StorePlays.
-/
import Derived.Test.YtaodpgpepmlfbaaDoorEvG05b
import Derived.Test.YtaodpgpepmlfbaaDoorEvSt7
import Derived.Test.YtaodpgpepmlfbaaDoorEvSt17
set_option linter.unusedVariables false
set_option linter.unusedSimpArgs false
set_option maxRecDepth 100000
namespace Go.Proofs.YtaodpgpepmlfbaaDoor.Ev
open Go.RowKit Go.Proofs Go.ChangeShapes Go.WideShapes
theorem law_storePlays (avs : List AV) (h : ArgsOf Tryd.prog [3, 34] avs) : callP E05 f_usufructlaw05_StorePlays avs = some (.v (.bool true)) := by
  simp only [ArgsOf] at h
  obtain ⟨a, _, rfl, ha, b, _, rfl, hb, rfl⟩ := h
  obtain ⟨x, rfl, _⟩ := arg_int ha
  obtain ⟨y, rfl, hy, ho⟩ := arg_acts hb
  exact fn_StorePlays std05 vok05 sok05 (fn_refBoot std05) awake05P x y (by omega) fun a ha => (ho a ha).2.2
end Go.Proofs.YtaodpgpepmlfbaaDoor.Ev
