/-
  DefParties: the law is answered true.
-/
import Derived.Test.YtlidkdhojblkiaaDoorEvG13
set_option maxRecDepth 100000
namespace Go.Proofs.YtlidkdhojblkiaaDoor.Ev
theorem fn13 (m : Int) : (E13 m).fn = fns := by kernel_rfl
theorem law_parties (m : Int) (avs : List AV) (h : ArgsOf Go.Proofs.Tryd.prog [24] avs) : callP (E13 m) f_usufructlaw13_DefParties avs = some (.v (.bool true)) := by
  simp only [ArgsOf] at h
  obtain ⟨a, r, rfl, ha, rfl⟩ := h
  obtain ⟨d, rfl, _⟩ := arg_def ha
  exact fn_lawParties (fn13 m) (prims_none (by kernel_rfl)) (awake13P m) d
end Go.Proofs.YtlidkdhojblkiaaDoor.Ev
