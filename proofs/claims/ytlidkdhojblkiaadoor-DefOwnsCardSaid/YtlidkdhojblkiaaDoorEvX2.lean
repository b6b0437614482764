/-
  DefOwns: over whatever arguments the row hands over.
-/
import Derived.Test.YtlidkdhojblkiaaDoorEvG13
import Derived.Test.YtlidkdhojblkiaaDoorEvLOwns
set_option maxRecDepth 100000
namespace Go.Proofs.YtlidkdhojblkiaaDoor.Ev
theorem law_owns (m : Int) (avs : List AV) (h : ArgsOf Go.Proofs.Tryd.prog [24, 3, 3] avs) : callP (E13 m) f_usufructlaw13_DefOwns avs = some (.v (.bool true)) := by
  simp only [ArgsOf] at h
  obtain ⟨x, r, rfl, hx, y, r2, rfl, hy, z, r3, rfl, hz, rfl⟩ := h
  obtain ⟨d, rfl, _⟩ := arg_def hx
  obtain ⟨a, rfl, _⟩ := arg_int hy
  obtain ⟨b, rfl, _⟩ := arg_int hz
  exact fn_lawOwns (std13 m) (awake13P m) d a b
end Go.Proofs.YtlidkdhojblkiaaDoor.Ev
