/-
  DefChecks: over whatever arguments the row hands over.
-/
import Derived.Test.YtlidkdhojblkiaaDoorEvG13
import Derived.Test.YtlidkdhojblkiaaDoorEvLChecks
set_option maxRecDepth 100000
namespace Go.Proofs.YtlidkdhojblkiaaDoor.Ev
theorem prim_valid (m : Int) : (E13 m).prim f_utf8_ValidString = some pValid := by kernel_rfl
theorem valid13 (m : Int) (s : ByteArray) (hs : s.size < 9223372036854775807) : callP (E13 m) f_utf8_ValidString [vs s] = some (vb (Lib.validD s.data.toList)) := by
  unfold callP
  rw [call_prim (prim_valid m)]
  simp only [pValid]
  rw [if_pos (by omega)]
  rfl
theorem law_checks (m : Int) (avs : List AV) (h : ArgsOf Go.Proofs.Tryd.prog [24, 24, 3] avs) : callP (E13 m) f_usufructlaw13_DefChecks avs = some (.v (.bool true)) := by
  simp only [ArgsOf] at h
  obtain ⟨x, r, rfl, hx, y, r2, rfl, hy, z, r3, rfl, hz, rfl⟩ := h
  obtain ⟨d, rfl, _⟩ := arg_def hx
  obtain ⟨o, rfl, _⟩ := arg_def hy
  obtain ⟨a, rfl, _⟩ := arg_int hz
  exact fn_lawChecks (std13 m) (valid13 m) (awake13P m) d o a
end Go.Proofs.YtlidkdhojblkiaaDoor.Ev
