/-
  DefKeys: over whatever arguments the row hands over.
-/
import Derived.Test.YtlidkdhojblkiaaDoorEvG13
import Derived.Test.YtlidkdhojblkiaaDoorEvKey2
set_option maxRecDepth 100000
namespace Go.Proofs.YtlidkdhojblkiaaDoor.Ev
theorem prim_validk (m : Int) : (E13 m).prim f_utf8_ValidString = some pValid := by kernel_rfl
theorem valid13k (m : Int) (s : ByteArray) (hs : s.size < 9223372036854775807) : callP (E13 m) f_utf8_ValidString [vs s] = some (vb (Lib.validD s.data.toList)) := by
  unfold callP
  rw [call_prim (prim_validk m)]
  simp only [pValid]
  rw [if_pos (by omega)]
  rfl
theorem prim_itoa (m : Int) : (E13 m).prim f_strconv_Itoa_0 = some pItoa := by kernel_rfl
theorem prim_split (m : Int) : (E13 m).prim f_strings_Split = some pSplit := by kernel_rfl
theorem itoa13 (m : Int) (n : Int) (h0 : -9223372036854775808 ≤ n) (h1 : n ≤ 9223372036854775807) : callP (E13 m) f_strconv_Itoa_0 [vi n] = some (vs (BA (Lib.itoa n))) := by
  unfold callP
  rw [call_prim (prim_itoa m)]
  simp only [pItoa]
  rw [if_pos ⟨h0, h1⟩]
  rfl
theorem ross_ba : ∀ l : List (List UInt8), ross (l.map fun b => [vs (BA b)]) = true
  | [] => rfl
  | x :: l => by
    have ih := ross_ba l
    rw [List.map_cons]
    unfold ross at ih ⊢
    rw [belowss, ih]; rfl
theorem split13 (m : Int) (s : ByteArray) (hs : s.size < 4294967281) : callP (E13 m) f_strings_Split [vs s, vs ⟨#[47]⟩] = some (.sl 1 ((parts s.data.toList).map fun b => [vs (BA b)])) := by
  unfold callP
  rw [call_prim (prim_split m)]
  simp only [pSplit]
  rw [if_pos ⟨hs, by decide⟩, split_parts, List.map_map]
  simp only [AV.snap]
  exact if_pos (ross_ba _)
theorem law_keys (m : Int) (avs : List AV) (h : ArgsOf Go.Proofs.Tryd.prog [24, 3, 3, 4, 9] avs) : callP (E13 m) f_usufructlaw13_DefKeys avs = some (.v (.bool true)) := by
  simp only [ArgsOf] at h
  obtain ⟨x, r, rfl, hx, y, r2, rfl, hy, z, r3, rfl, hz, b, r4, rfl, hb, k, r5, rfl, hk, rfl⟩ := h
  obtain ⟨d, rfl, _⟩ := arg_def hx
  obtain ⟨a, rfl, ha⟩ := arg_int hy
  obtain ⟨c, rfl, _⟩ := arg_int hz
  obtain ⟨u, rfl⟩ := arg_bool hb
  obtain ⟨s, rfl, _⟩ := arg_string hk
  rw [← ba_of s]
  exact fn_lawKeys (std13 m) (valid13k m) (awake13P m) (itoa13 m) (split13 m) d a c (by have := ha; unfold I64 at this; omega) u s.data.toList
end Go.Proofs.YtlidkdhojblkiaaDoor.Ev
