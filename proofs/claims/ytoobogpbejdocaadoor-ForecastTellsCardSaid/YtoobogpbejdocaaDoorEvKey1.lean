import Derived.Test.YtoobogpbejdocaaDoorEvUtf3
import Derived.Lib.SplitLaws
import Derived.Lib.ItoaNum
import Derived.Lib.TrimUEq
set_option linter.unusedVariables false
set_option linter.unusedSectionVars false
set_option linter.unusedSimpArgs false
namespace Go.Proofs.YtoobogpbejdocaaDoor.Ev
def BA (l : List UInt8) : ByteArray := ⟨l.toArray⟩
theorem ba_data (l : List UInt8) : (BA l).data.toList = l := rfl
theorem ba_of (s : ByteArray) : BA s.data.toList = s := by
  unfold BA; rw [Array.toArray_toList]
theorem ba_size (l : List UInt8) : (BA l).size = l.length := rfl
theorem ba_inj {a b : List UInt8} : BA a = BA b ↔ a = b := ⟨fun h => by rw [← ba_data a, h, ba_data], fun h => by rw [h]⟩
def parts : List UInt8 → List (List UInt8)
  | [] => [[]]
  | c :: l => if c = 47 then [] :: parts l else (c :: (parts l).headD []) :: (parts l).tail
theorem nDigits_le : ∀ (k u : Nat), u < 10 ^ (k + 1) → Lib.nDigits u ≤ k + 1
  | 0, u, h => by rw [Lib.nDigits_small (by simpa using h)]; exact Nat.le_refl _
  | k + 1, u, h => by
    by_cases hu : u < 10
    · rw [Lib.nDigits_small hu]; omega
    · rw [Lib.nDigits_big hu]
      have := nDigits_le k (u / 10) (by rw [Nat.pow_succ] at h; omega)
      omega
def wayL (u : Bool) : List UInt8 := if u then [117, 110, 100, 111] else [100, 111]
end Go.Proofs.YtoobogpbejdocaaDoor.Ev
