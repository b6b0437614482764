import Derived.Test.YtoobogpbejdocaaDoorEvCall
import Derived.Test.YtoobogpbejdocaaDoorEvLim
set_option linter.unusedVariables false
set_option linter.unusedSectionVars false
set_option linter.unusedSimpArgs false
namespace Go.Proofs.YtoobogpbejdocaaDoor.Ev
noncomputable def callP (E : Prog) (f : Nat) (l : List AV) : Option AV :=
  match callL E f l [] [] with
  | some (r, st) => r.snap st
  | none => none
theorem callP_of {E : Prog} (n : Nat) {f : Nat} {l : List AV} {r : AV} (h : (match callF E n f l [] [] with | some (r, st) => r.snap st | none => none) = some r) : callP E f l = some r := by
  cases k : callF E n f l [] [] with
  | none => rw [k] at h; cases h
  | some x =>
    rw [k] at h
    obtain ⟨r0, st0⟩ := x
    have := call_of n k
    simp only [callP, this]
    exact h
end Go.Proofs.YtoobogpbejdocaaDoor.Ev
