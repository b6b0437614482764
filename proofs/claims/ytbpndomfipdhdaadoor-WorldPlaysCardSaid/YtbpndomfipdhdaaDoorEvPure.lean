/-
  Calls that are handed and hand back plain values: an equation without a store.
-/
import Derived.Test.YtbpndomfipdhdaaDoorEvCall
import Derived.Test.YtbpndomfipdhdaaDoorEvLim
set_option linter.unusedVariables false
set_option linter.unusedSimpArgs false
namespace Go.Proofs.YtbpndomfipdhdaaDoor.Ev

/-- What a call answers, seen when it is done. -/
noncomputable def callP (E : Prog) (f : Nat) (l : List AV) : Option AV :=
  match callL E f l [] [] with
  | some (r, st) => r.snap st
  | none => none
theorem callM_P_eq {E : Prog} {f : Nat} {l : List AV} {bs : List Nat} {st : Store} (h : ros l = true) : callM (callL E) .P (.fn f []) l bs st = match callP E f l with
    | some r => some (r, st)
    | none => none := by
  simp only [callM, List.append_nil, snaps_ro l h, callP]
  cases callL E f l [] [] with
  | none => rfl
  | some x =>
    obtain ⟨r, st2⟩ := x
    dsimp only
    cases r.snap st2 with
    | none => rfl
    | some r' => simp only [h, Bool.true_or, if_true]
theorem callP_of {E : Prog} (n : Nat) {f : Nat} {l : List AV} {r : AV} (h : (match callF E n f l [] [] with | some (r, st) => r.snap st | none => none) = some r) : callP E f l = some r := by
  cases k : callF E n f l [] [] with
  | none => rw [k] at h; cases h
  | some x =>
    rw [k] at h
    obtain ⟨r0, st0⟩ := x
    have := call_of n k
    simp only [callP, this]
    exact h
end Go.Proofs.YtbpndomfipdhdaaDoor.Ev
