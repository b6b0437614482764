/-
  Chapter 21: what the evaluator's program gives.
-/
import Derived.Test.YtbpndomfipdhdaaDoorEvPr
import Derived.Test.YtbpndomfipdhdaaDoorEvIR
import Derived.Test.YtbpndomfipdhdaaDoorEvCk
import Derived.Test.YtbpndomfipdhdaaDoorEvDelC
import Derived.Test.YtbpndomfipdhdaaDoorEvDelR
import Derived.Test.YtbpndomfipdhdaaDoorEvSl
set_option linter.unusedVariables false
set_option linter.unusedSimpArgs false
set_option maxRecDepth 100000
namespace Go.Proofs.YtbpndomfipdhdaaDoor.Ev
open Go.RowKit Go.Proofs Go.ChangeShapes Go.WideShapes
def glob21 (m : Int) : Nat → Option (List AV)
  | 0 => some (tabFirst.map AV.v)
  | 1 => some (tabAcc.map AV.v)
  | 2 => some ((Lib.pow10Tab.map fun z => Value.int .u64 z).map AV.v)
  | 3 => some [.v (.int .i64 m)]
  | _ => none
def prim21 : Nat → Option (List AV → Store → Option (AV × Store))
  | 47 => some (pDelete 6)
  | 48 => some (pDelete 5)
  | 50 => some pValid
  | 54 => some pItoa
  | 63 => some pSplit
  | _ => none
def E21 (m : Int) : Prog := ⟨glob21 m, fns, prim21⟩
theorem awake21 (m : Int) : (callF (E21 m) 60 f_usufructlaw21_awake [] [] []).map (·.1) = some (.v (.bool true)) := by kernel_rfl
theorem prim21_ok (m : Int) : PrimOK Go.Proofs.Tryd.prog (E21 m) := by
  intro f p xs C r st' cargs hp h hO hg hv
  have hp' : prim21 f = some p := hp
  unfold prim21 at hp'
  split at hp'
  · cases hp'; exact EvDelC.ok xs C r st' cargs h hO hv
  · cases hp'; exact EvDelR.ok xs C r st' cargs h hO hv
  · cases hp'; exact ok_valid (G := (E21 m).glob) rfl rfl xs C r st' cargs h hO hg hv
  · cases hp'; exact ok_itoa (G := (E21 m).glob) rfl xs C r st' cargs h hO hg hv
  · cases hp'; exact ok_split (G := (E21 m).glob) (m := m) rfl xs C r st' cargs h hO hg hv
  · cases hp'
theorem prim21_sc (m : Int) : PrimSc (E21 m) := by
  intro f p xs st r st' bases hp h
  have hp' : prim21 f = some p := hp
  unfold prim21 at hp'
  split at hp'
  · cases hp'; exact del_grows h
  · cases hp'; exact del_grows h
  · cases hp'
    have := keep_valid _ _ _ _ h
    subst this
    exact Grows.refl _
  · cases hp'
    have := keep_itoa _ _ _ _ h
    subst this
    exact Grows.refl _
  · cases hp'
    have := keep_split _ _ _ _ h
    subst this
    exact Grows.refl _
  · cases hp'
theorem belows_v : ∀ l : List Value, belows 0 (l.map AV.v) = true
  | [] => rfl
  | x :: l => by simp only [List.map_cons, belows, AV.under, belows_v l, Bool.and_self]
theorem gro21 (m : Int) : GRo (E21 m).glob := by
  intro g cs h
  have h' : glob21 m g = some cs := h
  unfold glob21 at h'
  split at h'
  · cases h'; exact belows_v _
  · cases h'; exact belows_v _
  · cases h'; exact belows_v _
  · cases h'; rfl
  · cases h'
end Go.Proofs.YtbpndomfipdhdaaDoor.Ev
