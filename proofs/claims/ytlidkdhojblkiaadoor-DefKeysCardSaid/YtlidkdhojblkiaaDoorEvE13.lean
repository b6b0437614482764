import Derived.Test.YtlidkdhojblkiaaDoorEvPr
import Derived.Test.YtlidkdhojblkiaaDoorEvIR
import Derived.Lib.ValidU
namespace Go.Proofs.YtlidkdhojblkiaaDoor.Ev
def glob13 (m : Int) : Nat → Option (List AV)
  | 0 => some (tabFirst.map AV.v)
  | 1 => some (tabAcc.map AV.v)
  | 2 => some ((Lib.pow10Tab.map fun z => Value.int .u64 z).map AV.v)
  | 3 => some [.v (.int .i64 m)]
  | _ => none
def prim13 : Nat → Option (List AV → Store → Option (AV × Store))
  | 84 => some pItoa
  | 86 => some pSplit
  | 128 => some pValid
  | _ => none
def E13 (m : Int) : Prog := ⟨glob13 m, fns, prim13⟩
theorem awake13 (m : Int) : (callF (E13 m) 40 f_usufructlaw13_awake [] [] []).map (·.1) = some (.v (.bool true)) := by kernel_rfl
theorem prim13_ok (m : Int) : PrimOK Go.Proofs.Tryd.prog (E13 m) := by
  intro f p xs C r st' cargs hp h hO hg hv
  have hp' : prim13 f = some p := hp
  unfold prim13 at hp'
  split at hp'
  · cases hp'; exact ok_itoa (G := (E13 m).glob) rfl xs C r st' cargs h hO hg hv
  · cases hp'; exact ok_split (G := (E13 m).glob) (m := m) rfl xs C r st' cargs h hO hg hv
  · cases hp'; exact ok_valid (G := (E13 m).glob) rfl rfl xs C r st' cargs h hO hg hv
  · cases hp'
theorem prim13_sc (m : Int) : PrimSc (E13 m) := by
  intro f p xs st r st' bases hp h
  have hp' : prim13 f = some p := hp
  have : st' = st := by
    unfold prim13 at hp'
    split at hp'
    · cases hp'; exact keep_itoa _ _ _ _ h
    · cases hp'; exact keep_split _ _ _ _ h
    · cases hp'; exact keep_valid _ _ _ _ h
    · cases hp'
  subst this
  exact Grows.refl _
theorem belows_v : ∀ l : List Value, belows 0 (l.map AV.v) = true
  | [] => rfl
  | x :: l => by simp only [List.map_cons, belows, AV.under, belows_v l, Bool.and_self]
theorem gro13 (m : Int) : GRo (E13 m).glob := by
  intro g cs h
  have h' : glob13 m g = some cs := h
  unfold glob13 at h'
  split at h'
  · cases h'; exact belows_v _
  · cases h'; exact belows_v _
  · cases h'; exact belows_v _
  · cases h'; rfl
  · cases h'
end Go.Proofs.YtlidkdhojblkiaaDoor.Ev
