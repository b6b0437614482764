import Derived.Test.YtgehbkdpodnajaaDoorEvPr
import Derived.Test.YtgehbkdpodnajaaDoorEvIR
import Derived.Lib.ValidU
namespace Go.Proofs.YtgehbkdpodnajaaDoor.Ev
def phasesV : List Value := [⟨#[114, 117, 110, 110, 105, 110, 103]⟩, ⟨#[117, 110, 100, 111, 105, 110, 103]⟩, ⟨#[112, 97, 114, 107, 101, 100]⟩, ⟨#[99, 111, 109, 112, 108, 101, 116, 101, 100]⟩, ⟨#[99, 111, 109, 112, 101, 110, 115, 97, 116, 101, 100]⟩, ⟨#[97, 98, 97, 110, 100, 111, 110, 101, 100]⟩].map Value.string
def glob36 (b : Bool) (m : Int) : Nat → Option (List AV)
  | 0 => some (phasesV.map AV.v)
  | 1 => some (tabFirst.map AV.v)
  | 2 => some (tabAcc.map AV.v)
  | 3 => some [.v (.int .i64 m)]
  | 4 => if b then some ((Lib.pow10Tab.map fun z => Value.int .u64 z).map AV.v) else none
  | _ => none
def prim36 (b : Bool) : Nat → Option (List AV → Store → Option (AV × Store))
  | 52 => if b then some pItoa else none
  | 29 => some pSplit
  | 56 => some pValid
  | 81 => some pIndexByte
  | _ => none
def E36 (b : Bool) (m : Int) : Prog := ⟨glob36 b m, fns, prim36 b⟩
theorem awake36 (b : Bool) (m : Int) : (callF (E36 b m) 60 f_usufructlaw36_awake [] [] []).map (·.1) = some (.v (.bool true)) := by cases b <;> kernel_rfl
theorem prim36_ok (b : Bool) (m : Int) : PrimOK Go.Proofs.Tryd.prog (E36 b m) := by
  intro f p xs C r st' cargs hp h hO hg hv
  have hp' : prim36 b f = some p := hp
  unfold prim36 at hp'
  split at hp'
  · cases b with
    | false => cases hp'
    | true => cases hp'; exact ok_itoa (G := (E36 true m).glob) rfl xs C r st' cargs h hO hg hv
  · cases hp'; exact ok_split (G := (E36 b m).glob) (m := m) rfl xs C r st' cargs h hO hg hv
  · cases hp'; exact ok_valid (G := (E36 b m).glob) rfl rfl xs C r st' cargs h hO hg hv
  · cases hp'; exact ok_indexByte (G := (E36 b m).glob) xs C r st' cargs h hO hg hv
  · cases hp'
theorem prim36_sc (b : Bool) (m : Int) : PrimSc (E36 b m) := by
  intro f p xs st r st' bases hp h
  have hp' : prim36 b f = some p := hp
  have : st' = st := by
    unfold prim36 at hp'
    split at hp'
    · cases b with
      | false => cases hp'
      | true => cases hp'; exact keep_itoa _ _ _ _ h
    · cases hp'; exact keep_split _ _ _ _ h
    · cases hp'; exact keep_valid _ _ _ _ h
    · cases hp'; exact keep_indexByte _ _ _ _ h
    · cases hp'
  subst this
  exact Grows.refl _
theorem belows_v : ∀ l : List Value, belows 0 (l.map AV.v) = true
  | [] => rfl
  | x :: l => by simp only [List.map_cons, belows, AV.under, belows_v l, Bool.and_self]
theorem gro36 (b : Bool) (m : Int) : GRo (E36 b m).glob := by
  intro g cs h
  have h' : glob36 b m g = some cs := h
  unfold glob36 at h'
  split at h'
  · cases h'; exact belows_v _
  · cases h'; exact belows_v _
  · cases h'; exact belows_v _
  · cases h'; rfl
  · cases b with
    | false => cases h'
    | true => cases h'; exact belows_v _
  · cases h'
end Go.Proofs.YtgehbkdpodnajaaDoor.Ev
