import Derived.Test.YtoobogpbejdocaaGreatDoorEvBase
import Derived.Test.YtoobogpbejdocaaGreatDoorProg
namespace Go.Proofs.YtoobogpbejdocaaGreatDoor.Ev
def rfs : Code → List (Array Nat × Code × Code)
  | .seq a b => rfs a ++ rfs b
  | .cond _ a b => rfs a ++ rfs b
  | .block _ c => rfs c
  | .loop c => rfs c
  | .scope c => rfs c
  | .rangeFunc _ ps a b => [(ps, a, b)]
  | _ => []
def lcOf (f : Func) (j : Nat) (vars : List Nat) : LoopC := match ((f.body.map rfs).getD [])[j]? with
  | some (ps, a, b) => ⟨ps, vars, b, f.ntmps, a⟩
  | none => ⟨#[], [], .skip, 0, .skip⟩
noncomputable def LC : Nat → LoopC
  | 1001300 => lcOf Go.Proofs.Tryz.f13 0 [3, 5]
  | 1001400 => lcOf Go.Proofs.Tryz.f14 0 [3]
  | _ => ⟨#[], [], .skip, 0, .skip⟩
end Go.Proofs.YtoobogpbejdocaaGreatDoor.Ev
