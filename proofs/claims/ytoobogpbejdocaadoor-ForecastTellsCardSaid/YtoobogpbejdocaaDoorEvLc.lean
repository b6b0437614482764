import Derived.Test.YtoobogpbejdocaaDoorEvBase
import Derived.Test.YtoobogpbejdocaaDoorProg
namespace Go.Proofs.YtoobogpbejdocaaDoor.Ev
def rfs : Code → List (Array Nat × Code × Code)
  | .seq a b => rfs a ++ rfs b
  | .cond _ a b => rfs a ++ rfs b
  | .block _ c => rfs c
  | .loop c => rfs c
  | .scope c => rfs c
  | .rangeFunc _ ps a b => [(ps, a, b)]
  | _ => []
def lcOf (f : Func) (j : Nat) (vars : List Nat) : LoopC := match ((f.body.map rfs).getD [])[j]? with
  | some (ps, a, b) => ⟨ps, vars, b, f.ntmps, a⟩
  | none => ⟨#[], [], .skip, 0, .skip⟩
noncomputable def LC : Nat → LoopC
  | 1001200 => lcOf Go.Proofs.Tryd.f12 0 [7]
  | 1002400 => lcOf Go.Proofs.Tryd.f24 0 [4, 5, 6, 7, 9]
  | _ => ⟨#[], [], .skip, 0, .skip⟩
end Go.Proofs.YtoobogpbejdocaaDoor.Ev
