import Derived.Test.YtoobogpbejdocaaGreatDoorEvSa
import Derived.Test.YtoobogpbejdocaaGreatDoorEvHi9
set_option linter.unusedVariables false
set_option linter.unusedSectionVars false
set_option linter.unusedSimpArgs false
namespace Go.Proofs.YtoobogpbejdocaaGreatDoor.Ev
attribute [local congr] bind_congr_head
attribute [local go_sem] AV.cells AV.tuple elems boxQ callN_any compact_same compact_new aggOf
section
variable {E : Prog} (hE : Std E fns) (l : Sl EvT) (i : Nat) (v : EvT) (rest : List EvT) (h0 : l.list.drop i = v :: rest) (hl : l.list.length ≤ 60) (P : List StT) (Q : List CmT) (y y' : StT) (hy : P[i]? = some y) (hy' : P[i + 1]? = some y') (I : List UInt8) (hI : I.length ≤ 19) (hd : callP E f_usufructref13_Decimal [vi v.now] = some (vs (BA I)))
  (s s' : SgT) (bw bb : Bool) (hr : callP E f_usufructref27_saga [stA y, vi v.saga] = some (.tup [sA s, vb bw])) (hr' : callP E f_usufructref27_saga [stA y', vi v.saga] = some (.tup [sA s', vb bb]))
include hE h0 hl hy hy' hI hd hr hr'
end
end Go.Proofs.YtoobogpbejdocaaGreatDoor.Ev
