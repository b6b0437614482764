import Derived.Test.YtjidmpcgkcaeaaaGreatDoorEvSa
import Derived.Test.YtjidmpcgkcaeaaaGreatDoorEvFd4
set_option linter.unusedVariables false
set_option linter.unusedSimpArgs false
namespace Go.Proofs.YtjidmpcgkcaeaaaGreatDoor.Ev
attribute [local congr] bind_congr_head
attribute [local go_sem] AV.cells AV.tuple elems boxQ callN_any compact_same compact_new aggOf
def StT.cells (x : StT) : List AV := [x.defs.av 3 DefT.cells, x.sagas.av 9 SgT.cells, vi x.next]
def CmT.cells (c : CmT) : List AV := [vi c.saga, vi c.step, vb c.undo, vi c.try_, vs c.party, vs c.key]
abbrev z3 : Ob := .box [.v (.slice none 0 0), .v (.slice none 0 0), .v (.int .i64 0)]
end Go.Proofs.YtjidmpcgkcaeaaaGreatDoor.Ev
