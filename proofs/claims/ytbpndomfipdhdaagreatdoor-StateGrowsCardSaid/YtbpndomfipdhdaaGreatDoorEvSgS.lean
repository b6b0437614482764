import Derived.Test.YtbpndomfipdhdaaGreatDoorEvSa
import Derived.Test.YtbpndomfipdhdaaGreatDoorEvSg9
import Derived.Test.YtbpndomfipdhdaaGreatDoorEvDfS
set_option linter.unusedVariables false
set_option linter.unusedSimpArgs false
namespace Go.Proofs.YtbpndomfipdhdaaGreatDoor.Ev
attribute [local congr] bind_congr_head
attribute [local go_sem] AV.cells AV.tuple elems boxQ callN_any compact_same compact_new aggOf
end Go.Proofs.YtbpndomfipdhdaaGreatDoor.Ev
