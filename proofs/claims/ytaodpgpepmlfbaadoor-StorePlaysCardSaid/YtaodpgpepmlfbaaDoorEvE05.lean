/-
  Chapter 05: the evaluator's program; what the document tells.
-/
import Derived.Test.YtaodpgpepmlfbaaDoorEvPr
import Derived.Test.YtaodpgpepmlfbaaDoorEvIR
import Derived.Test.YtaodpgpepmlfbaaDoorEvCk
import Derived.Test.YtaodpgpepmlfbaaDoorEvSl
set_option linter.unusedVariables false
set_option linter.unusedSimpArgs false
set_option maxRecDepth 100000
namespace Go.Proofs.YtaodpgpepmlfbaaDoor.Ev
open Go.RowKit Go.Proofs
def glob05 : Nat → Option (List AV)
  | 0 => some (tabFirst.map AV.v)
  | 1 => some (tabAcc.map AV.v)
  | _ => none
def prim05 : Nat → Option (List AV → Store → Option (AV × Store))
  | 24 => some pFree
  | 27 => some pNames
  | 39 => some pValid
  | _ => none
def E05 : Prog := ⟨glob05, fns, prim05⟩
theorem awake05 : (callF E05 60 f_usufructlaw05_awake [] [] []).map (·.1) = some (.v (.bool true)) := by kernel_rfl
end Go.Proofs.YtaodpgpepmlfbaaDoor.Ev
