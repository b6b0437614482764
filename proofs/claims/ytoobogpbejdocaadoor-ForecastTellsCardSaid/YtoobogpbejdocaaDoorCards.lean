/-
  DERIVED. GIVEN WITH THE SEED: THE CARDS: each row of YtoobogpbejdocaaDoorRows.lean that lists a variable, with what it lists TIED to the program's text (the seventh form; the later family's looks); each row that meets fmt, with fmt's text TOLD by the authors' own Lean function (tested against real Go, not proved from fmt's source: count such statements apart). THE CARD IS WHAT COUNTS. Prove the row's statement (the work); the ties are given (YtoobogpbejdocaaDoorTie.lean); close each card by the builder's one call (the guide's Derived/Test/ToyasCard.lean, 'card_holds'). Laid BY PROGRAM, IN A SANDBOX (cutbox-door.mjs). By AI agents, Wed Nov 11 2026. No macro, syntax, notation, axiom, sorry.
-/
import Derived.Test.YtoobogpbejdocaaDoorRows
import GoSem.ClaimSeven
namespace Go.Proofs.YtoobogpbejdocaaDoor
namespace Rows

/-- THE TIED CARD OF 'usufructlaw30.ForecastTells'. -/
def forecastTellsCard : Claim7 := { stood := { row := forecastTellsRow, standIns := [], harness := (true, "9f92ed7d3d7f85c7fed93764830285d0a056a3a478a154e1de36bed7b45fe8d2"), looks := false }, kinds := [], alts := [], laidByText := true, laidKinds := [.data, .pinned], laidTests := true, laidLooks := .later }
def ForecastTellsCardSaid : Prop := Claim7.holds Tryd.pinned (.plain (OpenSpec.ofChange forecastTellsSpec)) forecastTellsCard

/-- THE SECOND FORM's CARD OF 'usufructlaw30.ForecastTells'. -/
def forecastTellsUptoCard : Claim7 := { stood := { row := forecastTellsUptoRow, standIns := [], harness := (true, "9f92ed7d3d7f85c7fed93764830285d0a056a3a478a154e1de36bed7b45fe8d2"), looks := false }, kinds := [], alts := [], laidByText := true, laidKinds := [.data, .pinned], laidTests := true, laidLooks := .later }
def ForecastTellsUptoCardSaid : Prop := Claim7.holds Tryd.pinned (.plain (OpenSpec.upto forecastTellsSpec)) forecastTellsUptoCard
end Rows
end Go.Proofs.YtoobogpbejdocaaDoor
