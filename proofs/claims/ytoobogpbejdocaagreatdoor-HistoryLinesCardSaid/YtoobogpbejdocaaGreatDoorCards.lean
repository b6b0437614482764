/-
  DERIVED. GIVEN WITH THE SEED: THE CARDS: each row of YtoobogpbejdocaaGreatDoorRows.lean that lists a variable, with what it lists TIED to the program's text (the seventh form; the later family's looks); each row that meets fmt, with fmt's text TOLD by the authors' own Lean function (tested against real Go, not proved from fmt's source: count such statements apart). THE CARD IS WHAT COUNTS. Prove the row's statement (the work); the ties are given (YtoobogpbejdocaaGreatDoorTie.lean); close each card by the builder's one call (the guide's Derived/Test/ToyasCard.lean, 'card_holds'). Laid BY PROGRAM, IN A SANDBOX (cutbox-door.mjs). By AI agents, Wed Nov 11 2026. No macro, syntax, notation, axiom, sorry.
-/
import Derived.Test.YtoobogpbejdocaaGreatDoorRows
import GoSem.ClaimSeven
namespace Go.Proofs.YtoobogpbejdocaaGreatDoor
namespace Rows

/-- THE TIED CARD OF 'usufructlaw27.HistoryLines'. -/
def historyLinesCard : Claim7 := { stood := { row := historyLinesRow, standIns := [], harness := (true, "620b247e07f3cc64ee77ba0fb4f381b8ab8c46976999623019318d3cc01f49ab"), looks := false }, kinds := [], alts := [], laidByText := true, laidKinds := [.data, .data, .data, .data, .data, .pinned], laidTests := true, laidLooks := .later }
def HistoryLinesCardSaid : Prop := Claim7.holds Tryz.pinned (.plain (OpenSpec.ofChange historyLinesSpec)) historyLinesCard

/-- THE TIED CARD OF 'usufructlaw27.HistoryFewer'. -/
def historyFewerCard : Claim7 := { stood := { row := historyFewerRow, standIns := [], harness := (true, "620b247e07f3cc64ee77ba0fb4f381b8ab8c46976999623019318d3cc01f49ab"), looks := false }, kinds := [], alts := [], laidByText := true, laidKinds := [.data, .data, .data, .data, .data, .pinned], laidTests := true, laidLooks := .later }
def HistoryFewerCardSaid : Prop := Claim7.holds Tryz.pinned (.plain (OpenSpec.ofChange historyFewerSpec)) historyFewerCard

/-- THE TIED CARD OF 'usufructlaw08.WalRaw'. -/
def walRawCard : Claim7 := { stood := { row := walRawRow, standIns := [], harness := (true, "620b247e07f3cc64ee77ba0fb4f381b8ab8c46976999623019318d3cc01f49ab"), looks := false }, kinds := [], alts := [], laidByText := true, laidKinds := [.data, .data, .data, .data, .pinned], laidTests := true, laidLooks := .later }
def WalRawCardSaid : Prop := Claim7.holds Tryz.pinned (.plain (OpenSpec.ofChange walRawSpec)) walRawCard

/-- THE TIED CARD OF 'usufructlaw08.WalNames'. -/
def walNamesCard : Claim7 := { stood := { row := walNamesRow, standIns := [], harness := (true, "620b247e07f3cc64ee77ba0fb4f381b8ab8c46976999623019318d3cc01f49ab"), looks := false }, kinds := [], alts := [], laidByText := true, laidKinds := [.data, .data, .data, .data, .pinned], laidTests := true, laidLooks := .later }
def WalNamesCardSaid : Prop := Claim7.holds Tryz.pinned (.plain (OpenSpec.ofChange walNamesSpec)) walNamesCard

/-- THE TIED CARD OF 'usufructlaw08.WalGrows'. -/
def walGrowsCard : Claim7 := { stood := { row := walGrowsRow, standIns := [], harness := (true, "620b247e07f3cc64ee77ba0fb4f381b8ab8c46976999623019318d3cc01f49ab"), looks := false }, kinds := [], alts := [], laidByText := true, laidKinds := [.data, .data, .data, .data, .pinned], laidTests := true, laidLooks := .later }
def WalGrowsCardSaid : Prop := Claim7.holds Tryz.pinned (.plain (OpenSpec.ofChange walGrowsSpec)) walGrowsCard

/-- THE TIED CARD OF 'usufructlaw08.WalOpensAt'. -/
def walOpensAtCard : Claim7 := { stood := { row := walOpensAtRow, standIns := [], harness := (true, "620b247e07f3cc64ee77ba0fb4f381b8ab8c46976999623019318d3cc01f49ab"), looks := false }, kinds := [], alts := [], laidByText := true, laidKinds := [.data, .data, .data, .data, .pinned], laidTests := true, laidLooks := .later }
def WalOpensAtCardSaid : Prop := Claim7.holds Tryz.pinned (.plain (OpenSpec.ofChange walOpensAtSpec)) walOpensAtCard

/-- THE TIED CARD OF 'usufructlaw08.WalPrunes'. -/
def walPrunesCard : Claim7 := { stood := { row := walPrunesRow, standIns := [], harness := (true, "620b247e07f3cc64ee77ba0fb4f381b8ab8c46976999623019318d3cc01f49ab"), looks := false }, kinds := [], alts := [], laidByText := true, laidKinds := [.data, .data, .data, .data, .pinned], laidTests := true, laidLooks := .later }
def WalPrunesCardSaid : Prop := Claim7.holds Tryz.pinned (.plain (OpenSpec.ofChange walPrunesSpec)) walPrunesCard

/-- THE SECOND FORM's CARD OF 'usufructlaw27.HistoryLines'. -/
def historyLinesUptoCard : Claim7 := { stood := { row := historyLinesUptoRow, standIns := [], harness := (true, "620b247e07f3cc64ee77ba0fb4f381b8ab8c46976999623019318d3cc01f49ab"), looks := false }, kinds := [], alts := [], laidByText := true, laidKinds := [.data, .data, .data, .data, .data, .pinned], laidTests := true, laidLooks := .later }
def HistoryLinesUptoCardSaid : Prop := Claim7.holds Tryz.pinned (.plain (OpenSpec.upto historyLinesSpec)) historyLinesUptoCard

/-- THE SECOND FORM's CARD OF 'usufructlaw27.HistoryFewer'. -/
def historyFewerUptoCard : Claim7 := { stood := { row := historyFewerUptoRow, standIns := [], harness := (true, "620b247e07f3cc64ee77ba0fb4f381b8ab8c46976999623019318d3cc01f49ab"), looks := false }, kinds := [], alts := [], laidByText := true, laidKinds := [.data, .data, .data, .data, .data, .pinned], laidTests := true, laidLooks := .later }
def HistoryFewerUptoCardSaid : Prop := Claim7.holds Tryz.pinned (.plain (OpenSpec.upto historyFewerSpec)) historyFewerUptoCard

/-- THE SECOND FORM's CARD OF 'usufructlaw08.WalRaw'. -/
def walRawUptoCard : Claim7 := { stood := { row := walRawUptoRow, standIns := [], harness := (true, "620b247e07f3cc64ee77ba0fb4f381b8ab8c46976999623019318d3cc01f49ab"), looks := false }, kinds := [], alts := [], laidByText := true, laidKinds := [.data, .data, .data, .data, .pinned], laidTests := true, laidLooks := .later }
def WalRawUptoCardSaid : Prop := Claim7.holds Tryz.pinned (.plain (OpenSpec.upto walRawSpec)) walRawUptoCard

/-- THE SECOND FORM's CARD OF 'usufructlaw08.WalNames'. -/
def walNamesUptoCard : Claim7 := { stood := { row := walNamesUptoRow, standIns := [], harness := (true, "620b247e07f3cc64ee77ba0fb4f381b8ab8c46976999623019318d3cc01f49ab"), looks := false }, kinds := [], alts := [], laidByText := true, laidKinds := [.data, .data, .data, .data, .pinned], laidTests := true, laidLooks := .later }
def WalNamesUptoCardSaid : Prop := Claim7.holds Tryz.pinned (.plain (OpenSpec.upto walNamesSpec)) walNamesUptoCard

/-- THE SECOND FORM's CARD OF 'usufructlaw08.WalGrows'. -/
def walGrowsUptoCard : Claim7 := { stood := { row := walGrowsUptoRow, standIns := [], harness := (true, "620b247e07f3cc64ee77ba0fb4f381b8ab8c46976999623019318d3cc01f49ab"), looks := false }, kinds := [], alts := [], laidByText := true, laidKinds := [.data, .data, .data, .data, .pinned], laidTests := true, laidLooks := .later }
def WalGrowsUptoCardSaid : Prop := Claim7.holds Tryz.pinned (.plain (OpenSpec.upto walGrowsSpec)) walGrowsUptoCard

/-- THE SECOND FORM's CARD OF 'usufructlaw08.WalOpensAt'. -/
def walOpensAtUptoCard : Claim7 := { stood := { row := walOpensAtUptoRow, standIns := [], harness := (true, "620b247e07f3cc64ee77ba0fb4f381b8ab8c46976999623019318d3cc01f49ab"), looks := false }, kinds := [], alts := [], laidByText := true, laidKinds := [.data, .data, .data, .data, .pinned], laidTests := true, laidLooks := .later }
def WalOpensAtUptoCardSaid : Prop := Claim7.holds Tryz.pinned (.plain (OpenSpec.upto walOpensAtSpec)) walOpensAtUptoCard

/-- THE SECOND FORM's CARD OF 'usufructlaw08.WalPrunes'. -/
def walPrunesUptoCard : Claim7 := { stood := { row := walPrunesUptoRow, standIns := [], harness := (true, "620b247e07f3cc64ee77ba0fb4f381b8ab8c46976999623019318d3cc01f49ab"), looks := false }, kinds := [], alts := [], laidByText := true, laidKinds := [.data, .data, .data, .data, .pinned], laidTests := true, laidLooks := .later }
def WalPrunesUptoCardSaid : Prop := Claim7.holds Tryz.pinned (.plain (OpenSpec.upto walPrunesSpec)) walPrunesUptoCard
end Rows
end Go.Proofs.YtoobogpbejdocaaGreatDoor
