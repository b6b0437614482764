/-
  DERIVED. GIVEN WITH THE SEED: THE CARDS: each row of YtklggglkdfnpkaaDoorRows.lean that lists a variable, with what it lists TIED to the program's text (the seventh form; the later family's looks); each row that meets fmt, with fmt's text TOLD by the authors' own Lean function (tested against real Go, not proved from fmt's source: count such statements apart). THE CARD IS WHAT COUNTS. Prove the row's statement (the work); the ties are given (YtklggglkdfnpkaaDoorTie.lean); close each card by the builder's one call (the guide's Derived/Test/ToyasCard.lean, 'card_holds'). Laid BY PROGRAM, IN A SANDBOX (cutbox-door.mjs). By AI agents, Wed Nov 11 2026. No macro, syntax, notation, axiom, sorry.
-/
import Derived.Test.YtklggglkdfnpkaaDoorRows
import GoSem.ClaimSeven
namespace Go.Proofs.YtklggglkdfnpkaaDoor
namespace Rows

/-- THE TIED CARD OF 'usufructlaw31.ArchiveAdds'. -/
def archiveAddsCard : Claim7 := { stood := { row := archiveAddsRow, standIns := [], harness := (true, "d6718a6b7d04c58658eb32b91796693a19a363a0b52f90d927d60970ce7bd0e9"), looks := false }, kinds := [], alts := [], laidByText := true, laidKinds := [.data, .pinned], laidTests := true, laidLooks := .later }
def ArchiveAddsCardSaid : Prop := Claim7.holds Tryd.pinned (.plain (OpenSpec.ofChange archiveAddsSpec)) archiveAddsCard

/-- THE TIED CARD OF 'usufructlaw31.ArchiveAsks'. -/
def archiveAsksCard : Claim7 := { stood := { row := archiveAsksRow, standIns := [], harness := (true, "d6718a6b7d04c58658eb32b91796693a19a363a0b52f90d927d60970ce7bd0e9"), looks := false }, kinds := [], alts := [], laidByText := true, laidKinds := [.data, .pinned], laidTests := true, laidLooks := .later }
def ArchiveAsksCardSaid : Prop := Claim7.holds Tryd.pinned (.plain (OpenSpec.ofChange archiveAsksSpec)) archiveAsksCard

/-- THE SECOND FORM's CARD OF 'usufructlaw31.ArchiveAdds'. -/
def archiveAddsUptoCard : Claim7 := { stood := { row := archiveAddsUptoRow, standIns := [], harness := (true, "d6718a6b7d04c58658eb32b91796693a19a363a0b52f90d927d60970ce7bd0e9"), looks := false }, kinds := [], alts := [], laidByText := true, laidKinds := [.data, .pinned], laidTests := true, laidLooks := .later }
def ArchiveAddsUptoCardSaid : Prop := Claim7.holds Tryd.pinned (.plain (OpenSpec.upto archiveAddsSpec)) archiveAddsUptoCard

/-- THE SECOND FORM's CARD OF 'usufructlaw31.ArchiveAsks'. -/
def archiveAsksUptoCard : Claim7 := { stood := { row := archiveAsksUptoRow, standIns := [], harness := (true, "d6718a6b7d04c58658eb32b91796693a19a363a0b52f90d927d60970ce7bd0e9"), looks := false }, kinds := [], alts := [], laidByText := true, laidKinds := [.data, .pinned], laidTests := true, laidLooks := .later }
def ArchiveAsksUptoCardSaid : Prop := Claim7.holds Tryd.pinned (.plain (OpenSpec.upto archiveAsksSpec)) archiveAsksUptoCard
end Rows
end Go.Proofs.YtklggglkdfnpkaaDoor
