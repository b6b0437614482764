/-
  DERIVED. GIVEN WITH THE SEED: THE CARDS: each row of YtjidmpcgkcaeaaaGreatDoorRows.lean that lists a variable, with what it lists TIED to the program's text (the seventh form; the later family's looks); each row that meets fmt, with fmt's text TOLD by the authors' own Lean function (tested against real Go, not proved from fmt's source: count such statements apart). THE CARD IS WHAT COUNTS. Prove the row's statement (the work); the ties are given (YtjidmpcgkcaeaaaGreatDoorTie.lean); close each card by the builder's one call (the guide's Derived/Test/ToyasCard.lean, 'card_holds'). Laid BY PROGRAM, IN A SANDBOX (cutbox-door.mjs). By AI agents, Wed Nov 11 2026. No macro, syntax, notation, axiom, sorry.
-/
import Derived.Test.YtjidmpcgkcaeaaaGreatDoorRows
import GoSem.ClaimSeven
namespace Go.Proofs.YtjidmpcgkcaeaaaGreatDoor
namespace Rows

/-- THE TIED CARD OF 'usufructlaw33.FeedPages'. -/
def feedPagesCard : Claim7 := { stood := { row := feedPagesRow, standIns := [], harness := (true, "f2b9d8e33904c8488c33f78f1acf59ba29d2c9af2772eb3db103e83fbc12e9be"), looks := false }, kinds := [], alts := [], laidByText := true, laidKinds := [.data, .data, .data, .data, .pinned], laidTests := true, laidLooks := .later }
def FeedPagesCardSaid : Prop := Claim7.holds Tryz.pinned (.plain (OpenSpec.ofChange feedPagesSpec)) feedPagesCard

/-- THE TIED CARD OF 'usufructlaw33.FeedTells'. -/
def feedTellsCard : Claim7 := { stood := { row := feedTellsRow, standIns := [], harness := (true, "f2b9d8e33904c8488c33f78f1acf59ba29d2c9af2772eb3db103e83fbc12e9be"), looks := false }, kinds := [], alts := [], laidByText := true, laidKinds := [.data, .data, .data, .data, .pinned], laidTests := true, laidLooks := .later }
def FeedTellsCardSaid : Prop := Claim7.holds Tryz.pinned (.plain (OpenSpec.ofChange feedTellsSpec)) feedTellsCard

/-- THE TIED CARD OF 'usufructlaw33.FeedLeads'. -/
def feedLeadsCard : Claim7 := { stood := { row := feedLeadsRow, standIns := [], harness := (true, "f2b9d8e33904c8488c33f78f1acf59ba29d2c9af2772eb3db103e83fbc12e9be"), looks := false }, kinds := [], alts := [], laidByText := true, laidKinds := [.data, .data, .data, .data, .pinned], laidTests := true, laidLooks := .later }
def FeedLeadsCardSaid : Prop := Claim7.holds Tryz.pinned (.plain (OpenSpec.ofChange feedLeadsSpec)) feedLeadsCard

/-- THE SECOND FORM's CARD OF 'usufructlaw33.FeedPages'. -/
def feedPagesUptoCard : Claim7 := { stood := { row := feedPagesUptoRow, standIns := [], harness := (true, "f2b9d8e33904c8488c33f78f1acf59ba29d2c9af2772eb3db103e83fbc12e9be"), looks := false }, kinds := [], alts := [], laidByText := true, laidKinds := [.data, .data, .data, .data, .pinned], laidTests := true, laidLooks := .later }
def FeedPagesUptoCardSaid : Prop := Claim7.holds Tryz.pinned (.plain (OpenSpec.upto feedPagesSpec)) feedPagesUptoCard

/-- THE SECOND FORM's CARD OF 'usufructlaw33.FeedTells'. -/
def feedTellsUptoCard : Claim7 := { stood := { row := feedTellsUptoRow, standIns := [], harness := (true, "f2b9d8e33904c8488c33f78f1acf59ba29d2c9af2772eb3db103e83fbc12e9be"), looks := false }, kinds := [], alts := [], laidByText := true, laidKinds := [.data, .data, .data, .data, .pinned], laidTests := true, laidLooks := .later }
def FeedTellsUptoCardSaid : Prop := Claim7.holds Tryz.pinned (.plain (OpenSpec.upto feedTellsSpec)) feedTellsUptoCard

/-- THE SECOND FORM's CARD OF 'usufructlaw33.FeedLeads'. -/
def feedLeadsUptoCard : Claim7 := { stood := { row := feedLeadsUptoRow, standIns := [], harness := (true, "f2b9d8e33904c8488c33f78f1acf59ba29d2c9af2772eb3db103e83fbc12e9be"), looks := false }, kinds := [], alts := [], laidByText := true, laidKinds := [.data, .data, .data, .data, .pinned], laidTests := true, laidLooks := .later }
def FeedLeadsUptoCardSaid : Prop := Claim7.holds Tryz.pinned (.plain (OpenSpec.upto feedLeadsSpec)) feedLeadsUptoCard
end Rows
end Go.Proofs.YtjidmpcgkcaeaaaGreatDoor
