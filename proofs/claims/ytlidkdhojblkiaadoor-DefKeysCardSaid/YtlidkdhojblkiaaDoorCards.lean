/-
  DERIVED. GIVEN WITH THE SEED: THE CARDS: each row of YtlidkdhojblkiaaDoorRows.lean that lists a variable, with what it lists TIED to the program's text (the seventh form; the later family's looks); each row that meets fmt, with fmt's text TOLD by the authors' own Lean function (tested against real Go, not proved from fmt's source: count such statements apart). THE CARD IS WHAT COUNTS. Prove the row's statement (the work); the ties are given (YtlidkdhojblkiaaDoorTie.lean); close each card by the builder's one call (the guide's Derived/Test/ToyasCard.lean, 'card_holds'). Laid BY PROGRAM, IN A SANDBOX (cutbox-door.mjs). By AI agents, Wed Nov 11 2026. No macro, syntax, notation, axiom, sorry.
-/
import Derived.Test.YtlidkdhojblkiaaDoorRows
import GoSem.ClaimSeven
namespace Go.Proofs.YtlidkdhojblkiaaDoor
namespace Rows

/-- THE TIED CARD OF 'usufructlaw30.ForecastTells'. -/
def forecastTellsCard : Claim7 := { stood := { row := forecastTellsRow, standIns := [], harness := (true, "f31442ee83c13e5fdd3788b322781653a102cfdad0650df5c4b23ad7091ceb00"), looks := false }, kinds := [], alts := [], laidByText := true, laidKinds := [.data, .pinned], laidTests := true, laidLooks := .later }
def ForecastTellsCardSaid : Prop := Claim7.holds Tryd.pinned (.plain (OpenSpec.ofChange forecastTellsSpec)) forecastTellsCard

/-- THE TIED CARD OF 'usufructlaw31.ArchiveAdds'. -/
def archiveAddsCard : Claim7 := { stood := { row := archiveAddsRow, standIns := [], harness := (true, "f31442ee83c13e5fdd3788b322781653a102cfdad0650df5c4b23ad7091ceb00"), looks := false }, kinds := [], alts := [], laidByText := true, laidKinds := [.data, .pinned], laidTests := true, laidLooks := .later }
def ArchiveAddsCardSaid : Prop := Claim7.holds Tryd.pinned (.plain (OpenSpec.ofChange archiveAddsSpec)) archiveAddsCard

/-- THE TIED CARD OF 'usufructlaw31.ArchiveAsks'. -/
def archiveAsksCard : Claim7 := { stood := { row := archiveAsksRow, standIns := [], harness := (true, "f31442ee83c13e5fdd3788b322781653a102cfdad0650df5c4b23ad7091ceb00"), looks := false }, kinds := [], alts := [], laidByText := true, laidKinds := [.data, .pinned], laidTests := true, laidLooks := .later }
def ArchiveAsksCardSaid : Prop := Claim7.holds Tryd.pinned (.plain (OpenSpec.ofChange archiveAsksSpec)) archiveAsksCard

/-- THE TIED CARD OF 'usufructlaw13.DefKeys'. -/
def defKeysCard : Claim7 := { stood := { row := defKeysRow, standIns := [], harness := (true, "f31442ee83c13e5fdd3788b322781653a102cfdad0650df5c4b23ad7091ceb00"), looks := false }, kinds := [], alts := [], laidByText := true, laidKinds := [.data, .data, .data, .data, .pinned], laidTests := true, laidLooks := .later }
def DefKeysCardSaid : Prop := Claim7.holds Tryd.pinned (.plain (OpenSpec.ofChange defKeysSpec)) defKeysCard

/-- THE TIED CARD OF 'usufructlaw05.StoreSafe'. -/
def storeSafeCard : Claim7 := { stood := { row := storeSafeRow, standIns := [], harness := (true, "f31442ee83c13e5fdd3788b322781653a102cfdad0650df5c4b23ad7091ceb00"), looks := false }, kinds := [], alts := [], laidByText := true, laidKinds := [.data, .pinned], laidTests := true, laidLooks := .later }
def StoreSafeCardSaid : Prop := Claim7.holds Tryd.pinned (.plain (OpenSpec.ofChange storeSafeSpec)) storeSafeCard

/-- THE TIED CARD OF 'usufructlaw13.DefParties'. -/
def defPartiesCard : Claim7 := { stood := { row := defPartiesRow, standIns := [], harness := (true, "f31442ee83c13e5fdd3788b322781653a102cfdad0650df5c4b23ad7091ceb00"), looks := false }, kinds := [], alts := [], laidByText := true, laidKinds := [.data, .data, .data, .data, .pinned], laidTests := true, laidLooks := .later }
def DefPartiesCardSaid : Prop := Claim7.holds Tryd.pinned (.plain (OpenSpec.ofChange defPartiesSpec)) defPartiesCard

/-- THE TIED CARD OF 'usufructlaw13.DefOwns'. -/
def defOwnsCard : Claim7 := { stood := { row := defOwnsRow, standIns := [], harness := (true, "f31442ee83c13e5fdd3788b322781653a102cfdad0650df5c4b23ad7091ceb00"), looks := false }, kinds := [], alts := [], laidByText := true, laidKinds := [.data, .data, .data, .data, .pinned], laidTests := true, laidLooks := .later }
def DefOwnsCardSaid : Prop := Claim7.holds Tryd.pinned (.plain (OpenSpec.ofChange defOwnsSpec)) defOwnsCard

/-- THE TIED CARD OF 'usufructlaw05.StoreAgain'. -/
def storeAgainCard : Claim7 := { stood := { row := storeAgainRow, standIns := [], harness := (true, "f31442ee83c13e5fdd3788b322781653a102cfdad0650df5c4b23ad7091ceb00"), looks := false }, kinds := [], alts := [], laidByText := true, laidKinds := [.data, .pinned], laidTests := true, laidLooks := .later }
def StoreAgainCardSaid : Prop := Claim7.holds Tryd.pinned (.plain (OpenSpec.ofChange storeAgainSpec)) storeAgainCard

/-- THE TIED CARD OF 'usufructlaw05.StoreBounds'. -/
def storeBoundsCard : Claim7 := { stood := { row := storeBoundsRow, standIns := [], harness := (true, "f31442ee83c13e5fdd3788b322781653a102cfdad0650df5c4b23ad7091ceb00"), looks := false }, kinds := [], alts := [], laidByText := true, laidKinds := [.data, .pinned], laidTests := true, laidLooks := .later }
def StoreBoundsCardSaid : Prop := Claim7.holds Tryd.pinned (.plain (OpenSpec.ofChange storeBoundsSpec)) storeBoundsCard

/-- THE TIED CARD OF 'usufructlaw05.StorePlays'. -/
def storePlaysCard : Claim7 := { stood := { row := storePlaysRow, standIns := [], harness := (true, "f31442ee83c13e5fdd3788b322781653a102cfdad0650df5c4b23ad7091ceb00"), looks := false }, kinds := [], alts := [], laidByText := true, laidKinds := [.data, .pinned], laidTests := true, laidLooks := .later }
def StorePlaysCardSaid : Prop := Claim7.holds Tryd.pinned (.plain (OpenSpec.ofChange storePlaysSpec)) storePlaysCard

/-- THE TIED CARD OF 'usufructlaw13.DefChecks'. -/
def defChecksCard : Claim7 := { stood := { row := defChecksRow, standIns := [], harness := (true, "f31442ee83c13e5fdd3788b322781653a102cfdad0650df5c4b23ad7091ceb00"), looks := false }, kinds := [], alts := [], laidByText := true, laidKinds := [.data, .data, .data, .data, .pinned], laidTests := true, laidLooks := .later }
def DefChecksCardSaid : Prop := Claim7.holds Tryd.pinned (.plain (OpenSpec.ofChange defChecksSpec)) defChecksCard

/-- THE SECOND FORM's CARD OF 'usufructlaw30.ForecastTells'. -/
def forecastTellsUptoCard : Claim7 := { stood := { row := forecastTellsUptoRow, standIns := [], harness := (true, "f31442ee83c13e5fdd3788b322781653a102cfdad0650df5c4b23ad7091ceb00"), looks := false }, kinds := [], alts := [], laidByText := true, laidKinds := [.data, .pinned], laidTests := true, laidLooks := .later }
def ForecastTellsUptoCardSaid : Prop := Claim7.holds Tryd.pinned (.plain (OpenSpec.upto forecastTellsSpec)) forecastTellsUptoCard

/-- THE SECOND FORM's CARD OF 'usufructlaw31.ArchiveAdds'. -/
def archiveAddsUptoCard : Claim7 := { stood := { row := archiveAddsUptoRow, standIns := [], harness := (true, "f31442ee83c13e5fdd3788b322781653a102cfdad0650df5c4b23ad7091ceb00"), looks := false }, kinds := [], alts := [], laidByText := true, laidKinds := [.data, .pinned], laidTests := true, laidLooks := .later }
def ArchiveAddsUptoCardSaid : Prop := Claim7.holds Tryd.pinned (.plain (OpenSpec.upto archiveAddsSpec)) archiveAddsUptoCard

/-- THE SECOND FORM's CARD OF 'usufructlaw31.ArchiveAsks'. -/
def archiveAsksUptoCard : Claim7 := { stood := { row := archiveAsksUptoRow, standIns := [], harness := (true, "f31442ee83c13e5fdd3788b322781653a102cfdad0650df5c4b23ad7091ceb00"), looks := false }, kinds := [], alts := [], laidByText := true, laidKinds := [.data, .pinned], laidTests := true, laidLooks := .later }
def ArchiveAsksUptoCardSaid : Prop := Claim7.holds Tryd.pinned (.plain (OpenSpec.upto archiveAsksSpec)) archiveAsksUptoCard

/-- THE SECOND FORM's CARD OF 'usufructlaw13.DefKeys'. -/
def defKeysUptoCard : Claim7 := { stood := { row := defKeysUptoRow, standIns := [], harness := (true, "f31442ee83c13e5fdd3788b322781653a102cfdad0650df5c4b23ad7091ceb00"), looks := false }, kinds := [], alts := [], laidByText := true, laidKinds := [.data, .data, .data, .data, .pinned], laidTests := true, laidLooks := .later }
def DefKeysUptoCardSaid : Prop := Claim7.holds Tryd.pinned (.plain (OpenSpec.upto defKeysSpec)) defKeysUptoCard

/-- THE SECOND FORM's CARD OF 'usufructlaw05.StoreSafe'. -/
def storeSafeUptoCard : Claim7 := { stood := { row := storeSafeUptoRow, standIns := [], harness := (true, "f31442ee83c13e5fdd3788b322781653a102cfdad0650df5c4b23ad7091ceb00"), looks := false }, kinds := [], alts := [], laidByText := true, laidKinds := [.data, .pinned], laidTests := true, laidLooks := .later }
def StoreSafeUptoCardSaid : Prop := Claim7.holds Tryd.pinned (.plain (OpenSpec.upto storeSafeSpec)) storeSafeUptoCard

/-- THE SECOND FORM's CARD OF 'usufructlaw13.DefParties'. -/
def defPartiesUptoCard : Claim7 := { stood := { row := defPartiesUptoRow, standIns := [], harness := (true, "f31442ee83c13e5fdd3788b322781653a102cfdad0650df5c4b23ad7091ceb00"), looks := false }, kinds := [], alts := [], laidByText := true, laidKinds := [.data, .data, .data, .data, .pinned], laidTests := true, laidLooks := .later }
def DefPartiesUptoCardSaid : Prop := Claim7.holds Tryd.pinned (.plain (OpenSpec.upto defPartiesSpec)) defPartiesUptoCard

/-- THE SECOND FORM's CARD OF 'usufructlaw13.DefOwns'. -/
def defOwnsUptoCard : Claim7 := { stood := { row := defOwnsUptoRow, standIns := [], harness := (true, "f31442ee83c13e5fdd3788b322781653a102cfdad0650df5c4b23ad7091ceb00"), looks := false }, kinds := [], alts := [], laidByText := true, laidKinds := [.data, .data, .data, .data, .pinned], laidTests := true, laidLooks := .later }
def DefOwnsUptoCardSaid : Prop := Claim7.holds Tryd.pinned (.plain (OpenSpec.upto defOwnsSpec)) defOwnsUptoCard

/-- THE SECOND FORM's CARD OF 'usufructlaw05.StoreAgain'. -/
def storeAgainUptoCard : Claim7 := { stood := { row := storeAgainUptoRow, standIns := [], harness := (true, "f31442ee83c13e5fdd3788b322781653a102cfdad0650df5c4b23ad7091ceb00"), looks := false }, kinds := [], alts := [], laidByText := true, laidKinds := [.data, .pinned], laidTests := true, laidLooks := .later }
def StoreAgainUptoCardSaid : Prop := Claim7.holds Tryd.pinned (.plain (OpenSpec.upto storeAgainSpec)) storeAgainUptoCard

/-- THE SECOND FORM's CARD OF 'usufructlaw05.StoreBounds'. -/
def storeBoundsUptoCard : Claim7 := { stood := { row := storeBoundsUptoRow, standIns := [], harness := (true, "f31442ee83c13e5fdd3788b322781653a102cfdad0650df5c4b23ad7091ceb00"), looks := false }, kinds := [], alts := [], laidByText := true, laidKinds := [.data, .pinned], laidTests := true, laidLooks := .later }
def StoreBoundsUptoCardSaid : Prop := Claim7.holds Tryd.pinned (.plain (OpenSpec.upto storeBoundsSpec)) storeBoundsUptoCard

/-- THE SECOND FORM's CARD OF 'usufructlaw05.StorePlays'. -/
def storePlaysUptoCard : Claim7 := { stood := { row := storePlaysUptoRow, standIns := [], harness := (true, "f31442ee83c13e5fdd3788b322781653a102cfdad0650df5c4b23ad7091ceb00"), looks := false }, kinds := [], alts := [], laidByText := true, laidKinds := [.data, .pinned], laidTests := true, laidLooks := .later }
def StorePlaysUptoCardSaid : Prop := Claim7.holds Tryd.pinned (.plain (OpenSpec.upto storePlaysSpec)) storePlaysUptoCard

/-- THE SECOND FORM's CARD OF 'usufructlaw13.DefChecks'. -/
def defChecksUptoCard : Claim7 := { stood := { row := defChecksUptoRow, standIns := [], harness := (true, "f31442ee83c13e5fdd3788b322781653a102cfdad0650df5c4b23ad7091ceb00"), looks := false }, kinds := [], alts := [], laidByText := true, laidKinds := [.data, .data, .data, .data, .pinned], laidTests := true, laidLooks := .later }
def DefChecksUptoCardSaid : Prop := Claim7.holds Tryd.pinned (.plain (OpenSpec.upto defChecksSpec)) defChecksUptoCard
end Rows
end Go.Proofs.YtlidkdhojblkiaaDoor
