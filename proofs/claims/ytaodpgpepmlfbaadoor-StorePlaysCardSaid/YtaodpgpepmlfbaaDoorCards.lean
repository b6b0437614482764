/-
  DERIVED. GIVEN WITH THE SEED: THE CARDS: each row of YtaodpgpepmlfbaaDoorRows.lean that lists a variable, with what it lists TIED to the program's text (the seventh form; the later family's looks); each row that meets fmt, with fmt's text TOLD by the authors' own Lean function (tested against real Go, not proved from fmt's source: count such statements apart). THE CARD IS WHAT COUNTS. Prove the row's statement (the work); the ties are given (YtaodpgpepmlfbaaDoorTie.lean); close each card by the builder's one call (the guide's Derived/Test/ToyasCard.lean, 'card_holds'). Laid BY PROGRAM, IN A SANDBOX (cutbox-door.mjs). By AI agents, Wed Nov 11 2026. No macro, syntax, notation, axiom, sorry.
-/
import Derived.Test.YtaodpgpepmlfbaaDoorRows
import GoSem.ClaimSeven
namespace Go.Proofs.YtaodpgpepmlfbaaDoor
namespace Rows

/-- THE TIED CARD OF 'usufructlaw05.StoreSafe'. -/
def storeSafeCard : Claim7 := { stood := { row := storeSafeRow, standIns := [], harness := (true, "f8edb72002cca962f23f0effdfc575eb9cadd85543bc3715927b33308d9802ce"), looks := false }, kinds := [], alts := [], laidByText := true, laidKinds := [.data, .pinned], laidTests := true, laidLooks := .later }
def StoreSafeCardSaid : Prop := Claim7.holds Tryd.pinned (.plain (OpenSpec.ofChange storeSafeSpec)) storeSafeCard

/-- THE TIED CARD OF 'usufructlaw05.StoreAgain'. -/
def storeAgainCard : Claim7 := { stood := { row := storeAgainRow, standIns := [], harness := (true, "f8edb72002cca962f23f0effdfc575eb9cadd85543bc3715927b33308d9802ce"), looks := false }, kinds := [], alts := [], laidByText := true, laidKinds := [.data, .pinned], laidTests := true, laidLooks := .later }
def StoreAgainCardSaid : Prop := Claim7.holds Tryd.pinned (.plain (OpenSpec.ofChange storeAgainSpec)) storeAgainCard

/-- THE TIED CARD OF 'usufructlaw05.StoreBounds'. -/
def storeBoundsCard : Claim7 := { stood := { row := storeBoundsRow, standIns := [], harness := (true, "f8edb72002cca962f23f0effdfc575eb9cadd85543bc3715927b33308d9802ce"), looks := false }, kinds := [], alts := [], laidByText := true, laidKinds := [.data, .pinned], laidTests := true, laidLooks := .later }
def StoreBoundsCardSaid : Prop := Claim7.holds Tryd.pinned (.plain (OpenSpec.ofChange storeBoundsSpec)) storeBoundsCard

/-- THE TIED CARD OF 'usufructlaw05.StorePlays'. -/
def storePlaysCard : Claim7 := { stood := { row := storePlaysRow, standIns := [], harness := (true, "f8edb72002cca962f23f0effdfc575eb9cadd85543bc3715927b33308d9802ce"), looks := false }, kinds := [], alts := [], laidByText := true, laidKinds := [.data, .pinned], laidTests := true, laidLooks := .later }
def StorePlaysCardSaid : Prop := Claim7.holds Tryd.pinned (.plain (OpenSpec.ofChange storePlaysSpec)) storePlaysCard

/-- THE SECOND FORM's CARD OF 'usufructlaw05.StoreSafe'. -/
def storeSafeUptoCard : Claim7 := { stood := { row := storeSafeUptoRow, standIns := [], harness := (true, "f8edb72002cca962f23f0effdfc575eb9cadd85543bc3715927b33308d9802ce"), looks := false }, kinds := [], alts := [], laidByText := true, laidKinds := [.data, .pinned], laidTests := true, laidLooks := .later }
def StoreSafeUptoCardSaid : Prop := Claim7.holds Tryd.pinned (.plain (OpenSpec.upto storeSafeSpec)) storeSafeUptoCard

/-- THE SECOND FORM's CARD OF 'usufructlaw05.StoreAgain'. -/
def storeAgainUptoCard : Claim7 := { stood := { row := storeAgainUptoRow, standIns := [], harness := (true, "f8edb72002cca962f23f0effdfc575eb9cadd85543bc3715927b33308d9802ce"), looks := false }, kinds := [], alts := [], laidByText := true, laidKinds := [.data, .pinned], laidTests := true, laidLooks := .later }
def StoreAgainUptoCardSaid : Prop := Claim7.holds Tryd.pinned (.plain (OpenSpec.upto storeAgainSpec)) storeAgainUptoCard

/-- THE SECOND FORM's CARD OF 'usufructlaw05.StoreBounds'. -/
def storeBoundsUptoCard : Claim7 := { stood := { row := storeBoundsUptoRow, standIns := [], harness := (true, "f8edb72002cca962f23f0effdfc575eb9cadd85543bc3715927b33308d9802ce"), looks := false }, kinds := [], alts := [], laidByText := true, laidKinds := [.data, .pinned], laidTests := true, laidLooks := .later }
def StoreBoundsUptoCardSaid : Prop := Claim7.holds Tryd.pinned (.plain (OpenSpec.upto storeBoundsSpec)) storeBoundsUptoCard

/-- THE SECOND FORM's CARD OF 'usufructlaw05.StorePlays'. -/
def storePlaysUptoCard : Claim7 := { stood := { row := storePlaysUptoRow, standIns := [], harness := (true, "f8edb72002cca962f23f0effdfc575eb9cadd85543bc3715927b33308d9802ce"), looks := false }, kinds := [], alts := [], laidByText := true, laidKinds := [.data, .pinned], laidTests := true, laidLooks := .later }
def StorePlaysUptoCardSaid : Prop := Claim7.holds Tryd.pinned (.plain (OpenSpec.upto storePlaysSpec)) storePlaysUptoCard
end Rows
end Go.Proofs.YtaodpgpepmlfbaaDoor
