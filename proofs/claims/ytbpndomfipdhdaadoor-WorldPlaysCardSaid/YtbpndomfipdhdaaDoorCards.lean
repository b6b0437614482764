/-
  DERIVED. GIVEN WITH THE SEED: THE CARDS: each row of YtbpndomfipdhdaaDoorRows.lean that lists a variable, with what it lists TIED to the program's text (the seventh form; the later family's looks); each row that meets fmt, with fmt's text TOLD by the authors' own Lean function (tested against real Go, not proved from fmt's source: count such statements apart). THE CARD IS WHAT COUNTS. Prove the row's statement (the work); the ties are given (YtbpndomfipdhdaaDoorTie.lean); close each card by the builder's one call (the guide's Derived/Test/ToyasCard.lean, 'card_holds'). Laid BY PROGRAM, IN A SANDBOX (cutbox-door.mjs). By AI agents, Wed Nov 11 2026. No macro, syntax, notation, axiom, sorry.
-/
import Derived.Test.YtbpndomfipdhdaaDoorRows
import GoSem.ClaimSeven
namespace Go.Proofs.YtbpndomfipdhdaaDoor
namespace Rows

/-- THE TIED CARD OF 'usufructlaw21.WorldOnce'. -/
def worldOnceCard : Claim7 := { stood := { row := worldOnceRow, standIns := [], harness := (true, "1da725ca16f5ab1f4b887d61c9606386726e1379d0f47ae9ba674b3f6c82bb54"), looks := false }, kinds := [], alts := [], laidByText := true, laidKinds := [.data, .data, .data, .data, .pinned], laidTests := true, laidLooks := .later }
def WorldOnceCardSaid : Prop := Claim7.holds Tryd.pinned (.plain (OpenSpec.ofChange worldOnceSpec)) worldOnceCard

/-- THE TIED CARD OF 'usufructlaw21.WorldNets'. -/
def worldNetsCard : Claim7 := { stood := { row := worldNetsRow, standIns := [], harness := (true, "1da725ca16f5ab1f4b887d61c9606386726e1379d0f47ae9ba674b3f6c82bb54"), looks := false }, kinds := [], alts := [], laidByText := true, laidKinds := [.data, .data, .data, .data, .pinned], laidTests := true, laidLooks := .later }
def WorldNetsCardSaid : Prop := Claim7.holds Tryd.pinned (.plain (OpenSpec.ofChange worldNetsSpec)) worldNetsCard

/-- THE TIED CARD OF 'usufructlaw21.WorldPlays'. -/
def worldPlaysCard : Claim7 := { stood := { row := worldPlaysRow, standIns := [], harness := (true, "1da725ca16f5ab1f4b887d61c9606386726e1379d0f47ae9ba674b3f6c82bb54"), looks := false }, kinds := [], alts := [], laidByText := true, laidKinds := [.data, .data, .data, .data, .pinned], laidTests := true, laidLooks := .later }
def WorldPlaysCardSaid : Prop := Claim7.holds Tryd.pinned (.plain (OpenSpec.ofChange worldPlaysSpec)) worldPlaysCard

/-- THE SECOND FORM's CARD OF 'usufructlaw21.WorldOnce'. -/
def worldOnceUptoCard : Claim7 := { stood := { row := worldOnceUptoRow, standIns := [], harness := (true, "1da725ca16f5ab1f4b887d61c9606386726e1379d0f47ae9ba674b3f6c82bb54"), looks := false }, kinds := [], alts := [], laidByText := true, laidKinds := [.data, .data, .data, .data, .pinned], laidTests := true, laidLooks := .later }
def WorldOnceUptoCardSaid : Prop := Claim7.holds Tryd.pinned (.plain (OpenSpec.upto worldOnceSpec)) worldOnceUptoCard

/-- THE SECOND FORM's CARD OF 'usufructlaw21.WorldNets'. -/
def worldNetsUptoCard : Claim7 := { stood := { row := worldNetsUptoRow, standIns := [], harness := (true, "1da725ca16f5ab1f4b887d61c9606386726e1379d0f47ae9ba674b3f6c82bb54"), looks := false }, kinds := [], alts := [], laidByText := true, laidKinds := [.data, .data, .data, .data, .pinned], laidTests := true, laidLooks := .later }
def WorldNetsUptoCardSaid : Prop := Claim7.holds Tryd.pinned (.plain (OpenSpec.upto worldNetsSpec)) worldNetsUptoCard

/-- THE SECOND FORM's CARD OF 'usufructlaw21.WorldPlays'. -/
def worldPlaysUptoCard : Claim7 := { stood := { row := worldPlaysUptoRow, standIns := [], harness := (true, "1da725ca16f5ab1f4b887d61c9606386726e1379d0f47ae9ba674b3f6c82bb54"), looks := false }, kinds := [], alts := [], laidByText := true, laidKinds := [.data, .data, .data, .data, .pinned], laidTests := true, laidLooks := .later }
def WorldPlaysUptoCardSaid : Prop := Claim7.holds Tryd.pinned (.plain (OpenSpec.upto worldPlaysSpec)) worldPlaysUptoCard
end Rows
end Go.Proofs.YtbpndomfipdhdaaDoor
