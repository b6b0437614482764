/-
  DERIVED. GIVEN WITH THE SEED: THE CARDS: each row of YtgehbkdpodnajaaDoorRows.lean that lists a variable, with what it lists TIED to the program's text (the seventh form; the later family's looks); each row that meets fmt, with fmt's text TOLD by the authors' own Lean function (tested against real Go, not proved from fmt's source: count such statements apart). THE CARD IS WHAT COUNTS. Prove the row's statement (the work); the ties are given (YtgehbkdpodnajaaDoorTie.lean); close each card by the builder's one call (the guide's Derived/Test/ToyasCard.lean, 'card_holds'). Laid BY PROGRAM, IN A SANDBOX (cutbox-door.mjs). By AI agents, Wed Nov 11 2026. No macro, syntax, notation, axiom, sorry.
-/
import Derived.Test.YtgehbkdpodnajaaDoorRows
import GoSem.ClaimSeven
namespace Go.Proofs.YtgehbkdpodnajaaDoor
namespace Rows

/-- THE TIED CARD OF 'usufructlaw36.PickHolds'. -/
def pickHoldsCard : Claim7 := { stood := { row := pickHoldsRow, standIns := [], harness := (true, "27ab131ea2f5ffeb9bd90e82e2d4064681050ba560580819af0e8a1fd1825cd4"), looks := false }, kinds := [], alts := [], laidByText := true, laidKinds := [.data, .data, .pinned], laidTests := true, laidLooks := .later }
def PickHoldsCardSaid : Prop := Claim7.holds Tryd.pinned (.plain (OpenSpec.ofChange pickHoldsSpec)) pickHoldsCard

/-- THE TIED CARD OF 'usufructlaw36.PickFewer'. -/
def pickFewerCard : Claim7 := { stood := { row := pickFewerRow, standIns := [], harness := (true, "27ab131ea2f5ffeb9bd90e82e2d4064681050ba560580819af0e8a1fd1825cd4"), looks := false }, kinds := [], alts := [], laidByText := true, laidKinds := [.data, .data, .pinned], laidTests := true, laidLooks := .later }
def PickFewerCardSaid : Prop := Claim7.holds Tryd.pinned (.plain (OpenSpec.ofChange pickFewerSpec)) pickFewerCard

/-- THE TIED CARD OF 'usufructlaw36.PickSagas'. -/
def pickSagasCard : Claim7 := { stood := { row := pickSagasRow, standIns := [], harness := (true, "27ab131ea2f5ffeb9bd90e82e2d4064681050ba560580819af0e8a1fd1825cd4"), looks := false }, kinds := [], alts := [], laidByText := true, laidKinds := [.data, .data, .pinned], laidTests := true, laidLooks := .later }
def PickSagasCardSaid : Prop := Claim7.holds Tryd.pinned (.plain (OpenSpec.ofChange pickSagasSpec)) pickSagasCard

/-- THE TIED CARD OF 'usufructlaw36.PickReads'. -/
def pickReadsCard : Claim7 := { stood := { row := pickReadsRow, standIns := [], harness := (true, "27ab131ea2f5ffeb9bd90e82e2d4064681050ba560580819af0e8a1fd1825cd4"), looks := false }, kinds := [], alts := [], laidByText := true, laidKinds := [.data, .data, .data, .data, .data, .pinned], laidTests := true, laidLooks := .later }
def PickReadsCardSaid : Prop := Claim7.holds Tryd.pinned (.plain (OpenSpec.ofChange pickReadsSpec)) pickReadsCard

/-- THE TIED CARD OF 'usufructlaw36.PickTexts'. -/
def pickTextsCard : Claim7 := { stood := { row := pickTextsRow, standIns := [], harness := (true, "27ab131ea2f5ffeb9bd90e82e2d4064681050ba560580819af0e8a1fd1825cd4"), looks := false }, kinds := [], alts := [], laidByText := true, laidKinds := [.data, .data, .data, .data, .data, .pinned], laidTests := true, laidLooks := .later }
def PickTextsCardSaid : Prop := Claim7.holds Tryd.pinned (.plain (OpenSpec.ofChange pickTextsSpec)) pickTextsCard

/-- THE SECOND FORM's CARD OF 'usufructlaw36.PickHolds'. -/
def pickHoldsUptoCard : Claim7 := { stood := { row := pickHoldsUptoRow, standIns := [], harness := (true, "27ab131ea2f5ffeb9bd90e82e2d4064681050ba560580819af0e8a1fd1825cd4"), looks := false }, kinds := [], alts := [], laidByText := true, laidKinds := [.data, .data, .pinned], laidTests := true, laidLooks := .later }
def PickHoldsUptoCardSaid : Prop := Claim7.holds Tryd.pinned (.plain (OpenSpec.upto pickHoldsSpec)) pickHoldsUptoCard

/-- THE SECOND FORM's CARD OF 'usufructlaw36.PickFewer'. -/
def pickFewerUptoCard : Claim7 := { stood := { row := pickFewerUptoRow, standIns := [], harness := (true, "27ab131ea2f5ffeb9bd90e82e2d4064681050ba560580819af0e8a1fd1825cd4"), looks := false }, kinds := [], alts := [], laidByText := true, laidKinds := [.data, .data, .pinned], laidTests := true, laidLooks := .later }
def PickFewerUptoCardSaid : Prop := Claim7.holds Tryd.pinned (.plain (OpenSpec.upto pickFewerSpec)) pickFewerUptoCard

/-- THE SECOND FORM's CARD OF 'usufructlaw36.PickSagas'. -/
def pickSagasUptoCard : Claim7 := { stood := { row := pickSagasUptoRow, standIns := [], harness := (true, "27ab131ea2f5ffeb9bd90e82e2d4064681050ba560580819af0e8a1fd1825cd4"), looks := false }, kinds := [], alts := [], laidByText := true, laidKinds := [.data, .data, .pinned], laidTests := true, laidLooks := .later }
def PickSagasUptoCardSaid : Prop := Claim7.holds Tryd.pinned (.plain (OpenSpec.upto pickSagasSpec)) pickSagasUptoCard

/-- THE SECOND FORM's CARD OF 'usufructlaw36.PickReads'. -/
def pickReadsUptoCard : Claim7 := { stood := { row := pickReadsUptoRow, standIns := [], harness := (true, "27ab131ea2f5ffeb9bd90e82e2d4064681050ba560580819af0e8a1fd1825cd4"), looks := false }, kinds := [], alts := [], laidByText := true, laidKinds := [.data, .data, .data, .data, .data, .pinned], laidTests := true, laidLooks := .later }
def PickReadsUptoCardSaid : Prop := Claim7.holds Tryd.pinned (.plain (OpenSpec.upto pickReadsSpec)) pickReadsUptoCard

/-- THE SECOND FORM's CARD OF 'usufructlaw36.PickTexts'. -/
def pickTextsUptoCard : Claim7 := { stood := { row := pickTextsUptoRow, standIns := [], harness := (true, "27ab131ea2f5ffeb9bd90e82e2d4064681050ba560580819af0e8a1fd1825cd4"), looks := false }, kinds := [], alts := [], laidByText := true, laidKinds := [.data, .data, .data, .data, .data, .pinned], laidTests := true, laidLooks := .later }
def PickTextsUptoCardSaid : Prop := Claim7.holds Tryd.pinned (.plain (OpenSpec.upto pickTextsSpec)) pickTextsUptoCard
end Rows
end Go.Proofs.YtgehbkdpodnajaaDoor
