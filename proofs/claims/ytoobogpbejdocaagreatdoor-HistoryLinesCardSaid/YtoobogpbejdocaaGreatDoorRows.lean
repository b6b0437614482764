/-
  NARROWER THAN 'FOR EVERY INPUT', by the rows' own cells (each row's printed sentence says how): HistoryLines: laid · HistoryFewer: laid · WalRaw: laid · WalNames: laid · WalGrows: laid · WalOpensAt: laid · WalPrunes: laid.
  DERIVED. THE GIVEN ROWS OF THIS SEAT. 7 by the template 'for every input the law returns true; each argument reads behind the call as it read before'; 0 by the template 'total and deterministic' (their statements: YtoobogpbejdocaaGreatDoorTotals.lean).
  GIVEN WITH THE SEED: the statements are not yours to turn. If you find one false, say at which input.
  Laid BY PROGRAM, IN A SANDBOX (cutbox-rows.mjs): the forced cells as the released guide's own fill.sh prints them over the translation 51f9eb4e1cf95a1c… (all of the seat's roots in one cut). By AI agents, Wed Nov 11 2026. No macro, syntax, notation, axiom, sorry.
-/
import Derived.Test.YtoobogpbejdocaaGreatDoorChecked
import GoSem.PinnedTables
import GoSem.Claim
import GoSem.ClaimJoined
import GoSem.ClaimMapViews
import Derived.JoinedTies
import Derived.KernelRfl
namespace Go.Proofs.YtoobogpbejdocaaGreatDoor
/- THE CELL 'sum', in the pinned program and in every row, IS THE sha256 OF THE DUMP (.gsa) THAT YtoobogpbejdocaaGreatDoorProg.lean LOADS. Nothing in Lean hashes anything: it is a label: what it is worth is what the hold of that sum in a sandbox is worth. -/
noncomputable def Tryz.pinned : Pinned := { name := "ytoobogpbejdocaagreatdoor", sum := "51f9eb4e1cf95a1ca132fb7b9dc7a27d7fa9c874460e6d16e9ab618e5f13062f", checked := Tryz.checked }
namespace Rows
def none {H : Type} : Left H := { results := [], args := [] }

/- WHAT THE LISTED PACKAGE-LEVEL VARIABLES READ AS WHEN THE CALL BEGINS. Each datum BY PROGRAM (the guide's laid-datum.mjs) off the statement by which the dump's own 'gosem.cut.vars' lays the variable. In a bare row this is a premise. The card (YtoobogpbejdocaaGreatDoorCards.lean) ties it to the program's text. -/
def laid_math_bits_deBruijn32tab {H : Type} : DataW H := .agg [.lit (.int .u8 0), .lit (.int .u8 1), .lit (.int .u8 28), .lit (.int .u8 2), .lit (.int .u8 29), .lit (.int .u8 14), .lit (.int .u8 24), .lit (.int .u8 3), .lit (.int .u8 30), .lit (.int .u8 22), .lit (.int .u8 20), .lit (.int .u8 15), .lit (.int .u8 25), .lit (.int .u8 17), .lit (.int .u8 4), .lit (.int .u8 8), .lit (.int .u8 31), .lit (.int .u8 27), .lit (.int .u8 13), .lit (.int .u8 23), .lit (.int .u8 21), .lit (.int .u8 19), .lit (.int .u8 16), .lit (.int .u8 7), .lit (.int .u8 26), .lit (.int .u8 12), .lit (.int .u8 18), .lit (.int .u8 6), .lit (.int .u8 11), .lit (.int .u8 5), .lit (.int .u8 10), .lit (.int .u8 9)]
def laid_math_bits_deBruijn64tab {H : Type} : DataW H := .agg [.lit (.int .u8 0), .lit (.int .u8 1), .lit (.int .u8 56), .lit (.int .u8 2), .lit (.int .u8 57), .lit (.int .u8 49), .lit (.int .u8 28), .lit (.int .u8 3), .lit (.int .u8 61), .lit (.int .u8 58), .lit (.int .u8 42), .lit (.int .u8 50), .lit (.int .u8 38), .lit (.int .u8 29), .lit (.int .u8 17), .lit (.int .u8 4), .lit (.int .u8 62), .lit (.int .u8 47), .lit (.int .u8 59), .lit (.int .u8 36), .lit (.int .u8 45), .lit (.int .u8 43), .lit (.int .u8 51), .lit (.int .u8 22), .lit (.int .u8 53), .lit (.int .u8 39), .lit (.int .u8 33), .lit (.int .u8 30), .lit (.int .u8 24), .lit (.int .u8 18), .lit (.int .u8 12), .lit (.int .u8 5), .lit (.int .u8 63), .lit (.int .u8 55), .lit (.int .u8 48), .lit (.int .u8 27), .lit (.int .u8 60), .lit (.int .u8 41), .lit (.int .u8 37), .lit (.int .u8 16), .lit (.int .u8 46), .lit (.int .u8 35), .lit (.int .u8 44), .lit (.int .u8 21), .lit (.int .u8 52), .lit (.int .u8 32), .lit (.int .u8 23), .lit (.int .u8 11), .lit (.int .u8 54), .lit (.int .u8 26), .lit (.int .u8 40), .lit (.int .u8 15), .lit (.int .u8 34), .lit (.int .u8 20), .lit (.int .u8 31), .lit (.int .u8 10), .lit (.int .u8 25), .lit (.int .u8 14), .lit (.int .u8 19), .lit (.int .u8 9), .lit (.int .u8 13), .lit (.int .u8 8), .lit (.int .u8 7), .lit (.int .u8 6)]
def laid_internal_strconv_uint64pow10 {H : Type} : DataW H := .agg [.lit (.int .u64 1), .lit (.int .u64 10), .lit (.int .u64 100), .lit (.int .u64 1000), .lit (.int .u64 10000), .lit (.int .u64 100000), .lit (.int .u64 1000000), .lit (.int .u64 10000000), .lit (.int .u64 100000000), .lit (.int .u64 1000000000), .lit (.int .u64 10000000000), .lit (.int .u64 100000000000), .lit (.int .u64 1000000000000), .lit (.int .u64 10000000000000), .lit (.int .u64 100000000000000), .lit (.int .u64 1000000000000000), .lit (.int .u64 10000000000000000), .lit (.int .u64 100000000000000000), .lit (.int .u64 1000000000000000000), .lit (.int .u64 10000000000000000000)]
def laid_unicode_utf8_acceptRanges {H : Type} : DataW H := .agg [.agg [.lit (.int .u8 128), .lit (.int .u8 191)], .agg [.lit (.int .u8 160), .lit (.int .u8 191)], .agg [.lit (.int .u8 128), .lit (.int .u8 159)], .agg [.lit (.int .u8 144), .lit (.int .u8 191)], .agg [.lit (.int .u8 128), .lit (.int .u8 143)], .agg [.lit (.int .u8 0), .lit (.int .u8 0)], .agg [.lit (.int .u8 0), .lit (.int .u8 0)], .agg [.lit (.int .u8 0), .lit (.int .u8 0)], .agg [.lit (.int .u8 0), .lit (.int .u8 0)], .agg [.lit (.int .u8 0), .lit (.int .u8 0)], .agg [.lit (.int .u8 0), .lit (.int .u8 0)], .agg [.lit (.int .u8 0), .lit (.int .u8 0)], .agg [.lit (.int .u8 0), .lit (.int .u8 0)], .agg [.lit (.int .u8 0), .lit (.int .u8 0)], .agg [.lit (.int .u8 0), .lit (.int .u8 0)], .agg [.lit (.int .u8 0), .lit (.int .u8 0)]]
def laid_usufruct_script_phases {H : Type} : DataW H := .agg [.lit (.string [114, 117, 110, 110, 105, 110, 103]), .lit (.string [117, 110, 100, 111, 105, 110, 103]), .lit (.string [112, 97, 114, 107, 101, 100]), .lit (.string [99, 111, 109, 112, 108, 101, 116, 101, 100]), .lit (.string [99, 111, 109, 112, 101, 110, 115, 97, 116, 101, 100]), .lit (.string [97, 98, 97, 110, 100, 111, 110, 101, 100])]
/-- One of Go's own tables, pinned by name: the form's constant. -/
def laid_unicode_utf8_first : DataW Unit := Go.Pinned.utf8First

/-- 'usufructlaw27.HistoryLines': WHATEVER THE INPUT: true; the input reads as it did. -/
def historyLinesSpec : ChangeSpec := { name := "historyLines", fn := fun _ => fun
  | [d1, d2] => { results := [.lit (.bool true)], args := [d1, d2] }
  | _ => none }
def historyLinesRow : OpenClaim := { program := "ytoobogpbejdocaagreatdoor", sum := "51f9eb4e1cf95a1ca132fb7b9dc7a27d7fa9c874460e6d16e9ab618e5f13062f", func := "usufruct/usufructlaw27.HistoryLines", spec := "historyLines", inPlace := ["slices.overlaps[usufruct/api.Def]"], unfollowed := true, recurses := true, named := ["unicode/utf8.first", "unicode/utf8.acceptRanges", "internal/strconv.uint64pow10", "math/bits.deBruijn32tab", "math/bits.deBruijn64tab", "usufruct/script.phases"], apart := false, laid := [("math/bits.deBruijn32tab", laid_math_bits_deBruijn32tab), ("math/bits.deBruijn64tab", laid_math_bits_deBruijn64tab), ("internal/strconv.uint64pow10", laid_internal_strconv_uint64pow10), ("unicode/utf8.acceptRanges", laid_unicode_utf8_acceptRanges), ("usufruct/script.phases", laid_usufruct_script_phases), ("unicode/utf8.first", laid_unicode_utf8_first)] }
def HistoryLinesSaid : Prop := historyLinesRow.holds Tryz.pinned (OpenSpec.ofChange historyLinesSpec)

/-- ITS FALSE NEIGHBOUR: 'it returns false'. Refute it at one input. -/
def historyLinesWrong : ChangeSpec := { name := "historyLines", fn := fun _ => fun
  | [d1, d2] => { results := [.lit (.bool false)], args := [d1, d2] }
  | _ => none }
def HistoryLinesWrongFalsely : Prop := historyLinesRow.holds Tryz.pinned (OpenSpec.ofChange historyLinesWrong)

/-- 'usufructlaw27.HistoryFewer': WHATEVER THE INPUT: true; the input reads as it did. -/
def historyFewerSpec : ChangeSpec := { name := "historyFewer", fn := fun _ => fun
  | [d1, d2] => { results := [.lit (.bool true)], args := [d1, d2] }
  | _ => none }
def historyFewerRow : OpenClaim := { program := "ytoobogpbejdocaagreatdoor", sum := "51f9eb4e1cf95a1ca132fb7b9dc7a27d7fa9c874460e6d16e9ab618e5f13062f", func := "usufruct/usufructlaw27.HistoryFewer", spec := "historyFewer", inPlace := ["slices.overlaps[usufruct/api.Def]"], unfollowed := true, recurses := true, named := ["unicode/utf8.first", "unicode/utf8.acceptRanges", "internal/strconv.uint64pow10", "math/bits.deBruijn32tab", "math/bits.deBruijn64tab", "usufruct/script.phases"], apart := false, laid := [("math/bits.deBruijn32tab", laid_math_bits_deBruijn32tab), ("math/bits.deBruijn64tab", laid_math_bits_deBruijn64tab), ("internal/strconv.uint64pow10", laid_internal_strconv_uint64pow10), ("unicode/utf8.acceptRanges", laid_unicode_utf8_acceptRanges), ("usufruct/script.phases", laid_usufruct_script_phases), ("unicode/utf8.first", laid_unicode_utf8_first)] }
def HistoryFewerSaid : Prop := historyFewerRow.holds Tryz.pinned (OpenSpec.ofChange historyFewerSpec)

/-- ITS FALSE NEIGHBOUR: 'it returns false'. Refute it at one input. -/
def historyFewerWrong : ChangeSpec := { name := "historyFewer", fn := fun _ => fun
  | [d1, d2] => { results := [.lit (.bool false)], args := [d1, d2] }
  | _ => none }
def HistoryFewerWrongFalsely : Prop := historyFewerRow.holds Tryz.pinned (OpenSpec.ofChange historyFewerWrong)

/-- 'usufructlaw08.WalRaw': WHATEVER THE INPUT: true; the input reads as it did. -/
def walRawSpec : ChangeSpec := { name := "walRaw", fn := fun _ => fun
  | [d1, d2, d3] => { results := [.lit (.bool true)], args := [d1, d2, d3] }
  | _ => none }
def walRawRow : OpenClaim := { program := "ytoobogpbejdocaagreatdoor", sum := "51f9eb4e1cf95a1ca132fb7b9dc7a27d7fa9c874460e6d16e9ab618e5f13062f", func := "usufruct/usufructlaw08.WalRaw", spec := "walRaw", unfollowed := true, recurses := true, named := ["internal/strconv.uint64pow10", "math/bits.deBruijn32tab", "math/bits.deBruijn64tab", "unicode/utf8.first", "unicode/utf8.acceptRanges"], apart := false, laid := [("math/bits.deBruijn32tab", laid_math_bits_deBruijn32tab), ("math/bits.deBruijn64tab", laid_math_bits_deBruijn64tab), ("internal/strconv.uint64pow10", laid_internal_strconv_uint64pow10), ("unicode/utf8.acceptRanges", laid_unicode_utf8_acceptRanges), ("unicode/utf8.first", laid_unicode_utf8_first)] }
def WalRawSaid : Prop := walRawRow.holds Tryz.pinned (OpenSpec.ofChange walRawSpec)

/-- ITS FALSE NEIGHBOUR: 'it returns false'. Refute it at one input. -/
def walRawWrong : ChangeSpec := { name := "walRaw", fn := fun _ => fun
  | [d1, d2, d3] => { results := [.lit (.bool false)], args := [d1, d2, d3] }
  | _ => none }
def WalRawWrongFalsely : Prop := walRawRow.holds Tryz.pinned (OpenSpec.ofChange walRawWrong)

/-- 'usufructlaw08.WalNames': WHATEVER THE INPUT: true; the input reads as it did. -/
def walNamesSpec : ChangeSpec := { name := "walNames", fn := fun _ => fun
  | [d1, d2] => { results := [.lit (.bool true)], args := [d1, d2] }
  | _ => none }
def walNamesRow : OpenClaim := { program := "ytoobogpbejdocaagreatdoor", sum := "51f9eb4e1cf95a1ca132fb7b9dc7a27d7fa9c874460e6d16e9ab618e5f13062f", func := "usufruct/usufructlaw08.WalNames", spec := "walNames", unfollowed := true, recurses := true, named := ["internal/strconv.uint64pow10", "math/bits.deBruijn32tab", "math/bits.deBruijn64tab", "unicode/utf8.first", "unicode/utf8.acceptRanges"], apart := false, laid := [("math/bits.deBruijn32tab", laid_math_bits_deBruijn32tab), ("math/bits.deBruijn64tab", laid_math_bits_deBruijn64tab), ("internal/strconv.uint64pow10", laid_internal_strconv_uint64pow10), ("unicode/utf8.acceptRanges", laid_unicode_utf8_acceptRanges), ("unicode/utf8.first", laid_unicode_utf8_first)] }
def WalNamesSaid : Prop := walNamesRow.holds Tryz.pinned (OpenSpec.ofChange walNamesSpec)

/-- ITS FALSE NEIGHBOUR: 'it returns false'. Refute it at one input. -/
def walNamesWrong : ChangeSpec := { name := "walNames", fn := fun _ => fun
  | [d1, d2] => { results := [.lit (.bool false)], args := [d1, d2] }
  | _ => none }
def WalNamesWrongFalsely : Prop := walNamesRow.holds Tryz.pinned (OpenSpec.ofChange walNamesWrong)

/-- 'usufructlaw08.WalGrows': WHATEVER THE INPUT: true; the input reads as it did. -/
def walGrowsSpec : ChangeSpec := { name := "walGrows", fn := fun _ => fun
  | [d1, d2] => { results := [.lit (.bool true)], args := [d1, d2] }
  | _ => none }
def walGrowsRow : OpenClaim := { program := "ytoobogpbejdocaagreatdoor", sum := "51f9eb4e1cf95a1ca132fb7b9dc7a27d7fa9c874460e6d16e9ab618e5f13062f", func := "usufruct/usufructlaw08.WalGrows", spec := "walGrows", unfollowed := true, recurses := true, named := ["internal/strconv.uint64pow10", "math/bits.deBruijn32tab", "math/bits.deBruijn64tab", "unicode/utf8.first", "unicode/utf8.acceptRanges"], apart := false, laid := [("math/bits.deBruijn32tab", laid_math_bits_deBruijn32tab), ("math/bits.deBruijn64tab", laid_math_bits_deBruijn64tab), ("internal/strconv.uint64pow10", laid_internal_strconv_uint64pow10), ("unicode/utf8.acceptRanges", laid_unicode_utf8_acceptRanges), ("unicode/utf8.first", laid_unicode_utf8_first)] }
def WalGrowsSaid : Prop := walGrowsRow.holds Tryz.pinned (OpenSpec.ofChange walGrowsSpec)

/-- ITS FALSE NEIGHBOUR: 'it returns false'. Refute it at one input. -/
def walGrowsWrong : ChangeSpec := { name := "walGrows", fn := fun _ => fun
  | [d1, d2] => { results := [.lit (.bool false)], args := [d1, d2] }
  | _ => none }
def WalGrowsWrongFalsely : Prop := walGrowsRow.holds Tryz.pinned (OpenSpec.ofChange walGrowsWrong)

/-- 'usufructlaw08.WalOpensAt': WHATEVER THE INPUT: true; the input reads as it did. -/
def walOpensAtSpec : ChangeSpec := { name := "walOpensAt", fn := fun _ => fun
  | [d1, d2, d3, d4] => { results := [.lit (.bool true)], args := [d1, d2, d3, d4] }
  | _ => none }
def walOpensAtRow : OpenClaim := { program := "ytoobogpbejdocaagreatdoor", sum := "51f9eb4e1cf95a1ca132fb7b9dc7a27d7fa9c874460e6d16e9ab618e5f13062f", func := "usufruct/usufructlaw08.WalOpensAt", spec := "walOpensAt", unfollowed := true, recurses := true, named := ["internal/strconv.uint64pow10", "math/bits.deBruijn32tab", "math/bits.deBruijn64tab", "unicode/utf8.first", "unicode/utf8.acceptRanges"], apart := false, laid := [("math/bits.deBruijn32tab", laid_math_bits_deBruijn32tab), ("math/bits.deBruijn64tab", laid_math_bits_deBruijn64tab), ("internal/strconv.uint64pow10", laid_internal_strconv_uint64pow10), ("unicode/utf8.acceptRanges", laid_unicode_utf8_acceptRanges), ("unicode/utf8.first", laid_unicode_utf8_first)] }
def WalOpensAtSaid : Prop := walOpensAtRow.holds Tryz.pinned (OpenSpec.ofChange walOpensAtSpec)

/-- ITS FALSE NEIGHBOUR: 'it returns false'. Refute it at one input. -/
def walOpensAtWrong : ChangeSpec := { name := "walOpensAt", fn := fun _ => fun
  | [d1, d2, d3, d4] => { results := [.lit (.bool false)], args := [d1, d2, d3, d4] }
  | _ => none }
def WalOpensAtWrongFalsely : Prop := walOpensAtRow.holds Tryz.pinned (OpenSpec.ofChange walOpensAtWrong)

/-- 'usufructlaw08.WalPrunes': WHATEVER THE INPUT: true; the input reads as it did. -/
def walPrunesSpec : ChangeSpec := { name := "walPrunes", fn := fun _ => fun
  | [d1, d2, d3] => { results := [.lit (.bool true)], args := [d1, d2, d3] }
  | _ => none }
def walPrunesRow : OpenClaim := { program := "ytoobogpbejdocaagreatdoor", sum := "51f9eb4e1cf95a1ca132fb7b9dc7a27d7fa9c874460e6d16e9ab618e5f13062f", func := "usufruct/usufructlaw08.WalPrunes", spec := "walPrunes", unfollowed := true, recurses := true, named := ["internal/strconv.uint64pow10", "math/bits.deBruijn32tab", "math/bits.deBruijn64tab", "unicode/utf8.first", "unicode/utf8.acceptRanges"], apart := false, laid := [("math/bits.deBruijn32tab", laid_math_bits_deBruijn32tab), ("math/bits.deBruijn64tab", laid_math_bits_deBruijn64tab), ("internal/strconv.uint64pow10", laid_internal_strconv_uint64pow10), ("unicode/utf8.acceptRanges", laid_unicode_utf8_acceptRanges), ("unicode/utf8.first", laid_unicode_utf8_first)] }
def WalPrunesSaid : Prop := walPrunesRow.holds Tryz.pinned (OpenSpec.ofChange walPrunesSpec)

/-- ITS FALSE NEIGHBOUR: 'it returns false'. Refute it at one input. -/
def walPrunesWrong : ChangeSpec := { name := "walPrunes", fn := fun _ => fun
  | [d1, d2, d3] => { results := [.lit (.bool false)], args := [d1, d2, d3] }
  | _ => none }
def WalPrunesWrongFalsely : Prop := walPrunesRow.holds Tryz.pinned (OpenSpec.ofChange walPrunesWrong)

/- THE SECOND FORM. 'bulk': how many values and letters a reading holds, each counted each time it is reached (what is shared counts as often as it is met; a slice's spare places count too). A statement '..UptoSaid' is the law's where the arguments, and the package variables that the reading takes, are together of bulk at most 1048576: NARROWER than '..Said'. Prove '..Said' where nothing that the law and all that it calls make is longer than what came in: it says more and counts as full. Else prove '..UptoSaid'. A law counts once. -/
mutual
def uptoBulk {H : Type} : DataW H → Nat
  | .lit (.string bytes) => bytes.length + 1
  | .lit _ => 1
  | .nil => 1
  | .ptr d => uptoBulk d + 1
  | .slice elems spare => uptoBulkAll elems + uptoBulkAll spare + 1
  | .agg parts => uptoBulkAll parts + 1
  | .iface _ d => uptoBulk d + 1
  | .map entries => uptoBulkEntries entries + 1
  | .held _ => 1
def uptoBulkAll {H : Type} : List (DataW H) → Nat
  | [] => 0
  | d :: r => uptoBulk d + uptoBulkAll r
def uptoBulkEntries {H : Type} : List (Lit × DataW H) → Nat
  | [] => 0
  | x :: r => uptoBulkEntry x + uptoBulkEntries r
def uptoBulkEntry {H : Type} : Lit × DataW H → Nat
  | (.string bytes, d) => bytes.length + uptoBulk d + 1
  | (_, d) => uptoBulk d + 1
 end
def uptoSmall : (H : Type) → List (DataW H) → Bool := fun _ ds => decide (uptoBulkAll ds ≤ 1048576)
def OpenSpec.upto (s : _root_.Go.ChangeSpec) : _root_.Go.OpenSpec := { _root_.Go.OpenSpec.ofChange s with cond := some uptoSmall }

/-- 'usufructlaw27.HistoryLines', WHERE WHAT IT READS IS OF BULK AT MOST 1048576: true; the input reads as it did. -/
def historyLinesUptoRow : OpenClaim := { program := "ytoobogpbejdocaagreatdoor", sum := "51f9eb4e1cf95a1ca132fb7b9dc7a27d7fa9c874460e6d16e9ab618e5f13062f", func := "usufruct/usufructlaw27.HistoryLines", spec := "historyLines", inPlace := ["slices.overlaps[usufruct/api.Def]"], unfollowed := true, recurses := true, named := ["unicode/utf8.first", "unicode/utf8.acceptRanges", "internal/strconv.uint64pow10", "math/bits.deBruijn32tab", "math/bits.deBruijn64tab", "usufruct/script.phases"], apart := false, laid := [("math/bits.deBruijn32tab", laid_math_bits_deBruijn32tab), ("math/bits.deBruijn64tab", laid_math_bits_deBruijn64tab), ("internal/strconv.uint64pow10", laid_internal_strconv_uint64pow10), ("unicode/utf8.acceptRanges", laid_unicode_utf8_acceptRanges), ("usufruct/script.phases", laid_usufruct_script_phases), ("unicode/utf8.first", laid_unicode_utf8_first)], narrowed := true }
def HistoryLinesUptoSaid : Prop := historyLinesUptoRow.holds Tryz.pinned (OpenSpec.upto historyLinesSpec)

/-- 'usufructlaw27.HistoryFewer', WHERE WHAT IT READS IS OF BULK AT MOST 1048576: true; the input reads as it did. -/
def historyFewerUptoRow : OpenClaim := { program := "ytoobogpbejdocaagreatdoor", sum := "51f9eb4e1cf95a1ca132fb7b9dc7a27d7fa9c874460e6d16e9ab618e5f13062f", func := "usufruct/usufructlaw27.HistoryFewer", spec := "historyFewer", inPlace := ["slices.overlaps[usufruct/api.Def]"], unfollowed := true, recurses := true, named := ["unicode/utf8.first", "unicode/utf8.acceptRanges", "internal/strconv.uint64pow10", "math/bits.deBruijn32tab", "math/bits.deBruijn64tab", "usufruct/script.phases"], apart := false, laid := [("math/bits.deBruijn32tab", laid_math_bits_deBruijn32tab), ("math/bits.deBruijn64tab", laid_math_bits_deBruijn64tab), ("internal/strconv.uint64pow10", laid_internal_strconv_uint64pow10), ("unicode/utf8.acceptRanges", laid_unicode_utf8_acceptRanges), ("usufruct/script.phases", laid_usufruct_script_phases), ("unicode/utf8.first", laid_unicode_utf8_first)], narrowed := true }
def HistoryFewerUptoSaid : Prop := historyFewerUptoRow.holds Tryz.pinned (OpenSpec.upto historyFewerSpec)

/-- 'usufructlaw08.WalRaw', WHERE WHAT IT READS IS OF BULK AT MOST 1048576: true; the input reads as it did. -/
def walRawUptoRow : OpenClaim := { program := "ytoobogpbejdocaagreatdoor", sum := "51f9eb4e1cf95a1ca132fb7b9dc7a27d7fa9c874460e6d16e9ab618e5f13062f", func := "usufruct/usufructlaw08.WalRaw", spec := "walRaw", unfollowed := true, recurses := true, named := ["internal/strconv.uint64pow10", "math/bits.deBruijn32tab", "math/bits.deBruijn64tab", "unicode/utf8.first", "unicode/utf8.acceptRanges"], apart := false, laid := [("math/bits.deBruijn32tab", laid_math_bits_deBruijn32tab), ("math/bits.deBruijn64tab", laid_math_bits_deBruijn64tab), ("internal/strconv.uint64pow10", laid_internal_strconv_uint64pow10), ("unicode/utf8.acceptRanges", laid_unicode_utf8_acceptRanges), ("unicode/utf8.first", laid_unicode_utf8_first)], narrowed := true }
def WalRawUptoSaid : Prop := walRawUptoRow.holds Tryz.pinned (OpenSpec.upto walRawSpec)

/-- 'usufructlaw08.WalNames', WHERE WHAT IT READS IS OF BULK AT MOST 1048576: true; the input reads as it did. -/
def walNamesUptoRow : OpenClaim := { program := "ytoobogpbejdocaagreatdoor", sum := "51f9eb4e1cf95a1ca132fb7b9dc7a27d7fa9c874460e6d16e9ab618e5f13062f", func := "usufruct/usufructlaw08.WalNames", spec := "walNames", unfollowed := true, recurses := true, named := ["internal/strconv.uint64pow10", "math/bits.deBruijn32tab", "math/bits.deBruijn64tab", "unicode/utf8.first", "unicode/utf8.acceptRanges"], apart := false, laid := [("math/bits.deBruijn32tab", laid_math_bits_deBruijn32tab), ("math/bits.deBruijn64tab", laid_math_bits_deBruijn64tab), ("internal/strconv.uint64pow10", laid_internal_strconv_uint64pow10), ("unicode/utf8.acceptRanges", laid_unicode_utf8_acceptRanges), ("unicode/utf8.first", laid_unicode_utf8_first)], narrowed := true }
def WalNamesUptoSaid : Prop := walNamesUptoRow.holds Tryz.pinned (OpenSpec.upto walNamesSpec)

/-- 'usufructlaw08.WalGrows', WHERE WHAT IT READS IS OF BULK AT MOST 1048576: true; the input reads as it did. -/
def walGrowsUptoRow : OpenClaim := { program := "ytoobogpbejdocaagreatdoor", sum := "51f9eb4e1cf95a1ca132fb7b9dc7a27d7fa9c874460e6d16e9ab618e5f13062f", func := "usufruct/usufructlaw08.WalGrows", spec := "walGrows", unfollowed := true, recurses := true, named := ["internal/strconv.uint64pow10", "math/bits.deBruijn32tab", "math/bits.deBruijn64tab", "unicode/utf8.first", "unicode/utf8.acceptRanges"], apart := false, laid := [("math/bits.deBruijn32tab", laid_math_bits_deBruijn32tab), ("math/bits.deBruijn64tab", laid_math_bits_deBruijn64tab), ("internal/strconv.uint64pow10", laid_internal_strconv_uint64pow10), ("unicode/utf8.acceptRanges", laid_unicode_utf8_acceptRanges), ("unicode/utf8.first", laid_unicode_utf8_first)], narrowed := true }
def WalGrowsUptoSaid : Prop := walGrowsUptoRow.holds Tryz.pinned (OpenSpec.upto walGrowsSpec)

/-- 'usufructlaw08.WalOpensAt', WHERE WHAT IT READS IS OF BULK AT MOST 1048576: true; the input reads as it did. -/
def walOpensAtUptoRow : OpenClaim := { program := "ytoobogpbejdocaagreatdoor", sum := "51f9eb4e1cf95a1ca132fb7b9dc7a27d7fa9c874460e6d16e9ab618e5f13062f", func := "usufruct/usufructlaw08.WalOpensAt", spec := "walOpensAt", unfollowed := true, recurses := true, named := ["internal/strconv.uint64pow10", "math/bits.deBruijn32tab", "math/bits.deBruijn64tab", "unicode/utf8.first", "unicode/utf8.acceptRanges"], apart := false, laid := [("math/bits.deBruijn32tab", laid_math_bits_deBruijn32tab), ("math/bits.deBruijn64tab", laid_math_bits_deBruijn64tab), ("internal/strconv.uint64pow10", laid_internal_strconv_uint64pow10), ("unicode/utf8.acceptRanges", laid_unicode_utf8_acceptRanges), ("unicode/utf8.first", laid_unicode_utf8_first)], narrowed := true }
def WalOpensAtUptoSaid : Prop := walOpensAtUptoRow.holds Tryz.pinned (OpenSpec.upto walOpensAtSpec)

/-- 'usufructlaw08.WalPrunes', WHERE WHAT IT READS IS OF BULK AT MOST 1048576: true; the input reads as it did. -/
def walPrunesUptoRow : OpenClaim := { program := "ytoobogpbejdocaagreatdoor", sum := "51f9eb4e1cf95a1ca132fb7b9dc7a27d7fa9c874460e6d16e9ab618e5f13062f", func := "usufruct/usufructlaw08.WalPrunes", spec := "walPrunes", unfollowed := true, recurses := true, named := ["internal/strconv.uint64pow10", "math/bits.deBruijn32tab", "math/bits.deBruijn64tab", "unicode/utf8.first", "unicode/utf8.acceptRanges"], apart := false, laid := [("math/bits.deBruijn32tab", laid_math_bits_deBruijn32tab), ("math/bits.deBruijn64tab", laid_math_bits_deBruijn64tab), ("internal/strconv.uint64pow10", laid_internal_strconv_uint64pow10), ("unicode/utf8.acceptRanges", laid_unicode_utf8_acceptRanges), ("unicode/utf8.first", laid_unicode_utf8_first)], narrowed := true }
def WalPrunesUptoSaid : Prop := walPrunesUptoRow.holds Tryz.pinned (OpenSpec.upto walPrunesSpec)

end Rows
end Go.Proofs.YtoobogpbejdocaaGreatDoor
