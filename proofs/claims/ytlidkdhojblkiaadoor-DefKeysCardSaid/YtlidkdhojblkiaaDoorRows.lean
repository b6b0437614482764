/-
  NARROWER THAN 'FOR EVERY INPUT', by the rows' own cells (each row's printed sentence says how): ForecastTells: laid · ArchiveAdds: laid · ArchiveAsks: laid · DefKeys: laid · StoreSafe: laid · DefParties: laid · DefOwns: laid · StoreAgain: laid · StoreBounds: laid · StorePlays: laid · DefChecks: laid.
  DERIVED. THE GIVEN ROWS OF THIS SEAT. 11 by the template 'for every input the law returns true; each argument reads behind the call as it read before'; 0 by the template 'total and deterministic' (their statements: YtlidkdhojblkiaaDoorTotals.lean).
  GIVEN WITH THE SEED: the statements are not yours to turn. If you find one false, say at which input.
  Laid BY PROGRAM, IN A SANDBOX (cutbox-rows.mjs): the forced cells as the released guide's own fill.sh prints them over the translation 99f7ab9345c5f58d… (all of the seat's roots in one cut). By AI agents, Wed Nov 11 2026. No macro, syntax, notation, axiom, sorry.
-/
import Derived.Test.YtlidkdhojblkiaaDoorChecked
import GoSem.PinnedTables
import GoSem.Claim
import GoSem.ClaimJoined
import GoSem.ClaimMapViews
import Derived.JoinedTies
import Derived.KernelRfl
namespace Go.Proofs.YtlidkdhojblkiaaDoor
/- THE CELL 'sum', in the pinned program and in every row, IS THE sha256 OF THE DUMP (.gsa) THAT YtlidkdhojblkiaaDoorProg.lean LOADS. Nothing in Lean hashes anything: it is a label: what it is worth is what the hold of that sum in a sandbox is worth. -/
noncomputable def Tryd.pinned : Pinned := { name := "ytlidkdhojblkiaadoor", sum := "99f7ab9345c5f58d9ae4792e9d84fb42ca02fae7c3723a6db2e0dae476088137", checked := Tryd.checked }
namespace Rows
def none {H : Type} : Left H := { results := [], args := [] }

/- WHAT THE LISTED PACKAGE-LEVEL VARIABLES READ AS WHEN THE CALL BEGINS. Each datum BY PROGRAM (the guide's laid-datum.mjs) off the statement by which the dump's own 'gosem.cut.vars' lays the variable. In a bare row this is a premise. The card (YtlidkdhojblkiaaDoorCards.lean) ties it to the program's text. -/
def laid_unicode_utf8_acceptRanges {H : Type} : DataW H := .agg [.agg [.lit (.int .u8 128), .lit (.int .u8 191)], .agg [.lit (.int .u8 160), .lit (.int .u8 191)], .agg [.lit (.int .u8 128), .lit (.int .u8 159)], .agg [.lit (.int .u8 144), .lit (.int .u8 191)], .agg [.lit (.int .u8 128), .lit (.int .u8 143)], .agg [.lit (.int .u8 0), .lit (.int .u8 0)], .agg [.lit (.int .u8 0), .lit (.int .u8 0)], .agg [.lit (.int .u8 0), .lit (.int .u8 0)], .agg [.lit (.int .u8 0), .lit (.int .u8 0)], .agg [.lit (.int .u8 0), .lit (.int .u8 0)], .agg [.lit (.int .u8 0), .lit (.int .u8 0)], .agg [.lit (.int .u8 0), .lit (.int .u8 0)], .agg [.lit (.int .u8 0), .lit (.int .u8 0)], .agg [.lit (.int .u8 0), .lit (.int .u8 0)], .agg [.lit (.int .u8 0), .lit (.int .u8 0)], .agg [.lit (.int .u8 0), .lit (.int .u8 0)]]
/-- One of Go's own tables, pinned by name: the form's constant. -/
def laid_unicode_utf8_first : DataW Unit := Go.Pinned.utf8First
def laid_math_bits_deBruijn32tab {H : Type} : DataW H := .agg [.lit (.int .u8 0), .lit (.int .u8 1), .lit (.int .u8 28), .lit (.int .u8 2), .lit (.int .u8 29), .lit (.int .u8 14), .lit (.int .u8 24), .lit (.int .u8 3), .lit (.int .u8 30), .lit (.int .u8 22), .lit (.int .u8 20), .lit (.int .u8 15), .lit (.int .u8 25), .lit (.int .u8 17), .lit (.int .u8 4), .lit (.int .u8 8), .lit (.int .u8 31), .lit (.int .u8 27), .lit (.int .u8 13), .lit (.int .u8 23), .lit (.int .u8 21), .lit (.int .u8 19), .lit (.int .u8 16), .lit (.int .u8 7), .lit (.int .u8 26), .lit (.int .u8 12), .lit (.int .u8 18), .lit (.int .u8 6), .lit (.int .u8 11), .lit (.int .u8 5), .lit (.int .u8 10), .lit (.int .u8 9)]
def laid_math_bits_deBruijn64tab {H : Type} : DataW H := .agg [.lit (.int .u8 0), .lit (.int .u8 1), .lit (.int .u8 56), .lit (.int .u8 2), .lit (.int .u8 57), .lit (.int .u8 49), .lit (.int .u8 28), .lit (.int .u8 3), .lit (.int .u8 61), .lit (.int .u8 58), .lit (.int .u8 42), .lit (.int .u8 50), .lit (.int .u8 38), .lit (.int .u8 29), .lit (.int .u8 17), .lit (.int .u8 4), .lit (.int .u8 62), .lit (.int .u8 47), .lit (.int .u8 59), .lit (.int .u8 36), .lit (.int .u8 45), .lit (.int .u8 43), .lit (.int .u8 51), .lit (.int .u8 22), .lit (.int .u8 53), .lit (.int .u8 39), .lit (.int .u8 33), .lit (.int .u8 30), .lit (.int .u8 24), .lit (.int .u8 18), .lit (.int .u8 12), .lit (.int .u8 5), .lit (.int .u8 63), .lit (.int .u8 55), .lit (.int .u8 48), .lit (.int .u8 27), .lit (.int .u8 60), .lit (.int .u8 41), .lit (.int .u8 37), .lit (.int .u8 16), .lit (.int .u8 46), .lit (.int .u8 35), .lit (.int .u8 44), .lit (.int .u8 21), .lit (.int .u8 52), .lit (.int .u8 32), .lit (.int .u8 23), .lit (.int .u8 11), .lit (.int .u8 54), .lit (.int .u8 26), .lit (.int .u8 40), .lit (.int .u8 15), .lit (.int .u8 34), .lit (.int .u8 20), .lit (.int .u8 31), .lit (.int .u8 10), .lit (.int .u8 25), .lit (.int .u8 14), .lit (.int .u8 19), .lit (.int .u8 9), .lit (.int .u8 13), .lit (.int .u8 8), .lit (.int .u8 7), .lit (.int .u8 6)]
def laid_internal_strconv_uint64pow10 {H : Type} : DataW H := .agg [.lit (.int .u64 1), .lit (.int .u64 10), .lit (.int .u64 100), .lit (.int .u64 1000), .lit (.int .u64 10000), .lit (.int .u64 100000), .lit (.int .u64 1000000), .lit (.int .u64 10000000), .lit (.int .u64 100000000), .lit (.int .u64 1000000000), .lit (.int .u64 10000000000), .lit (.int .u64 100000000000), .lit (.int .u64 1000000000000), .lit (.int .u64 10000000000000), .lit (.int .u64 100000000000000), .lit (.int .u64 1000000000000000), .lit (.int .u64 10000000000000000), .lit (.int .u64 100000000000000000), .lit (.int .u64 1000000000000000000), .lit (.int .u64 10000000000000000000)]

/-- 'usufructlaw30.ForecastTells': WHATEVER THE INPUT: true; the input reads as it did. -/
def forecastTellsSpec : ChangeSpec := { name := "forecastTells", fn := fun _ => fun
  | [d1, d2, d3] => { results := [.lit (.bool true)], args := [d1, d2, d3] }
  | _ => none }
def forecastTellsRow : OpenClaim := { program := "ytlidkdhojblkiaadoor", sum := "99f7ab9345c5f58d9ae4792e9d84fb42ca02fae7c3723a6db2e0dae476088137", func := "usufruct/usufructlaw30.ForecastTells", spec := "forecastTells", unfollowed := true, recurses := true, named := ["unicode/utf8.first", "unicode/utf8.acceptRanges"], apart := false, laid := [("unicode/utf8.acceptRanges", laid_unicode_utf8_acceptRanges), ("unicode/utf8.first", laid_unicode_utf8_first)] }
def ForecastTellsSaid : Prop := forecastTellsRow.holds Tryd.pinned (OpenSpec.ofChange forecastTellsSpec)

/-- ITS FALSE NEIGHBOUR: 'it returns false'. Refute it at one input. -/
def forecastTellsWrong : ChangeSpec := { name := "forecastTells", fn := fun _ => fun
  | [d1, d2, d3] => { results := [.lit (.bool false)], args := [d1, d2, d3] }
  | _ => none }
def ForecastTellsWrongFalsely : Prop := forecastTellsRow.holds Tryd.pinned (OpenSpec.ofChange forecastTellsWrong)

/-- 'usufructlaw31.ArchiveAdds': WHATEVER THE INPUT: true; the input reads as it did. -/
def archiveAddsSpec : ChangeSpec := { name := "archiveAdds", fn := fun _ => fun
  | [d1, d2, d3] => { results := [.lit (.bool true)], args := [d1, d2, d3] }
  | _ => none }
def archiveAddsRow : OpenClaim := { program := "ytlidkdhojblkiaadoor", sum := "99f7ab9345c5f58d9ae4792e9d84fb42ca02fae7c3723a6db2e0dae476088137", func := "usufruct/usufructlaw31.ArchiveAdds", spec := "archiveAdds", inPlace := ["slices.overlaps[usufruct/api.Row]"], unfollowed := true, recurses := true, named := ["unicode/utf8.first", "unicode/utf8.acceptRanges"], apart := false, laid := [("unicode/utf8.acceptRanges", laid_unicode_utf8_acceptRanges), ("unicode/utf8.first", laid_unicode_utf8_first)] }
def ArchiveAddsSaid : Prop := archiveAddsRow.holds Tryd.pinned (OpenSpec.ofChange archiveAddsSpec)

/-- ITS FALSE NEIGHBOUR: 'it returns false'. Refute it at one input. -/
def archiveAddsWrong : ChangeSpec := { name := "archiveAdds", fn := fun _ => fun
  | [d1, d2, d3] => { results := [.lit (.bool false)], args := [d1, d2, d3] }
  | _ => none }
def ArchiveAddsWrongFalsely : Prop := archiveAddsRow.holds Tryd.pinned (OpenSpec.ofChange archiveAddsWrong)

/-- 'usufructlaw31.ArchiveAsks': WHATEVER THE INPUT: true; the input reads as it did. -/
def archiveAsksSpec : ChangeSpec := { name := "archiveAsks", fn := fun _ => fun
  | [d1, d2, d3] => { results := [.lit (.bool true)], args := [d1, d2, d3] }
  | _ => none }
def archiveAsksRow : OpenClaim := { program := "ytlidkdhojblkiaadoor", sum := "99f7ab9345c5f58d9ae4792e9d84fb42ca02fae7c3723a6db2e0dae476088137", func := "usufruct/usufructlaw31.ArchiveAsks", spec := "archiveAsks", inPlace := ["slices.overlaps[usufruct/api.Row]"], unfollowed := true, recurses := true, named := ["unicode/utf8.first", "unicode/utf8.acceptRanges"], apart := false, laid := [("unicode/utf8.acceptRanges", laid_unicode_utf8_acceptRanges), ("unicode/utf8.first", laid_unicode_utf8_first)] }
def ArchiveAsksSaid : Prop := archiveAsksRow.holds Tryd.pinned (OpenSpec.ofChange archiveAsksSpec)

/-- ITS FALSE NEIGHBOUR: 'it returns false'. Refute it at one input. -/
def archiveAsksWrong : ChangeSpec := { name := "archiveAsks", fn := fun _ => fun
  | [d1, d2, d3] => { results := [.lit (.bool false)], args := [d1, d2, d3] }
  | _ => none }
def ArchiveAsksWrongFalsely : Prop := archiveAsksRow.holds Tryd.pinned (OpenSpec.ofChange archiveAsksWrong)

/-- 'usufructlaw13.DefKeys': WHATEVER THE INPUT: true; the input reads as it did. -/
def defKeysSpec : ChangeSpec := { name := "defKeys", fn := fun _ => fun
  | [d1, d2, d3, d4, d5] => { results := [.lit (.bool true)], args := [d1, d2, d3, d4, d5] }
  | _ => none }
def defKeysRow : OpenClaim := { program := "ytlidkdhojblkiaadoor", sum := "99f7ab9345c5f58d9ae4792e9d84fb42ca02fae7c3723a6db2e0dae476088137", func := "usufruct/usufructlaw13.DefKeys", spec := "defKeys", inPlace := ["internal/bytealg.CountString", "internal/bytealg.IndexByteString", "internal/bytealg.IndexString"], named := ["unicode/utf8.first", "unicode/utf8.acceptRanges", "internal/bytealg.MaxLen", "internal/strconv.uint64pow10", "math/bits.deBruijn32tab", "math/bits.deBruijn64tab"], apart := false, laid := [("math/bits.deBruijn32tab", laid_math_bits_deBruijn32tab), ("math/bits.deBruijn64tab", laid_math_bits_deBruijn64tab), ("internal/strconv.uint64pow10", laid_internal_strconv_uint64pow10), ("unicode/utf8.acceptRanges", laid_unicode_utf8_acceptRanges), ("unicode/utf8.first", laid_unicode_utf8_first)] }
def DefKeysSaid : Prop := defKeysRow.holds Tryd.pinned (OpenSpec.ofChange defKeysSpec)

/-- ITS FALSE NEIGHBOUR: 'it returns false'. Refute it at one input. -/
def defKeysWrong : ChangeSpec := { name := "defKeys", fn := fun _ => fun
  | [d1, d2, d3, d4, d5] => { results := [.lit (.bool false)], args := [d1, d2, d3, d4, d5] }
  | _ => none }
def DefKeysWrongFalsely : Prop := defKeysRow.holds Tryd.pinned (OpenSpec.ofChange defKeysWrong)

/-- 'usufructlaw05.StoreSafe': WHATEVER THE INPUT: true; the input reads as it did. -/
def storeSafeSpec : ChangeSpec := { name := "storeSafe", fn := fun _ => fun
  | [d1, d2, d3] => { results := [.lit (.bool true)], args := [d1, d2, d3] }
  | _ => none }
def storeSafeRow : OpenClaim := { program := "ytlidkdhojblkiaadoor", sum := "99f7ab9345c5f58d9ae4792e9d84fb42ca02fae7c3723a6db2e0dae476088137", func := "usufruct/usufructlaw05.StoreSafe", spec := "storeSafe", unfollowed := true, recurses := true, named := ["unicode/utf8.first", "unicode/utf8.acceptRanges"], apart := false, laid := [("unicode/utf8.acceptRanges", laid_unicode_utf8_acceptRanges), ("unicode/utf8.first", laid_unicode_utf8_first)] }
def StoreSafeSaid : Prop := storeSafeRow.holds Tryd.pinned (OpenSpec.ofChange storeSafeSpec)

/-- ITS FALSE NEIGHBOUR: 'it returns false'. Refute it at one input. -/
def storeSafeWrong : ChangeSpec := { name := "storeSafe", fn := fun _ => fun
  | [d1, d2, d3] => { results := [.lit (.bool false)], args := [d1, d2, d3] }
  | _ => none }
def StoreSafeWrongFalsely : Prop := storeSafeRow.holds Tryd.pinned (OpenSpec.ofChange storeSafeWrong)

/-- 'usufructlaw13.DefParties': WHATEVER THE INPUT: true; the input reads as it did. -/
def defPartiesSpec : ChangeSpec := { name := "defParties", fn := fun _ => fun
  | [d] => { results := [.lit (.bool true)], args := [d] }
  | _ => none }
def defPartiesRow : OpenClaim := { program := "ytlidkdhojblkiaadoor", sum := "99f7ab9345c5f58d9ae4792e9d84fb42ca02fae7c3723a6db2e0dae476088137", func := "usufruct/usufructlaw13.DefParties", spec := "defParties", inPlace := ["internal/bytealg.CountString", "internal/bytealg.IndexByteString", "internal/bytealg.IndexString"], named := ["unicode/utf8.first", "unicode/utf8.acceptRanges", "internal/bytealg.MaxLen", "internal/strconv.uint64pow10", "math/bits.deBruijn32tab", "math/bits.deBruijn64tab"], apart := false, laid := [("math/bits.deBruijn32tab", laid_math_bits_deBruijn32tab), ("math/bits.deBruijn64tab", laid_math_bits_deBruijn64tab), ("internal/strconv.uint64pow10", laid_internal_strconv_uint64pow10), ("unicode/utf8.acceptRanges", laid_unicode_utf8_acceptRanges), ("unicode/utf8.first", laid_unicode_utf8_first)] }
def DefPartiesSaid : Prop := defPartiesRow.holds Tryd.pinned (OpenSpec.ofChange defPartiesSpec)

/-- ITS FALSE NEIGHBOUR: 'it returns false'. Refute it at one input. -/
def defPartiesWrong : ChangeSpec := { name := "defParties", fn := fun _ => fun
  | [d] => { results := [.lit (.bool false)], args := [d] }
  | _ => none }
def DefPartiesWrongFalsely : Prop := defPartiesRow.holds Tryd.pinned (OpenSpec.ofChange defPartiesWrong)

/-- 'usufructlaw13.DefOwns': WHATEVER THE INPUT: true; the input reads as it did. -/
def defOwnsSpec : ChangeSpec := { name := "defOwns", fn := fun _ => fun
  | [d1, d2, d3] => { results := [.lit (.bool true)], args := [d1, d2, d3] }
  | _ => none }
def defOwnsRow : OpenClaim := { program := "ytlidkdhojblkiaadoor", sum := "99f7ab9345c5f58d9ae4792e9d84fb42ca02fae7c3723a6db2e0dae476088137", func := "usufruct/usufructlaw13.DefOwns", spec := "defOwns", inPlace := ["internal/bytealg.CountString", "internal/bytealg.IndexByteString", "internal/bytealg.IndexString"], named := ["unicode/utf8.first", "unicode/utf8.acceptRanges", "internal/bytealg.MaxLen", "internal/strconv.uint64pow10", "math/bits.deBruijn32tab", "math/bits.deBruijn64tab"], apart := false, laid := [("math/bits.deBruijn32tab", laid_math_bits_deBruijn32tab), ("math/bits.deBruijn64tab", laid_math_bits_deBruijn64tab), ("internal/strconv.uint64pow10", laid_internal_strconv_uint64pow10), ("unicode/utf8.acceptRanges", laid_unicode_utf8_acceptRanges), ("unicode/utf8.first", laid_unicode_utf8_first)] }
def DefOwnsSaid : Prop := defOwnsRow.holds Tryd.pinned (OpenSpec.ofChange defOwnsSpec)

/-- ITS FALSE NEIGHBOUR: 'it returns false'. Refute it at one input. -/
def defOwnsWrong : ChangeSpec := { name := "defOwns", fn := fun _ => fun
  | [d1, d2, d3] => { results := [.lit (.bool false)], args := [d1, d2, d3] }
  | _ => none }
def DefOwnsWrongFalsely : Prop := defOwnsRow.holds Tryd.pinned (OpenSpec.ofChange defOwnsWrong)

/-- 'usufructlaw05.StoreAgain': WHATEVER THE INPUT: true; the input reads as it did. -/
def storeAgainSpec : ChangeSpec := { name := "storeAgain", fn := fun _ => fun
  | [d1, d2, d3] => { results := [.lit (.bool true)], args := [d1, d2, d3] }
  | _ => none }
def storeAgainRow : OpenClaim := { program := "ytlidkdhojblkiaadoor", sum := "99f7ab9345c5f58d9ae4792e9d84fb42ca02fae7c3723a6db2e0dae476088137", func := "usufruct/usufructlaw05.StoreAgain", spec := "storeAgain", unfollowed := true, recurses := true, named := ["unicode/utf8.first", "unicode/utf8.acceptRanges"], apart := false, laid := [("unicode/utf8.acceptRanges", laid_unicode_utf8_acceptRanges), ("unicode/utf8.first", laid_unicode_utf8_first)] }
def StoreAgainSaid : Prop := storeAgainRow.holds Tryd.pinned (OpenSpec.ofChange storeAgainSpec)

/-- ITS FALSE NEIGHBOUR: 'it returns false'. Refute it at one input. -/
def storeAgainWrong : ChangeSpec := { name := "storeAgain", fn := fun _ => fun
  | [d1, d2, d3] => { results := [.lit (.bool false)], args := [d1, d2, d3] }
  | _ => none }
def StoreAgainWrongFalsely : Prop := storeAgainRow.holds Tryd.pinned (OpenSpec.ofChange storeAgainWrong)

/-- 'usufructlaw05.StoreBounds': WHATEVER THE INPUT: true; the input reads as it did. -/
def storeBoundsSpec : ChangeSpec := { name := "storeBounds", fn := fun _ => fun
  | [d1, d2] => { results := [.lit (.bool true)], args := [d1, d2] }
  | _ => none }
def storeBoundsRow : OpenClaim := { program := "ytlidkdhojblkiaadoor", sum := "99f7ab9345c5f58d9ae4792e9d84fb42ca02fae7c3723a6db2e0dae476088137", func := "usufruct/usufructlaw05.StoreBounds", spec := "storeBounds", unfollowed := true, recurses := true, named := ["unicode/utf8.first", "unicode/utf8.acceptRanges"], apart := false, laid := [("unicode/utf8.acceptRanges", laid_unicode_utf8_acceptRanges), ("unicode/utf8.first", laid_unicode_utf8_first)] }
def StoreBoundsSaid : Prop := storeBoundsRow.holds Tryd.pinned (OpenSpec.ofChange storeBoundsSpec)

/-- ITS FALSE NEIGHBOUR: 'it returns false'. Refute it at one input. -/
def storeBoundsWrong : ChangeSpec := { name := "storeBounds", fn := fun _ => fun
  | [d1, d2] => { results := [.lit (.bool false)], args := [d1, d2] }
  | _ => none }
def StoreBoundsWrongFalsely : Prop := storeBoundsRow.holds Tryd.pinned (OpenSpec.ofChange storeBoundsWrong)

/-- 'usufructlaw05.StorePlays': WHATEVER THE INPUT: true; the input reads as it did. -/
def storePlaysSpec : ChangeSpec := { name := "storePlays", fn := fun _ => fun
  | [d1, d2] => { results := [.lit (.bool true)], args := [d1, d2] }
  | _ => none }
def storePlaysRow : OpenClaim := { program := "ytlidkdhojblkiaadoor", sum := "99f7ab9345c5f58d9ae4792e9d84fb42ca02fae7c3723a6db2e0dae476088137", func := "usufruct/usufructlaw05.StorePlays", spec := "storePlays", unfollowed := true, recurses := true, named := ["unicode/utf8.first", "unicode/utf8.acceptRanges"], apart := false, laid := [("unicode/utf8.acceptRanges", laid_unicode_utf8_acceptRanges), ("unicode/utf8.first", laid_unicode_utf8_first)] }
def StorePlaysSaid : Prop := storePlaysRow.holds Tryd.pinned (OpenSpec.ofChange storePlaysSpec)

/-- ITS FALSE NEIGHBOUR: 'it returns false'. Refute it at one input. -/
def storePlaysWrong : ChangeSpec := { name := "storePlays", fn := fun _ => fun
  | [d1, d2] => { results := [.lit (.bool false)], args := [d1, d2] }
  | _ => none }
def StorePlaysWrongFalsely : Prop := storePlaysRow.holds Tryd.pinned (OpenSpec.ofChange storePlaysWrong)

/-- 'usufructlaw13.DefChecks': WHATEVER THE INPUT: true; the input reads as it did. -/
def defChecksSpec : ChangeSpec := { name := "defChecks", fn := fun _ => fun
  | [d1, d2, d3] => { results := [.lit (.bool true)], args := [d1, d2, d3] }
  | _ => none }
def defChecksRow : OpenClaim := { program := "ytlidkdhojblkiaadoor", sum := "99f7ab9345c5f58d9ae4792e9d84fb42ca02fae7c3723a6db2e0dae476088137", func := "usufruct/usufructlaw13.DefChecks", spec := "defChecks", inPlace := ["internal/bytealg.CountString", "internal/bytealg.IndexByteString", "internal/bytealg.IndexString"], unfollowed := true, recurses := true, named := ["unicode/utf8.first", "unicode/utf8.acceptRanges", "internal/bytealg.MaxLen", "internal/strconv.uint64pow10", "math/bits.deBruijn32tab", "math/bits.deBruijn64tab"], apart := false, laid := [("math/bits.deBruijn32tab", laid_math_bits_deBruijn32tab), ("math/bits.deBruijn64tab", laid_math_bits_deBruijn64tab), ("internal/strconv.uint64pow10", laid_internal_strconv_uint64pow10), ("unicode/utf8.acceptRanges", laid_unicode_utf8_acceptRanges), ("unicode/utf8.first", laid_unicode_utf8_first)] }
def DefChecksSaid : Prop := defChecksRow.holds Tryd.pinned (OpenSpec.ofChange defChecksSpec)

/-- ITS FALSE NEIGHBOUR: 'it returns false'. Refute it at one input. -/
def defChecksWrong : ChangeSpec := { name := "defChecks", fn := fun _ => fun
  | [d1, d2, d3] => { results := [.lit (.bool false)], args := [d1, d2, d3] }
  | _ => none }
def DefChecksWrongFalsely : Prop := defChecksRow.holds Tryd.pinned (OpenSpec.ofChange defChecksWrong)

/- THE SECOND FORM. 'bulk': how many values and letters a reading holds, each counted each time it is reached (what is shared counts as often as it is met; a slice's spare places count too). A statement '..UptoSaid' is the law's where the arguments, and the package variables that the reading takes, are together of bulk at most 1048576: NARROWER than '..Said'. Prove '..Said' where nothing that the law and all that it calls make is longer than what came in: it says more and counts as full. Else prove '..UptoSaid'. A law counts once. -/
mutual
def uptoBulk {H : Type} : DataW H → Nat
  | .lit (.string bytes) => bytes.length + 1
  | .lit _ => 1
  | .nil => 1
  | .ptr d => uptoBulk d + 1
  | .slice elems spare => uptoBulkAll elems + uptoBulkAll spare + 1
  | .agg parts => uptoBulkAll parts + 1
  | .iface _ d => uptoBulk d + 1
  | .map entries => uptoBulkEntries entries + 1
  | .held _ => 1
def uptoBulkAll {H : Type} : List (DataW H) → Nat
  | [] => 0
  | d :: r => uptoBulk d + uptoBulkAll r
def uptoBulkEntries {H : Type} : List (Lit × DataW H) → Nat
  | [] => 0
  | x :: r => uptoBulkEntry x + uptoBulkEntries r
def uptoBulkEntry {H : Type} : Lit × DataW H → Nat
  | (.string bytes, d) => bytes.length + uptoBulk d + 1
  | (_, d) => uptoBulk d + 1
 end
def uptoSmall : (H : Type) → List (DataW H) → Bool := fun _ ds => decide (uptoBulkAll ds ≤ 1048576)
def OpenSpec.upto (s : _root_.Go.ChangeSpec) : _root_.Go.OpenSpec := { _root_.Go.OpenSpec.ofChange s with cond := some uptoSmall }

/-- 'usufructlaw30.ForecastTells', WHERE WHAT IT READS IS OF BULK AT MOST 1048576: true; the input reads as it did. -/
def forecastTellsUptoRow : OpenClaim := { program := "ytlidkdhojblkiaadoor", sum := "99f7ab9345c5f58d9ae4792e9d84fb42ca02fae7c3723a6db2e0dae476088137", func := "usufruct/usufructlaw30.ForecastTells", spec := "forecastTells", unfollowed := true, recurses := true, named := ["unicode/utf8.first", "unicode/utf8.acceptRanges"], apart := false, laid := [("unicode/utf8.acceptRanges", laid_unicode_utf8_acceptRanges), ("unicode/utf8.first", laid_unicode_utf8_first)], narrowed := true }
def ForecastTellsUptoSaid : Prop := forecastTellsUptoRow.holds Tryd.pinned (OpenSpec.upto forecastTellsSpec)

/-- 'usufructlaw31.ArchiveAdds', WHERE WHAT IT READS IS OF BULK AT MOST 1048576: true; the input reads as it did. -/
def archiveAddsUptoRow : OpenClaim := { program := "ytlidkdhojblkiaadoor", sum := "99f7ab9345c5f58d9ae4792e9d84fb42ca02fae7c3723a6db2e0dae476088137", func := "usufruct/usufructlaw31.ArchiveAdds", spec := "archiveAdds", inPlace := ["slices.overlaps[usufruct/api.Row]"], unfollowed := true, recurses := true, named := ["unicode/utf8.first", "unicode/utf8.acceptRanges"], apart := false, laid := [("unicode/utf8.acceptRanges", laid_unicode_utf8_acceptRanges), ("unicode/utf8.first", laid_unicode_utf8_first)], narrowed := true }
def ArchiveAddsUptoSaid : Prop := archiveAddsUptoRow.holds Tryd.pinned (OpenSpec.upto archiveAddsSpec)

/-- 'usufructlaw31.ArchiveAsks', WHERE WHAT IT READS IS OF BULK AT MOST 1048576: true; the input reads as it did. -/
def archiveAsksUptoRow : OpenClaim := { program := "ytlidkdhojblkiaadoor", sum := "99f7ab9345c5f58d9ae4792e9d84fb42ca02fae7c3723a6db2e0dae476088137", func := "usufruct/usufructlaw31.ArchiveAsks", spec := "archiveAsks", inPlace := ["slices.overlaps[usufruct/api.Row]"], unfollowed := true, recurses := true, named := ["unicode/utf8.first", "unicode/utf8.acceptRanges"], apart := false, laid := [("unicode/utf8.acceptRanges", laid_unicode_utf8_acceptRanges), ("unicode/utf8.first", laid_unicode_utf8_first)], narrowed := true }
def ArchiveAsksUptoSaid : Prop := archiveAsksUptoRow.holds Tryd.pinned (OpenSpec.upto archiveAsksSpec)

/-- 'usufructlaw13.DefKeys', WHERE WHAT IT READS IS OF BULK AT MOST 1048576: true; the input reads as it did. -/
def defKeysUptoRow : OpenClaim := { program := "ytlidkdhojblkiaadoor", sum := "99f7ab9345c5f58d9ae4792e9d84fb42ca02fae7c3723a6db2e0dae476088137", func := "usufruct/usufructlaw13.DefKeys", spec := "defKeys", inPlace := ["internal/bytealg.CountString", "internal/bytealg.IndexByteString", "internal/bytealg.IndexString"], named := ["unicode/utf8.first", "unicode/utf8.acceptRanges", "internal/bytealg.MaxLen", "internal/strconv.uint64pow10", "math/bits.deBruijn32tab", "math/bits.deBruijn64tab"], apart := false, laid := [("math/bits.deBruijn32tab", laid_math_bits_deBruijn32tab), ("math/bits.deBruijn64tab", laid_math_bits_deBruijn64tab), ("internal/strconv.uint64pow10", laid_internal_strconv_uint64pow10), ("unicode/utf8.acceptRanges", laid_unicode_utf8_acceptRanges), ("unicode/utf8.first", laid_unicode_utf8_first)], narrowed := true }
def DefKeysUptoSaid : Prop := defKeysUptoRow.holds Tryd.pinned (OpenSpec.upto defKeysSpec)

/-- 'usufructlaw05.StoreSafe', WHERE WHAT IT READS IS OF BULK AT MOST 1048576: true; the input reads as it did. -/
def storeSafeUptoRow : OpenClaim := { program := "ytlidkdhojblkiaadoor", sum := "99f7ab9345c5f58d9ae4792e9d84fb42ca02fae7c3723a6db2e0dae476088137", func := "usufruct/usufructlaw05.StoreSafe", spec := "storeSafe", unfollowed := true, recurses := true, named := ["unicode/utf8.first", "unicode/utf8.acceptRanges"], apart := false, laid := [("unicode/utf8.acceptRanges", laid_unicode_utf8_acceptRanges), ("unicode/utf8.first", laid_unicode_utf8_first)], narrowed := true }
def StoreSafeUptoSaid : Prop := storeSafeUptoRow.holds Tryd.pinned (OpenSpec.upto storeSafeSpec)

/-- 'usufructlaw13.DefParties', WHERE WHAT IT READS IS OF BULK AT MOST 1048576: true; the input reads as it did. -/
def defPartiesUptoRow : OpenClaim := { program := "ytlidkdhojblkiaadoor", sum := "99f7ab9345c5f58d9ae4792e9d84fb42ca02fae7c3723a6db2e0dae476088137", func := "usufruct/usufructlaw13.DefParties", spec := "defParties", inPlace := ["internal/bytealg.CountString", "internal/bytealg.IndexByteString", "internal/bytealg.IndexString"], named := ["unicode/utf8.first", "unicode/utf8.acceptRanges", "internal/bytealg.MaxLen", "internal/strconv.uint64pow10", "math/bits.deBruijn32tab", "math/bits.deBruijn64tab"], apart := false, laid := [("math/bits.deBruijn32tab", laid_math_bits_deBruijn32tab), ("math/bits.deBruijn64tab", laid_math_bits_deBruijn64tab), ("internal/strconv.uint64pow10", laid_internal_strconv_uint64pow10), ("unicode/utf8.acceptRanges", laid_unicode_utf8_acceptRanges), ("unicode/utf8.first", laid_unicode_utf8_first)], narrowed := true }
def DefPartiesUptoSaid : Prop := defPartiesUptoRow.holds Tryd.pinned (OpenSpec.upto defPartiesSpec)

/-- 'usufructlaw13.DefOwns', WHERE WHAT IT READS IS OF BULK AT MOST 1048576: true; the input reads as it did. -/
def defOwnsUptoRow : OpenClaim := { program := "ytlidkdhojblkiaadoor", sum := "99f7ab9345c5f58d9ae4792e9d84fb42ca02fae7c3723a6db2e0dae476088137", func := "usufruct/usufructlaw13.DefOwns", spec := "defOwns", inPlace := ["internal/bytealg.CountString", "internal/bytealg.IndexByteString", "internal/bytealg.IndexString"], named := ["unicode/utf8.first", "unicode/utf8.acceptRanges", "internal/bytealg.MaxLen", "internal/strconv.uint64pow10", "math/bits.deBruijn32tab", "math/bits.deBruijn64tab"], apart := false, laid := [("math/bits.deBruijn32tab", laid_math_bits_deBruijn32tab), ("math/bits.deBruijn64tab", laid_math_bits_deBruijn64tab), ("internal/strconv.uint64pow10", laid_internal_strconv_uint64pow10), ("unicode/utf8.acceptRanges", laid_unicode_utf8_acceptRanges), ("unicode/utf8.first", laid_unicode_utf8_first)], narrowed := true }
def DefOwnsUptoSaid : Prop := defOwnsUptoRow.holds Tryd.pinned (OpenSpec.upto defOwnsSpec)

/-- 'usufructlaw05.StoreAgain', WHERE WHAT IT READS IS OF BULK AT MOST 1048576: true; the input reads as it did. -/
def storeAgainUptoRow : OpenClaim := { program := "ytlidkdhojblkiaadoor", sum := "99f7ab9345c5f58d9ae4792e9d84fb42ca02fae7c3723a6db2e0dae476088137", func := "usufruct/usufructlaw05.StoreAgain", spec := "storeAgain", unfollowed := true, recurses := true, named := ["unicode/utf8.first", "unicode/utf8.acceptRanges"], apart := false, laid := [("unicode/utf8.acceptRanges", laid_unicode_utf8_acceptRanges), ("unicode/utf8.first", laid_unicode_utf8_first)], narrowed := true }
def StoreAgainUptoSaid : Prop := storeAgainUptoRow.holds Tryd.pinned (OpenSpec.upto storeAgainSpec)

/-- 'usufructlaw05.StoreBounds', WHERE WHAT IT READS IS OF BULK AT MOST 1048576: true; the input reads as it did. -/
def storeBoundsUptoRow : OpenClaim := { program := "ytlidkdhojblkiaadoor", sum := "99f7ab9345c5f58d9ae4792e9d84fb42ca02fae7c3723a6db2e0dae476088137", func := "usufruct/usufructlaw05.StoreBounds", spec := "storeBounds", unfollowed := true, recurses := true, named := ["unicode/utf8.first", "unicode/utf8.acceptRanges"], apart := false, laid := [("unicode/utf8.acceptRanges", laid_unicode_utf8_acceptRanges), ("unicode/utf8.first", laid_unicode_utf8_first)], narrowed := true }
def StoreBoundsUptoSaid : Prop := storeBoundsUptoRow.holds Tryd.pinned (OpenSpec.upto storeBoundsSpec)

/-- 'usufructlaw05.StorePlays', WHERE WHAT IT READS IS OF BULK AT MOST 1048576: true; the input reads as it did. -/
def storePlaysUptoRow : OpenClaim := { program := "ytlidkdhojblkiaadoor", sum := "99f7ab9345c5f58d9ae4792e9d84fb42ca02fae7c3723a6db2e0dae476088137", func := "usufruct/usufructlaw05.StorePlays", spec := "storePlays", unfollowed := true, recurses := true, named := ["unicode/utf8.first", "unicode/utf8.acceptRanges"], apart := false, laid := [("unicode/utf8.acceptRanges", laid_unicode_utf8_acceptRanges), ("unicode/utf8.first", laid_unicode_utf8_first)], narrowed := true }
def StorePlaysUptoSaid : Prop := storePlaysUptoRow.holds Tryd.pinned (OpenSpec.upto storePlaysSpec)

/-- 'usufructlaw13.DefChecks', WHERE WHAT IT READS IS OF BULK AT MOST 1048576: true; the input reads as it did. -/
def defChecksUptoRow : OpenClaim := { program := "ytlidkdhojblkiaadoor", sum := "99f7ab9345c5f58d9ae4792e9d84fb42ca02fae7c3723a6db2e0dae476088137", func := "usufruct/usufructlaw13.DefChecks", spec := "defChecks", inPlace := ["internal/bytealg.CountString", "internal/bytealg.IndexByteString", "internal/bytealg.IndexString"], unfollowed := true, recurses := true, named := ["unicode/utf8.first", "unicode/utf8.acceptRanges", "internal/bytealg.MaxLen", "internal/strconv.uint64pow10", "math/bits.deBruijn32tab", "math/bits.deBruijn64tab"], apart := false, laid := [("math/bits.deBruijn32tab", laid_math_bits_deBruijn32tab), ("math/bits.deBruijn64tab", laid_math_bits_deBruijn64tab), ("internal/strconv.uint64pow10", laid_internal_strconv_uint64pow10), ("unicode/utf8.acceptRanges", laid_unicode_utf8_acceptRanges), ("unicode/utf8.first", laid_unicode_utf8_first)], narrowed := true }
def DefChecksUptoSaid : Prop := defChecksUptoRow.holds Tryd.pinned (OpenSpec.upto defChecksSpec)

end Rows
end Go.Proofs.YtlidkdhojblkiaaDoor
