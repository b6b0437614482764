/-
  Chapter 36: the listed variables, the arguments.
-/
import Derived.Test.YtgehbkdpodnajaaDoorEvE36
import Derived.Test.YtgehbkdpodnajaaDoorEvCk
import Derived.Test.YtgehbkdpodnajaaDoorEvPick
import Derived.Test.YtgehbkdpodnajaaDoorEvOpen
import Derived.Test.YtgehbkdpodnajaaDoorTie
import Derived.Test.YtgehbkdpodnajaaDoorCards
set_option linter.unusedVariables false
set_option linter.unusedSimpArgs false
set_option maxRecDepth 100000
namespace Go.Proofs.YtgehbkdpodnajaaDoor.Ev
open Go.RowKit Go.Proofs

theorem gPhases : Tryd.prog.globalNamed "usufruct/script.phases" = some 0 := by kernel_rfl
theorem gFirst : Tryd.prog.globalNamed "unicode/utf8.first" = some 1 := by kernel_rfl
theorem gAcc : Tryd.prog.globalNamed "unicode/utf8.acceptRanges" = some 2 := by kernel_rfl
theorem gPow : Tryd.prog.globalNamed "internal/strconv.uint64pow10" = some 4 := by kernel_rfl
theorem tPhases : (Tryd.prog.globals[0]?).map (·.type) = some 83 := by kernel_rfl
theorem tFirst : (Tryd.prog.globals[1]?).map (·.type) = some 96 := by kernel_rfl
theorem tAcc : (Tryd.prog.globals[2]?).map (·.type) = some 99 := by kernel_rfl
theorem tPow : (Tryd.prog.globals[4]?).map (·.type) = some 121 := by kernel_rfl
theorem kPhases : tabOK Tryd.prog 4 83 = true := by kernel_rfl
theorem kFirst : tabOK Tryd.prog 4 96 = true := by kernel_rfl
theorem kAcc : tabOK Tryd.prog 4 99 = true := by kernel_rfl
theorem kPow : tabOK Tryd.prog 4 121 = true := by kernel_rfl
theorem dPhases : dataCells Rows.laid_usufruct_script_phases = some phasesV := by kernel_rfl
theorem dFirst : dataCells Rows.laid_unicode_utf8_first = some tabFirst := by kernel_rfl
theorem dAcc : dataCells Rows.laid_unicode_utf8_acceptRanges = some tabAcc := by kernel_rfl
theorem dPow : dataCells Rows.laid_internal_strconv_uint64pow10 = some (Lib.pow10Tab.map fun z => Value.int .u64 z) := by kernel_rfl
theorem gSize : Tryd.prog.globals.size = 7 := by kernel_rfl
theorem hMaxLen {W : World} (h : W.ShapedOpen Tryd.prog) : ∃ m, LaidG W 3 [.int .i64 m] := by
  have h0 : ((begin Tryd.prog (fun _ _ => 0) default).world.heap[3]?).bind Obj.row? = some (#[.int .i64 0], 3) := by kernel_rfl
  exact laidG_int h (by have := gSize
                        omega) h0 rfl (cell_of_shapedOpen_int h (by have := gSize
                                                                    omega) h0 rfl (by kernel_rfl) (by kernel_rfl) Tryd.underlying3)
def laid36 : List (String × DataW Unit) := [("unicode/utf8.acceptRanges", Rows.laid_unicode_utf8_acceptRanges), ("usufruct/script.phases", Rows.laid_usufruct_script_phases), ("unicode/utf8.first", Rows.laid_unicode_utf8_first)]
def laid36b : List (String × DataW Unit) := [("math/bits.deBruijn32tab", Rows.laid_math_bits_deBruijn32tab), ("math/bits.deBruijn64tab", Rows.laid_math_bits_deBruijn64tab), ("internal/strconv.uint64pow10", Rows.laid_internal_strconv_uint64pow10), ("unicode/utf8.acceptRanges", Rows.laid_unicode_utf8_acceptRanges), ("usufruct/script.phases", Rows.laid_usufruct_script_phases), ("unicode/utf8.first", Rows.laid_unicode_utf8_first)]
theorem plain36 : (laid36.all fun x => x.2.handleName?.isNone) = true := by kernel_rfl
theorem plain36b : (laid36b.all fun x => x.2.handleName?.isNone) = true := by kernel_rfl
theorem glob36_ok {W : World} (h : laidMetH Tryd.prog laid36 W) (hs : W.ShapedOpen Tryd.prog) : ∃ m, GlobR (World.ctx W) (E36 false m).glob := by
  rw [MakeChecks.laidMetH_plain _ _ _ plain36] at h
  obtain ⟨ps, ⟨g2, t2, cs2, f2, p2, q2, hg2, ht2, hv2, hd2, ⟨g1, t1, cs1, f1, p1, q1, hg1, ht1, hv1, hd1, ⟨g0, t0, cs0, f0, p0, q0, hg0, ht0, hv0, hd0, _, _⟩, _⟩, _⟩, _⟩ := h
  obtain rfl := Option.some.inj (gFirst.symm.trans hg0)
  obtain rfl := Option.some.inj (gPhases.symm.trans hg1)
  obtain rfl := Option.some.inj (gAcc.symm.trans hg2)
  obtain rfl := Option.some.inj (tFirst.symm.trans ht0)
  obtain rfl := Option.some.inj (tPhases.symm.trans ht1)
  obtain rfl := Option.some.inj (tAcc.symm.trans ht2)
  have h0 := laidG_of hg0 hv0 hd0 kFirst dFirst (by kernel_rfl)
  have h1 := laidG_of hg1 hv1 hd1 kPhases dPhases (by kernel_rfl)
  have h2 := laidG_of hg2 hv2 hd2 kAcc dAcc (by kernel_rfl)
  obtain ⟨m, h3⟩ := hMaxLen hs
  refine ⟨m, fun g cs hg => ?_⟩
  have hg' : glob36 false m g = some cs := hg
  unfold glob36 at hg'
  split at hg'
  · cases hg'; exact ⟨h1.1, by rw [List.length_map]; exact h1.2⟩
  · cases hg'; exact ⟨h0.1, by rw [List.length_map]; exact h0.2⟩
  · cases hg'; exact ⟨h2.1, by rw [List.length_map]; exact h2.2⟩
  · cases hg'; exact h3
  · cases hg'
  · cases hg'
theorem glob36b_ok {W : World} (h : laidMetH Tryd.prog laid36b W) (hs : W.ShapedOpen Tryd.prog) : ∃ m, GlobR (World.ctx W) (E36 true m).glob := by
  rw [MakeChecks.laidMetH_plain _ _ _ plain36b] at h
  obtain ⟨ps, ⟨_, _, _, _, _, _, _, _, _, _, ⟨_, _, _, _, _, _, _, _, _, _, ⟨g4, t4, cs4, f4, p4, q4, hg4, ht4, hv4, hd4, ⟨g2, t2, cs2, f2, p2, q2, hg2, ht2, hv2, hd2, ⟨g1, t1, cs1, f1, p1, q1, hg1, ht1, hv1, hd1, ⟨g0, t0, cs0, f0, p0, q0, hg0, ht0, hv0, hd0, _, _⟩, _⟩, _⟩, _⟩, _⟩, _⟩, _⟩ := h
  obtain rfl := Option.some.inj (gFirst.symm.trans hg0)
  obtain rfl := Option.some.inj (gPhases.symm.trans hg1)
  obtain rfl := Option.some.inj (gAcc.symm.trans hg2)
  obtain rfl := Option.some.inj (gPow.symm.trans hg4)
  obtain rfl := Option.some.inj (tFirst.symm.trans ht0)
  obtain rfl := Option.some.inj (tPhases.symm.trans ht1)
  obtain rfl := Option.some.inj (tAcc.symm.trans ht2)
  obtain rfl := Option.some.inj (tPow.symm.trans ht4)
  have h0 := laidG_of hg0 hv0 hd0 kFirst dFirst (by kernel_rfl)
  have h1 := laidG_of hg1 hv1 hd1 kPhases dPhases (by kernel_rfl)
  have h2 := laidG_of hg2 hv2 hd2 kAcc dAcc (by kernel_rfl)
  have h4 := laidG_of hg4 hv4 hd4 kPow dPow (by kernel_rfl)
  obtain ⟨m, h3⟩ := hMaxLen hs
  refine ⟨m, fun g cs hg => ?_⟩
  have hg' : glob36 true m g = some cs := hg
  unfold glob36 at hg'
  split at hg'
  · cases hg'; exact ⟨h1.1, by rw [List.length_map]; exact h1.2⟩
  · cases hg'; exact ⟨h0.1, by rw [List.length_map]; exact h0.2⟩
  · cases hg'; exact ⟨h2.1, by rw [List.length_map]; exact h2.2⟩
  · cases hg'; exact h3
  · cases hg'; exact ⟨h4.1, by rw [List.length_map]; exact h4.2⟩
  · cases hg'

/-! ### the arguments -/
theorem open_term {d : Nat} {l : List AV} (h : Reads Tryd.prog (d + 2) 23 l) : ∃ s : TermT, l = s.cells := by
  obtain ⟨ls, rfl, hh⟩ := reads_struct Tryd.underlying23 h
  obtain ⟨_, _, rfl, h1, _, _, rfl, h2, _, _, rfl, h3, _, _, rfl, h4, _, _, rfl, h5, rfl⟩ := hh
  obtain ⟨a, rfl⟩ := reads_bool Tryd.underlying4 h1
  obtain ⟨b, rfl, _⟩ := reads_string Tryd.underlying9 h2
  obtain ⟨c, rfl, _⟩ := reads_int Tryd.underlying3 h3
  obtain ⟨e, rfl, _⟩ := reads_int Tryd.underlying3 h4
  obtain ⟨g, rfl, _⟩ := reads_string Tryd.underlying9 h5
  exact ⟨⟨a, b, c, e, g⟩, rfl⟩
theorem open_saga {d : Nat} {l : List AV} (h : Reads Tryd.prog (d + 2) 25 l) : ∃ s : SagaT, l = s.cells := by
  obtain ⟨ls, rfl, hh⟩ := reads_struct Tryd.underlying25 h
  obtain ⟨_, _, rfl, h1, _, _, rfl, h2, _, _, rfl, h3, _, _, rfl, h4, _, _, rfl, h5, _, _, rfl, h6, _, _, rfl, h7, _, _, rfl, h8, _, _, rfl, h9, rfl⟩ := hh
  obtain ⟨a, rfl, _⟩ := reads_int Tryd.underlying3 h1
  obtain ⟨b, rfl, _⟩ := reads_string Tryd.underlying9 h2
  obtain ⟨c, rfl, _⟩ := reads_int Tryd.underlying3 h3
  obtain ⟨e, rfl, _⟩ := reads_int Tryd.underlying3 h4
  obtain ⟨g, rfl, _⟩ := reads_int Tryd.underlying3 h5
  obtain ⟨i, rfl, _⟩ := reads_int Tryd.underlying3 h6
  obtain ⟨j, rfl⟩ := reads_bool Tryd.underlying4 h7
  obtain ⟨k, rfl, _⟩ := reads_int Tryd.underlying3 h8
  obtain ⟨n, rfl, _⟩ := reads_int Tryd.underlying3 h9
  exact ⟨⟨a, b, c, e, g, i, j, k, n⟩, rfl⟩
theorem cellsTerm : Tryd.prog.cellsOf 23 = 5 := by kernel_rfl
theorem cellsSaga : Tryd.prog.cellsOf 25 = 9 := by kernel_rfl
theorem arg_term {a : AV} (h : ArgOf Tryd.prog 23 a) : ∃ x : TermT, a = .agg x.cells := by
  unfold ArgOf at h
  rw [Tryd.underlying23] at h
  obtain ⟨l, rfl, h⟩ := h
  obtain ⟨x, rfl⟩ := open_term h
  exact ⟨x, rfl⟩
theorem arg_saga {a : AV} (h : ArgOf Tryd.prog 25 a) : ∃ x : SagaT, a = .agg x.cells := by
  unfold ArgOf at h
  rw [Tryd.underlying25] at h
  obtain ⟨l, rfl, h⟩ := h
  obtain ⟨x, rfl⟩ := open_saga h
  exact ⟨x, rfl⟩
theorem arg_terms {a : AV} (h : ArgOf Tryd.prog 28 a) : ∃ x : Sl TermT, a = x.av 5 TermT.cells ∧ x.list.length ≤ maxLen := by
  unfold ArgOf at h
  rw [Tryd.underlying28] at h
  obtain ⟨s, e, b3, _⟩ := reads_slice (f := TermT.cells) (ok := fun _ => True) Tryd.underlying28 cellsTerm (fun c hc => (open_term hc).imp fun _ h => ⟨h, trivial⟩) h
  cases e
  exact ⟨s, rfl, b3⟩
theorem arg_sagas {a : AV} (h : ArgOf Tryd.prog 31 a) : ∃ x : Sl SagaT, a = x.av 9 SagaT.cells ∧ x.list.length ≤ maxLen := by
  unfold ArgOf at h
  rw [Tryd.underlying31] at h
  obtain ⟨s, e, b3, _⟩ := reads_slice (f := SagaT.cells) (ok := fun _ => True) Tryd.underlying31 cellsSaga (fun c hc => (open_saga hc).imp fun _ h => ⟨h, trivial⟩) h
  cases e
  exact ⟨s, rfl, b3⟩
theorem arg_string {a : AV} (h : ArgOf Tryd.prog 9 a) : ∃ s, a = vs s ∧ s.size ≤ maxLen := by
  unfold ArgOf at h
  rw [Tryd.underlying9] at h
  obtain ⟨n, h1, h2⟩ := reads_string Tryd.underlying9 h
  cases h1
  exact ⟨n, rfl, h2⟩
theorem awake36P (b : Bool) (m : Int) : callP (E36 b m) f_usufructlaw36_awake [] = some (vb true) := by
  have h := awake36 b m
  cases k : callF (E36 b m) 60 f_usufructlaw36_awake [] [] [] with
  | none => rw [k] at h; cases h
  | some p =>
    rw [k] at h
    refine callP_of 60 ?_
    rw [k]
    obtain ⟨r, st⟩ := p
    simp only [Option.map_some, Option.some.injEq] at h
    subst h
    rfl
theorem std36 (b : Bool) (m : Int) : Std (E36 b m) fns := ⟨by kernel_rfl, fun f fd h => by
  show prim36 b f = none
  have h2 : fns 52 = none ∧ fns 29 = none ∧ fns 56 = none ∧ fns 81 = none := ⟨by kernel_rfl, by kernel_rfl, by kernel_rfl, by kernel_rfl⟩
  unfold prim36
  split
  · rw [h2.1] at h; cases h
  · rw [h2.2.1] at h; cases h
  · rw [h2.2.2.1] at h; cases h
  · rw [h2.2.2.2] at h; cases h
  · rfl⟩
theorem prim_valid (b : Bool) (m : Int) : (E36 b m).prim f_utf8_ValidString = some pValid := by kernel_rfl
theorem valid36 (b : Bool) (m : Int) (s : ByteArray) (hs : s.size < 9223372036854775807) : callP (E36 b m) f_utf8_ValidString [vs s] = some (vb (Lib.validD s.data.toList)) := by
  unfold callP
  rw [call_prim (prim_valid b m)]
  simp only [pValid]
  rw [if_pos (by omega)]
  rfl
theorem law36 (n : List TypeId) (f : Nat) (law : ∀ m avs, ArgsOf Tryd.prog n avs → callP (E36 false m) f avs = some (.v (.bool true))) (W : World) (hl : laidMetH Tryd.prog laid36 W) (hs : W.ShapedOpen Tryd.prog) :
    ∃ E : Prog, GRo E.glob ∧ PrimOK Tryd.prog E ∧ PrimSc E ∧ (∀ f fd, E.fn f = some fd → FnChk Tryd.prog f fd) ∧ GlobR (World.ctx W) E.glob ∧ ∀ avs, ArgsOf Tryd.prog n avs → callP E f avs = some (.v (.bool true)) := by
  obtain ⟨m, hg⟩ := glob36_ok hl hs
  exact ⟨E36 false m, gro36 false m, prim36_ok false m, prim36_sc false m, fns_ok, hg, law m⟩
theorem law36b (n : List TypeId) (f : Nat) (law : ∀ m avs, ArgsOf Tryd.prog n avs → callP (E36 true m) f avs = some (.v (.bool true))) (W : World) (hl : laidMetH Tryd.prog laid36b W) (hs : W.ShapedOpen Tryd.prog) :
    ∃ E : Prog, GRo E.glob ∧ PrimOK Tryd.prog E ∧ PrimSc E ∧ (∀ f fd, E.fn f = some fd → FnChk Tryd.prog f fd) ∧ GlobR (World.ctx W) E.glob ∧ ∀ avs, ArgsOf Tryd.prog n avs → callP E f avs = some (.v (.bool true)) := by
  obtain ⟨m, hg⟩ := glob36b_ok hl hs
  exact ⟨E36 true m, gro36 true m, prim36_ok true m, prim36_sc true m, fns_ok, hg, law m⟩
end Go.Proofs.YtgehbkdpodnajaaDoor.Ev
