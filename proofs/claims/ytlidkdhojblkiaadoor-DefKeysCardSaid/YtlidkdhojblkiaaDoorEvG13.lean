/-
  Chapter 13: the listed variables, the arguments.
-/
import Derived.Test.YtlidkdhojblkiaaDoorEvE13
import Derived.Test.YtlidkdhojblkiaaDoorEvCk
import Derived.Test.YtlidkdhojblkiaaDoorEvDef
import Derived.Test.YtlidkdhojblkiaaDoorEvOpen
import Derived.Test.YtlidkdhojblkiaaDoorTie
import Derived.Test.YtlidkdhojblkiaaDoorCards
set_option linter.unusedVariables false
set_option linter.unusedSimpArgs false
set_option maxRecDepth 100000
namespace Go.Proofs.YtlidkdhojblkiaaDoor.Ev
open Go.RowKit Go.Proofs

theorem gFirst : Tryd.prog.globalNamed "unicode/utf8.first" = some 0 := by kernel_rfl
theorem gAcc : Tryd.prog.globalNamed "unicode/utf8.acceptRanges" = some 1 := by kernel_rfl
theorem gPow : Tryd.prog.globalNamed "internal/strconv.uint64pow10" = some 2 := by kernel_rfl
theorem tFirst : (Tryd.prog.globals[0]?).map (·.type) = some 188 := by kernel_rfl
theorem tAcc : (Tryd.prog.globals[1]?).map (·.type) = some 191 := by kernel_rfl
theorem tPow : (Tryd.prog.globals[2]?).map (·.type) = some 207 := by kernel_rfl
theorem kFirst : tabOK Tryd.prog 4 188 = true := by kernel_rfl
theorem kAcc : tabOK Tryd.prog 4 191 = true := by kernel_rfl
theorem kPow : tabOK Tryd.prog 4 207 = true := by kernel_rfl
theorem dFirst : dataCells Rows.laid_unicode_utf8_first = some tabFirst := by kernel_rfl
theorem dAcc : dataCells Rows.laid_unicode_utf8_acceptRanges = some tabAcc := by kernel_rfl
theorem dPow : dataCells Rows.laid_internal_strconv_uint64pow10 = some (Lib.pow10Tab.map fun z => Value.int .u64 z) := by kernel_rfl
theorem hMaxLen {W : World} (h : W.ShapedOpen Tryd.prog) : ∃ m, LaidG W 3 [.int .i64 m] := by
  have h0 : ((begin Tryd.prog (fun _ _ => 0) default).world.heap[3]?).bind Obj.row? = some (#[.int .i64 0], 3) := by kernel_rfl
  exact laidG_int h (by have : Tryd.prog.globals.size = 6 := by kernel_rfl
                        omega) h0 rfl (cell_of_shapedOpen_int h (by have : Tryd.prog.globals.size = 6 := by kernel_rfl
                                                                    omega) h0 rfl (by kernel_rfl) (by kernel_rfl) Tryd.underlying3)
def laid13 : List (String × DataW Unit) := [("math/bits.deBruijn32tab", Rows.laid_math_bits_deBruijn32tab), ("math/bits.deBruijn64tab", Rows.laid_math_bits_deBruijn64tab), ("internal/strconv.uint64pow10", Rows.laid_internal_strconv_uint64pow10), ("unicode/utf8.acceptRanges", Rows.laid_unicode_utf8_acceptRanges), ("unicode/utf8.first", Rows.laid_unicode_utf8_first)]
theorem plain13 : (laid13.all fun x => x.2.handleName?.isNone) = true := by kernel_rfl
theorem glob13_ok {W : World} (h : laidMetH Tryd.prog laid13 W) (hs : W.ShapedOpen Tryd.prog) : ∃ m, GlobR (World.ctx W) (E13 m).glob := by
  rw [MakeChecks.laidMetH_plain _ _ _ plain13] at h
  obtain ⟨ps, ⟨_, _, _, _, _, _, _, _, _, _, ⟨_, _, _, _, _, _, _, _, _, _, ⟨g2, t2, cs2, f2, p2, q2, hg2, ht2, hv2, hd2, ⟨g1, t1, cs1, f1, p1, q1, hg1, ht1, hv1, hd1, ⟨g0, t0, cs0, f0, p0, q0, hg0, ht0, hv0, hd0, _, _⟩, _⟩, _⟩, _⟩, _⟩, _, _⟩ := h
  obtain rfl := Option.some.inj (gFirst.symm.trans hg0)
  obtain rfl := Option.some.inj (gAcc.symm.trans hg1)
  obtain rfl := Option.some.inj (gPow.symm.trans hg2)
  obtain rfl := Option.some.inj (tFirst.symm.trans ht0)
  obtain rfl := Option.some.inj (tAcc.symm.trans ht1)
  obtain rfl := Option.some.inj (tPow.symm.trans ht2)
  have h0 := laidG_of hg0 hv0 hd0 kFirst dFirst (by kernel_rfl)
  have h1 := laidG_of hg1 hv1 hd1 kAcc dAcc (by kernel_rfl)
  have h2 := laidG_of hg2 hv2 hd2 kPow dPow (by kernel_rfl)
  obtain ⟨m, h3⟩ := hMaxLen hs
  refine ⟨m, fun g cs hg => ?_⟩
  have hg' : glob13 m g = some cs := hg
  unfold glob13 at hg'
  split at hg'
  · cases hg'; exact ⟨h0.1, by rw [List.length_map]; exact h0.2⟩
  · cases hg'; exact ⟨h1.1, by rw [List.length_map]; exact h1.2⟩
  · cases hg'; exact ⟨h2.1, by rw [List.length_map]; exact h2.2⟩
  · cases hg'; exact h3
  · cases hg'

/-! ### the arguments -/
def PlanT.ok (p : PlanT) : Prop := I64 p.ret ∧ I64 p.base ∧ I64 p.fac ∧ I64 p.cap
def StepT.ok (s : StepT) : Prop := s.name.size ≤ maxLen ∧ s.party.size ≤ maxLen ∧ I64 s.timeout ∧ s.tr.ok ∧ s.un.ok ∧ I64 s.prio
def DefT.ok (d : DefT) : Prop := d.name.size ≤ maxLen ∧ I64 d.deadline ∧ d.steps.list.length ≤ maxLen ∧ ∀ x, x ∈ d.steps.list → x.ok
theorem open_plan {d : Nat} {l : List AV} (h : Reads Tryd.prog (d + 2) 69 l) : ∃ p : PlanT, l = p.cells ∧ p.ok := by
  obtain ⟨ls, rfl, hh⟩ := reads_struct Tryd.underlying69 h
  obtain ⟨_, _, rfl, h1, _, _, rfl, h2, _, _, rfl, h3, _, _, rfl, h4, rfl⟩ := hh
  obtain ⟨a, rfl, b1⟩ := reads_int Tryd.underlying3 h1
  obtain ⟨b, rfl, b2⟩ := reads_int Tryd.underlying3 h2
  obtain ⟨c, rfl, b3⟩ := reads_int Tryd.underlying3 h3
  obtain ⟨e, rfl, b4⟩ := reads_int Tryd.underlying3 h4
  exact ⟨⟨a, b, c, e⟩, rfl, b1, b2, b3, b4⟩
theorem open_step {d : Nat} {l : List AV} (h : Reads Tryd.prog (d + 3) 71 l) : ∃ s : StepT, l = s.cells ∧ s.ok := by
  obtain ⟨ls, rfl, hh⟩ := reads_struct Tryd.underlying71 h
  obtain ⟨_, _, rfl, h1, _, _, rfl, h2, _, _, rfl, h3, _, _, rfl, h4, _, _, rfl, h5, _, _, rfl, h6, rfl⟩ := hh
  obtain ⟨a, rfl, b1⟩ := reads_string Tryd.underlying9 h1
  obtain ⟨b, rfl, b2⟩ := reads_string Tryd.underlying9 h2
  obtain ⟨c, rfl, b3⟩ := reads_int Tryd.underlying3 h3
  obtain ⟨p, rfl, b4⟩ := open_plan h4
  obtain ⟨q, rfl, b5⟩ := open_plan h5
  obtain ⟨e, rfl, b6⟩ := reads_int Tryd.underlying3 h6
  exact ⟨⟨a, b, c, p, q, e⟩, rfl, b1, b2, b3, b4, b5, b6⟩
theorem cells71 : Tryd.prog.cellsOf 71 = 12 := by kernel_rfl
theorem open_def {d : Nat} {l : List AV} (h : Reads Tryd.prog (d + 5) 24 l) : ∃ x : DefT, l = x.cells ∧ x.ok := by
  obtain ⟨ls, rfl, hh⟩ := reads_struct Tryd.underlying24 h
  obtain ⟨_, _, rfl, h1, _, _, rfl, h2, _, _, rfl, h3, rfl⟩ := hh
  obtain ⟨a, rfl, b1⟩ := reads_string Tryd.underlying9 h1
  obtain ⟨b, rfl, b2⟩ := reads_int Tryd.underlying3 h2
  obtain ⟨s, rfl, b3, b4⟩ := reads_slice (f := StepT.cells) (ok := StepT.ok) Tryd.underlying22 cells71 (fun c hc => open_step hc) h3
  exact ⟨⟨a, b, s⟩, rfl, b1, b2, b3, b4⟩
theorem arg_def {a : AV} (h : ArgOf Tryd.prog 24 a) : ∃ x : DefT, a = .agg x.cells ∧ x.ok := by
  unfold ArgOf at h
  rw [Tryd.underlying24] at h
  obtain ⟨l, rfl, h⟩ := h
  obtain ⟨x, rfl, hx⟩ := open_def h
  exact ⟨x, rfl, hx⟩
theorem awake13P (m : Int) : callP (E13 m) f_usufructlaw13_awake [] = some (vb true) := by
  have h := awake13 m
  cases k : callF (E13 m) 40 f_usufructlaw13_awake [] [] [] with
  | none => rw [k] at h; cases h
  | some p =>
    rw [k] at h
    refine callP_of 40 ?_
    rw [k]
    obtain ⟨r, st⟩ := p
    simp only [Option.map_some, Option.some.injEq] at h
    subst h
    rfl
theorem std13 (m : Int) : Std (E13 m) fns := ⟨by kernel_rfl, fun f fd h => by
  show prim13 f = none
  have h2 : fns 84 = none ∧ fns 86 = none ∧ fns 128 = none := ⟨by kernel_rfl, by kernel_rfl, by kernel_rfl⟩
  unfold prim13
  split
  · rw [h2.1] at h; cases h
  · rw [h2.2.1] at h; cases h
  · rw [h2.2.2] at h; cases h
  · rfl⟩
theorem arg_int {a : AV} (h : ArgOf Tryd.prog 3 a) : ∃ n, a = vi n ∧ I64 n := by
  unfold ArgOf at h
  rw [Tryd.underlying3] at h
  obtain ⟨n, h1, h2⟩ := reads_int Tryd.underlying3 h
  cases h1
  exact ⟨n, rfl, h2⟩
theorem arg_string {a : AV} (h : ArgOf Tryd.prog 9 a) : ∃ s, a = vs s ∧ s.size ≤ maxLen := by
  unfold ArgOf at h
  rw [Tryd.underlying9] at h
  obtain ⟨n, h1, h2⟩ := reads_string Tryd.underlying9 h
  cases h1
  exact ⟨n, rfl, h2⟩
theorem arg_bool {a : AV} (h : ArgOf Tryd.prog 4 a) : ∃ b, a = vb b := by
  unfold ArgOf at h
  rw [Tryd.underlying4] at h
  obtain ⟨n, h1⟩ := reads_bool Tryd.underlying4 h
  cases h1
  exact ⟨n, rfl⟩
theorem law13 (n : List TypeId) (f : Nat) (law : ∀ m avs, ArgsOf Tryd.prog n avs → callP (E13 m) f avs = some (.v (.bool true))) (W : World) (hl : laidMetH Tryd.prog laid13 W) (hs : W.ShapedOpen Tryd.prog) :
    ∃ E : Prog, GRo E.glob ∧ PrimOK Tryd.prog E ∧ PrimSc E ∧ (∀ f fd, E.fn f = some fd → FnChk Tryd.prog f fd) ∧ GlobR (World.ctx W) E.glob ∧ ∀ avs, ArgsOf Tryd.prog n avs → callP E f avs = some (.v (.bool true)) := by
  obtain ⟨m, hg⟩ := glob13_ok hl hs
  exact ⟨E13 m, gro13 m, prim13_ok m, prim13_sc m, fns_ok, hg, law m⟩
end Go.Proofs.YtlidkdhojblkiaaDoor.Ev
