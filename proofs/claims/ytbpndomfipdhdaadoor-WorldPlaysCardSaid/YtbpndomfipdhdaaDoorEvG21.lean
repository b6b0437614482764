/-
  Chapter 21: the listed variables, the arguments, the law WorldOnce.
-/
import Derived.Test.YtbpndomfipdhdaaDoorEvPr
import Derived.Test.YtbpndomfipdhdaaDoorEvIR
import Derived.Test.YtbpndomfipdhdaaDoorEvCk
import Derived.Test.YtbpndomfipdhdaaDoorEvDelR
import Derived.Test.YtbpndomfipdhdaaDoorEvSl
import Derived.Test.YtbpndomfipdhdaaDoorEvWo12
import Derived.Test.YtbpndomfipdhdaaDoorEvOpen
import Derived.Test.YtbpndomfipdhdaaDoorTie
import Derived.Test.YtbpndomfipdhdaaDoorCards
import Derived.Lib.ValidU
set_option linter.unusedVariables false
set_option linter.unusedSimpArgs false
set_option maxRecDepth 100000
namespace Go.Proofs.YtbpndomfipdhdaaDoor.Ev
open Go.RowKit Go.Proofs Go.ChangeShapes Go.WideShapes
def glob21 (m : Int) : Nat → Option (List AV)
  | 0 => some (tabFirst.map AV.v)
  | 1 => some (tabAcc.map AV.v)
  | 2 => some ((Lib.pow10Tab.map fun z => Value.int .u64 z).map AV.v)
  | 3 => some [.v (.int .i64 m)]
  | _ => none
def prim21 : Nat → Option (List AV → Store → Option (AV × Store))
  | 47 => some (pDelete 6)
  | 48 => some (pDelete 5)
  | 50 => some pValid
  | 54 => some pItoa
  | 63 => some pSplit
  | _ => none
def E21 (m : Int) : Prog := ⟨glob21 m, fns, prim21⟩
theorem awake21 (m : Int) : (callF (E21 m) 60 f_usufructlaw21_awake [] [] []).map (·.1) = some (.v (.bool true)) := by kernel_rfl
theorem prim21_ok (m : Int) : PrimOK Go.Proofs.Tryd.prog (E21 m) := by
  intro f p xs C r st' cargs hp h hO hg hv
  have hp' : prim21 f = some p := hp
  unfold prim21 at hp'
  split at hp'
  · cases hp'; exact EvDelC.ok xs C r st' cargs h hO hv
  · cases hp'; exact EvDelR.ok xs C r st' cargs h hO hv
  · cases hp'; exact ok_valid (G := (E21 m).glob) rfl rfl xs C r st' cargs h hO hg hv
  · cases hp'; exact ok_itoa (G := (E21 m).glob) rfl xs C r st' cargs h hO hg hv
  · cases hp'; exact ok_split (G := (E21 m).glob) (m := m) rfl xs C r st' cargs h hO hg hv
  · cases hp'
theorem prim21_sc (m : Int) : PrimSc (E21 m) := by
  intro f p xs st r st' bases hp h
  have hp' : prim21 f = some p := hp
  unfold prim21 at hp'
  split at hp'
  · cases hp'; exact del_grows h
  · cases hp'; exact del_grows h
  · cases hp'
    have := keep_valid _ _ _ _ h
    subst this
    exact Grows.refl _
  · cases hp'
    have := keep_itoa _ _ _ _ h
    subst this
    exact Grows.refl _
  · cases hp'
    have := keep_split _ _ _ _ h
    subst this
    exact Grows.refl _
  · cases hp'
theorem belows_v : ∀ l : List Value, belows 0 (l.map AV.v) = true
  | [] => rfl
  | x :: l => by simp only [List.map_cons, belows, AV.under, belows_v l, Bool.and_self]
theorem gro21 (m : Int) : GRo (E21 m).glob := by
  intro g cs h
  have h' : glob21 m g = some cs := h
  unfold glob21 at h'
  split at h'
  · cases h'; exact belows_v _
  · cases h'; exact belows_v _
  · cases h'; exact belows_v _
  · cases h'; rfl
  · cases h'
end Go.Proofs.YtbpndomfipdhdaaDoor.Ev
set_option linter.unusedVariables false
set_option linter.unusedSimpArgs false
set_option maxRecDepth 100000
namespace Go.Proofs.YtbpndomfipdhdaaDoor.Ev
open Go.RowKit Go.Proofs Go.ChangeShapes Go.WideShapes
theorem gFirst : Tryd.prog.globalNamed "unicode/utf8.first" = some 0 := by kernel_rfl
theorem gAcc : Tryd.prog.globalNamed "unicode/utf8.acceptRanges" = some 1 := by kernel_rfl
theorem gPow : Tryd.prog.globalNamed "internal/strconv.uint64pow10" = some 2 := by kernel_rfl
theorem tFirst : (Tryd.prog.globals[0]?).map (·.type) = some 110 := by kernel_rfl
theorem tAcc : (Tryd.prog.globals[1]?).map (·.type) = some 113 := by kernel_rfl
theorem tPow : (Tryd.prog.globals[2]?).map (·.type) = some 130 := by kernel_rfl
theorem kFirst : tabOK Tryd.prog 4 110 = true := by kernel_rfl
theorem kAcc : tabOK Tryd.prog 4 113 = true := by kernel_rfl
theorem kPow : tabOK Tryd.prog 4 130 = true := by kernel_rfl
theorem dFirst : dataCells Rows.laid_unicode_utf8_first = some tabFirst := by kernel_rfl
theorem dAcc : dataCells Rows.laid_unicode_utf8_acceptRanges = some tabAcc := by kernel_rfl
theorem dPow : dataCells Rows.laid_internal_strconv_uint64pow10 = some (Lib.pow10Tab.map fun z => Value.int .u64 z) := by kernel_rfl
theorem gSize : Tryd.prog.globals.size = 6 := by kernel_rfl
theorem hMaxLen {W : World} (h : W.ShapedOpen Tryd.prog) : ∃ m, LaidG W 3 [.int .i64 m] := by
  have h0 : ((begin Tryd.prog (fun _ _ => 0) default).world.heap[3]?).bind Obj.row? = some (#[.int .i64 0], 3) := by kernel_rfl
  exact laidG_int h (by have := gSize
                        omega) h0 rfl (cell_of_shapedOpen_int h (by have := gSize
                                                                    omega) h0 rfl (by kernel_rfl) (by kernel_rfl) Tryd.underlying3)
def laid21 : List (String × DataW Unit) := [("math/bits.deBruijn32tab", Rows.laid_math_bits_deBruijn32tab), ("math/bits.deBruijn64tab", Rows.laid_math_bits_deBruijn64tab), ("internal/strconv.uint64pow10", Rows.laid_internal_strconv_uint64pow10), ("unicode/utf8.acceptRanges", Rows.laid_unicode_utf8_acceptRanges), ("unicode/utf8.first", Rows.laid_unicode_utf8_first)]
theorem plain21 : (laid21.all fun x => x.2.handleName?.isNone) = true := by kernel_rfl
theorem glob21_ok {W : World} (h : laidMetH Tryd.prog laid21 W) (hs : W.ShapedOpen Tryd.prog) : ∃ m, GlobR (World.ctx W) (E21 m).glob := by
  rw [MakeChecks.laidMetH_plain _ _ _ plain21] at h
  obtain ⟨ps, ⟨_, _, _, _, _, _, _, _, _, _, ⟨_, _, _, _, _, _, _, _, _, _, ⟨g2, t2, cs2, f2, p2, q2, hg2, ht2, hv2, hd2, ⟨g1, t1, cs1, f1, p1, q1, hg1, ht1, hv1, hd1, ⟨g0, t0, cs0, f0, p0, q0, hg0, ht0, hv0, hd0, _, _⟩, _⟩, _⟩, _⟩, _⟩, _, _⟩ := h
  obtain rfl := Option.some.inj (gFirst.symm.trans hg0)
  obtain rfl := Option.some.inj (gAcc.symm.trans hg1)
  obtain rfl := Option.some.inj (gPow.symm.trans hg2)
  obtain rfl := Option.some.inj (tFirst.symm.trans ht0)
  obtain rfl := Option.some.inj (tAcc.symm.trans ht1)
  obtain rfl := Option.some.inj (tPow.symm.trans ht2)
  have h0 := laidG_of hg0 hv0 hd0 kFirst dFirst (by kernel_rfl)
  have h1 := laidG_of hg1 hv1 hd1 kAcc dAcc (by kernel_rfl)
  have h2 := laidG_of hg2 hv2 hd2 kPow dPow (by kernel_rfl)
  obtain ⟨m, h3⟩ := hMaxLen hs
  refine ⟨m, fun g cs hg => ?_⟩
  have hg' : glob21 m g = some cs := hg
  unfold glob21 at hg'
  split at hg'
  · cases hg'; exact ⟨h0.1, by rw [List.length_map]; exact h0.2⟩
  · cases hg'; exact ⟨h1.1, by rw [List.length_map]; exact h1.2⟩
  · cases hg'; exact ⟨h2.1, by rw [List.length_map]; exact h2.2⟩
  · cases hg'; exact h3
  · cases hg'
/-! ### the arguments -/
theorem cells71 : Tryd.prog.cellsOf 71 = 6 := by kernel_rfl
theorem cells38 : Tryd.prog.cellsOf 38 = 5 := by kernel_rfl
theorem open_cmd {d : Nat} {l : List AV} (h : Reads Tryd.prog (d + 2) 71 l) : ∃ s : CmdT, l = s.cells ∧ True := by
  obtain ⟨ls, rfl, hh⟩ := reads_struct Tryd.underlying71 h
  obtain ⟨_, _, rfl, h1, _, _, rfl, h2, _, _, rfl, h3, _, _, rfl, h4, _, _, rfl, h5, _, _, rfl, h6, rfl⟩ := hh
  obtain ⟨a, rfl, _⟩ := reads_int Tryd.underlying3 h1
  obtain ⟨b, rfl, _⟩ := reads_int Tryd.underlying3 h2
  obtain ⟨c, rfl⟩ := reads_bool Tryd.underlying4 h3
  obtain ⟨e, rfl, _⟩ := reads_int Tryd.underlying3 h4
  obtain ⟨g, rfl, hg⟩ := reads_string Tryd.underlying9 h5
  obtain ⟨i, rfl, _⟩ := reads_string Tryd.underlying9 h6
  exact ⟨⟨a, b, c, e, g, i⟩, rfl, trivial⟩
theorem open_act {d : Nat} {l : List AV} (h : Reads Tryd.prog (d + 4) 38 l) : ∃ s : ActT, l = s.cells ∧ True := by
  obtain ⟨ls, rfl, hh⟩ := reads_struct Tryd.underlying38 h
  obtain ⟨_, _, rfl, h1, _, _, rfl, h2, _, _, rfl, h3, _, _, rfl, h4, _, _, rfl, h5, rfl⟩ := hh
  obtain ⟨a, rfl, ha⟩ := reads_int Tryd.underlying3 h1
  obtain ⟨b, rfl, hb⟩ := reads_int Tryd.underlying3 h2
  obtain ⟨x, rfl, _, _⟩ := reads_slice (f := CmdT.cells) (ok := fun _ => True) Tryd.underlying26 cells71 (fun c hc => open_cmd hc) h3
  obtain ⟨c, rfl⟩ := reads_bool Tryd.underlying4 h4
  obtain ⟨e, rfl⟩ := reads_bool Tryd.underlying4 h5
  exact ⟨⟨a, b, x, c, e⟩, rfl, trivial⟩
theorem arg_acts {a : AV} (h : ArgOf Tryd.prog 22 a) : ∃ x : Sl ActT, a = acv x ∧ x.list.length < 9223372036854775807 + 1 := by
  unfold ArgOf at h
  rw [Tryd.underlying22] at h
  obtain ⟨s, h1, h2, _⟩ := reads_slice (f := ActT.cells) (ok := fun _ => True) Tryd.underlying22 cells38 (fun c hc => open_act hc) h
  cases h1
  exact ⟨s, rfl, Nat.lt_succ_of_le h2⟩
/-! ### what the library gives -/
theorem awake21P (m : Int) : callP (E21 m) f_usufructlaw21_awake [] = some (vb true) := by
  have h := awake21 m
  cases k : callF (E21 m) 60 f_usufructlaw21_awake [] [] [] with
  | none => rw [k] at h; cases h
  | some p =>
    rw [k] at h
    refine callP_of 60 ?_
    rw [k]
    obtain ⟨r, st⟩ := p
    simp only [Option.map_some, Option.some.injEq] at h
    subst h
    rfl
theorem std21 (m : Int) : Std (E21 m) fns := ⟨by kernel_rfl, fun f fd h => by
  show prim21 f = none
  have h2 : fns 47 = none ∧ fns 48 = none ∧ fns 50 = none ∧ fns 54 = none ∧ fns 63 = none := ⟨by kernel_rfl, by kernel_rfl, by kernel_rfl, by kernel_rfl, by kernel_rfl⟩
  unfold prim21
  split
  · rw [h2.1] at h; cases h
  · rw [h2.2.1] at h; cases h
  · rw [h2.2.2.1] at h; cases h
  · rw [h2.2.2.2.1] at h; cases h
  · rw [h2.2.2.2.2] at h; cases h
  · rfl⟩
theorem pv21 (m : Int) : (E21 m).prim f_utf8_ValidString = some pValid := by kernel_rfl
theorem ps21 (m : Int) : (E21 m).prim f_strings_Split = some pSplit := by kernel_rfl
theorem vok21 (m : Int) : VOK (E21 m) := fun s hs => by
  unfold callP
  rw [call_prim (pv21 m)]
  simp only [pValid]
  rw [if_pos (by omega)]
  rfl
theorem ross_strB : ∀ l : List (List UInt8), ross (l.map fun b => [vs (BA b)]) = true
  | [] => rfl
  | x :: l => by
    have ih := ross_strB l
    rw [List.map_cons]
    unfold ross at ih ⊢
    rw [belowss, ih]; rfl
theorem sps21 (m : Int) : SPS (E21 m) := fun s hs => by
  unfold callP
  rw [call_prim (ps21 m)]
  simp only [pSplit]
  rw [if_pos ⟨hs, by decide⟩, split_parts, List.map_map]
  simp only [AV.snap]
  exact if_pos (ross_strB _)
theorem wok21 (m : Int) : WOK (E21 m) := ⟨std21 m, vok21 m, sps21 m, by show prim21 47 = _; rfl, by show prim21 48 = _; rfl⟩
theorem law21 (n : List TypeId) (f : Nat) (law : ∀ m avs, ArgsOf Tryd.prog n avs → callP (E21 m) f avs = some (.v (.bool true))) (W : World) (hl : laidMetH Tryd.prog laid21 W) (hs : W.ShapedOpen Tryd.prog) :
    ∃ E : Prog, GRo E.glob ∧ PrimOK Tryd.prog E ∧ PrimSc E ∧ (∀ f fd, E.fn f = some fd → FnChk Tryd.prog f fd) ∧ GlobR (World.ctx W) E.glob ∧ ∀ avs, ArgsOf Tryd.prog n avs → callP E f avs = some (.v (.bool true)) := by
  obtain ⟨m, hg⟩ := glob21_ok hl hs
  exact ⟨E21 m, gro21 m, prim21_ok m, prim21_sc m, fns_ok, hg, law m⟩
theorem law_worldOnce (m : Int) (avs : List AV) (h : ArgsOf Tryd.prog [22] avs) : callP (E21 m) f_usufructlaw21_WorldOnce avs = some (.v (.bool true)) := by
  simp only [ArgsOf] at h
  obtain ⟨a, _, rfl, ha, rfl⟩ := h
  obtain ⟨x, rfl, hx⟩ := arg_acts ha
  exact fn_WorldOnce (wok21 m) (awake21P m) x (by omega)
end Go.Proofs.YtbpndomfipdhdaaDoor.Ev
