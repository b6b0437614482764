/-
  Chapter 31: what the evaluator's program gives; the listed variables, the arguments.
-/
import Derived.Test.YtklggglkdfnpkaaDoorEvPr
import Derived.Test.YtklggglkdfnpkaaDoorEvIR
import Derived.Test.YtklggglkdfnpkaaDoorEvCk
import Derived.Test.YtklggglkdfnpkaaDoorEvIns1
import Derived.Test.YtklggglkdfnpkaaDoorEvAr11
import Derived.Test.YtklggglkdfnpkaaDoorEvOpen
import Derived.Test.YtklggglkdfnpkaaDoorTie
import Derived.Test.YtklggglkdfnpkaaDoorCards
import Derived.Lib.ValidU
set_option linter.unusedVariables false
set_option linter.unusedSimpArgs false
set_option maxRecDepth 100000
namespace Go.Proofs.YtklggglkdfnpkaaDoor.Ev
open Go.RowKit Go.Proofs Go.ChangeShapes Go.WideShapes
def glob31 : Nat → Option (List AV)
  | 0 => some (tabFirst.map AV.v)
  | 1 => some (tabAcc.map AV.v)
  | _ => none
def prim31 : Nat → Option (List AV → Store → Option (AV × Store))
  | 23 => some (pInsert 6 56)
  | 41 => some pValid
  | _ => none
def E31 : Prog := ⟨glob31, fns, prim31⟩
theorem awake31 : (callF E31 60 f_usufructlaw31_awake [] [] []).map (·.1) = some (.v (.bool true)) := by kernel_rfl
theorem prim31_ok : PrimOK Go.Proofs.Tryd.prog E31 := by
  intro f p xs C r st' cargs hp h hO hg hv
  have hp' : prim31 f = some p := hp
  unfold prim31 at hp'
  split at hp'
  · cases hp'; exact EvIns1.ok xs C r st' cargs h hO hv
  · cases hp'; exact ok_valid (G := E31.glob) rfl rfl xs C r st' cargs h hO hg hv
  · cases hp'
theorem prim31_sc : PrimSc E31 := by
  intro f p xs st r st' bases hp h
  have hp' : prim31 f = some p := hp
  unfold prim31 at hp'
  split at hp'
  · cases hp'; exact ins_grows h
  · cases hp'
    have := keep_valid _ _ _ _ h
    subst this
    exact Grows.refl _
  · cases hp'
theorem belows_v : ∀ l : List Value, belows 0 (l.map AV.v) = true
  | [] => rfl
  | x :: l => by simp only [List.map_cons, belows, AV.under, belows_v l, Bool.and_self]
theorem gro31 : GRo E31.glob := by
  intro g cs h
  have h' : glob31 g = some cs := h
  unfold glob31 at h'
  split at h'
  · cases h'; exact belows_v _
  · cases h'; exact belows_v _
  · cases h'
/-! ### the listed variables -/
theorem gFirst : Tryd.prog.globalNamed "unicode/utf8.first" = some 0 := by kernel_rfl
theorem gAcc : Tryd.prog.globalNamed "unicode/utf8.acceptRanges" = some 1 := by kernel_rfl
theorem tFirst : (Tryd.prog.globals[0]?).map (·.type) = some 64 := by kernel_rfl
theorem tAcc : (Tryd.prog.globals[1]?).map (·.type) = some 67 := by kernel_rfl
theorem kFirst : tabOK Tryd.prog 4 64 = true := by kernel_rfl
theorem kAcc : tabOK Tryd.prog 4 67 = true := by kernel_rfl
theorem dFirst : dataCells Rows.laid_unicode_utf8_first = some tabFirst := by kernel_rfl
theorem dAcc : dataCells Rows.laid_unicode_utf8_acceptRanges = some tabAcc := by kernel_rfl
def laid31 : List (String × DataW Unit) := [("unicode/utf8.acceptRanges", Rows.laid_unicode_utf8_acceptRanges), ("unicode/utf8.first", Rows.laid_unicode_utf8_first)]
theorem plain31 : (laid31.all fun x => x.2.handleName?.isNone) = true := by kernel_rfl
theorem glob31_ok {W : World} (h : laidMetH Tryd.prog laid31 W) (hs : W.ShapedOpen Tryd.prog) : GlobR (World.ctx W) E31.glob := by
  rw [MakeChecks.laidMetH_plain _ _ _ plain31] at h
  obtain ⟨ps, ⟨g1, t1, cs1, f1, p1, q1, hg1, ht1, hv1, hd1, ⟨g0, t0, cs0, f0, p0, q0, hg0, ht0, hv0, hd0, _, _⟩, _⟩, _, _⟩ := h
  obtain rfl := Option.some.inj (gFirst.symm.trans hg0)
  obtain rfl := Option.some.inj (gAcc.symm.trans hg1)
  obtain rfl := Option.some.inj (tFirst.symm.trans ht0)
  obtain rfl := Option.some.inj (tAcc.symm.trans ht1)
  have h0 := laidG_of hg0 hv0 hd0 kFirst dFirst (by kernel_rfl)
  have h1 := laidG_of hg1 hv1 hd1 kAcc dAcc (by kernel_rfl)
  intro g cs hg
  have hg' : glob31 g = some cs := hg
  unfold glob31 at hg'
  split at hg'
  · cases hg'; exact ⟨h0.1, by rw [List.length_map]; exact h0.2⟩
  · cases hg'; exact ⟨h1.1, by rw [List.length_map]; exact h1.2⟩
  · cases hg'
/-! ### the arguments -/
theorem open_row {d : Nat} {l : List AV} (h : Reads Tryd.prog (d + 2) 24 l) : ∃ s : RowT, l = s.cells ∧ True := by
  obtain ⟨ls, rfl, hh⟩ := reads_struct Tryd.underlying24 h
  obtain ⟨_, _, rfl, h1, _, _, rfl, h2, _, _, rfl, h3, _, _, rfl, h4, _, _, rfl, h5, _, _, rfl, h6, rfl⟩ := hh
  obtain ⟨a, rfl, _⟩ := reads_int Tryd.underlying3 h1
  obtain ⟨b, rfl, _⟩ := reads_string Tryd.underlying9 h2
  obtain ⟨c, rfl, _⟩ := reads_int Tryd.underlying3 h3
  obtain ⟨e, rfl, _⟩ := reads_int Tryd.underlying3 h4
  obtain ⟨g, rfl, _⟩ := reads_int Tryd.underlying3 h5
  obtain ⟨i, rfl, _⟩ := reads_int Tryd.underlying3 h6
  exact ⟨⟨a, b, c, e, g, i⟩, rfl, trivial⟩
theorem open_qry {d : Nat} {l : List AV} (h : Reads Tryd.prog (d + 2) 37 l) : ∃ s : QryT, l = s.cells := by
  obtain ⟨ls, rfl, hh⟩ := reads_struct Tryd.underlying37 h
  obtain ⟨_, _, rfl, h1, _, _, rfl, h2, _, _, rfl, h3, _, _, rfl, h4, rfl⟩ := hh
  obtain ⟨b, rfl, _⟩ := reads_string Tryd.underlying9 h1
  obtain ⟨a, rfl, _⟩ := reads_int Tryd.underlying3 h2
  obtain ⟨c, rfl, _⟩ := reads_int Tryd.underlying3 h3
  obtain ⟨e, rfl, _⟩ := reads_int Tryd.underlying3 h4
  exact ⟨⟨b, a, c, e⟩, rfl⟩
theorem cells24 : Tryd.prog.cellsOf 24 = 6 := by kernel_rfl
theorem arg_row {a : AV} (h : ArgOf Tryd.prog 24 a) : ∃ x : RowT, a = .agg x.cells := by
  unfold ArgOf at h
  rw [Tryd.underlying24] at h
  obtain ⟨l, rfl, h⟩ := h
  obtain ⟨x, rfl, _⟩ := open_row h
  exact ⟨x, rfl⟩
theorem arg_qry {a : AV} (h : ArgOf Tryd.prog 37 a) : ∃ x : QryT, a = .agg x.cells := by
  unfold ArgOf at h
  rw [Tryd.underlying37] at h
  obtain ⟨l, rfl, h⟩ := h
  obtain ⟨x, rfl⟩ := open_qry h
  exact ⟨x, rfl⟩
theorem arg_rows {a : AV} (h : ArgOf Tryd.prog 22 a) : ∃ x : Sl RowT, a = rv x := by
  unfold ArgOf at h
  rw [Tryd.underlying22] at h
  obtain ⟨s, h1, _, _⟩ := reads_slice (f := RowT.cells) (ok := fun _ => True) Tryd.underlying22 cells24 (fun c hc => open_row hc) h
  cases h1
  exact ⟨s, rfl⟩
theorem arg_int {a : AV} (h : ArgOf Tryd.prog 3 a) : ∃ n, a = vi n := by
  unfold ArgOf at h
  rw [Tryd.underlying3] at h
  obtain ⟨n, h1, h2⟩ := reads_int Tryd.underlying3 h
  cases h1
  exact ⟨n, rfl⟩
/-! ### what the library gives -/
theorem awake31P : callP E31 f_usufructlaw31_awake [] = some (vb true) := by
  have h := awake31
  cases k : callF E31 60 f_usufructlaw31_awake [] [] [] with
  | none => rw [k] at h; cases h
  | some p =>
    rw [k] at h
    refine callP_of 60 ?_
    rw [k]
    obtain ⟨r, st⟩ := p
    simp only [Option.map_some, Option.some.injEq] at h
    subst h
    rfl
theorem std31 : Std E31 fns := ⟨by kernel_rfl, fun f fd h => by
  show prim31 f = none
  have h2 : fns 23 = none ∧ fns 41 = none := ⟨by kernel_rfl, by kernel_rfl⟩
  unfold prim31
  split
  · rw [h2.1] at h; cases h
  · rw [h2.2] at h; cases h
  · rfl⟩
theorem pv31 : E31.prim f_utf8_ValidString = some pValid := by kernel_rfl
theorem in31 : INOK E31 := by
  show prim31 23 = _
  rfl
theorem vok31 : VOK E31 := fun s hs => by
  unfold callP
  rw [call_prim pv31]
  simp only [pValid]
  rw [if_pos (by omega)]
  rfl
theorem law31 (n : List TypeId) (f : Nat) (law : ∀ avs, ArgsOf Tryd.prog n avs → callP E31 f avs = some (.v (.bool true))) (W : World) (hl : laidMetH Tryd.prog laid31 W) (hs : W.ShapedOpen Tryd.prog) :
    ∃ E : Prog, GRo E.glob ∧ PrimOK Tryd.prog E ∧ PrimSc E ∧ (∀ f fd, E.fn f = some fd → FnChk Tryd.prog f fd) ∧ GlobR (World.ctx W) E.glob ∧ ∀ avs, ArgsOf Tryd.prog n avs → callP E f avs = some (.v (.bool true)) :=
  ⟨E31, gro31, prim31_ok, prim31_sc, fns_ok, glob31_ok hl hs, law⟩
theorem law_archiveAdds (avs : List AV) (h : ArgsOf Tryd.prog [22, 22, 24] avs) : callP E31 f_usufructlaw31_ArchiveAdds avs = some (.v (.bool true)) := by
  simp only [ArgsOf] at h
  obtain ⟨a, _, rfl, ha, b, _, rfl, hb, c, _, rfl, hc, rfl⟩ := h
  obtain ⟨x, rfl⟩ := arg_rows ha
  obtain ⟨y, rfl⟩ := arg_rows hb
  obtain ⟨r, rfl⟩ := arg_row hc
  exact fn_lawAdds std31 vok31 in31 awake31P x y r
theorem law_archiveAsks (avs : List AV) (h : ArgsOf Tryd.prog [22, 37, 3] avs) : callP E31 f_usufructlaw31_ArchiveAsks avs = some (.v (.bool true)) := by
  simp only [ArgsOf] at h
  obtain ⟨a, _, rfl, ha, b, _, rfl, hb, c, _, rfl, hc, rfl⟩ := h
  obtain ⟨x, rfl⟩ := arg_rows ha
  obtain ⟨q, rfl⟩ := arg_qry hb
  obtain ⟨n, rfl⟩ := arg_int hc
  exact fn_lawAsks std31 awake31P x q n
end Go.Proofs.YtklggglkdfnpkaaDoor.Ev
