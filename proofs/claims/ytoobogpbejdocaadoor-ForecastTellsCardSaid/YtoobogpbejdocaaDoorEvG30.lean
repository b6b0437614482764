import Derived.Test.YtoobogpbejdocaaDoorEvPr
import Derived.Test.YtoobogpbejdocaaDoorEvIR
import Derived.Test.YtoobogpbejdocaaDoorEvCk
import Derived.Test.YtoobogpbejdocaaDoorEvSl
import Derived.Test.YtoobogpbejdocaaDoorEvFc11
import Derived.Test.YtoobogpbejdocaaDoorEvOpen
import Derived.Test.YtoobogpbejdocaaDoorTie
import Derived.Test.YtoobogpbejdocaaDoorCards
import Derived.Lib.ValidU
set_option linter.unusedVariables false
set_option linter.unusedSectionVars false
set_option linter.unusedSimpArgs false
set_option maxRecDepth 100000
namespace Go.Proofs.YtoobogpbejdocaaDoor.Ev
open Go.RowKit Go.Proofs Go.ChangeShapes Go.WideShapes
def glob30 : Nat → Option (List AV)
  | 0 => some (tabFirst.map AV.v)
  | 1 => some (tabAcc.map AV.v)
  | _ => none
def prim30 : Nat → Option (List AV → Store → Option (AV × Store))
  | 56 => some pValid
  | _ => none
def E30 : Prog := ⟨glob30, fns, prim30, loops⟩
theorem awake30 : (callF E30 60 f_usufructlaw30_awake [] [] []).map (·.1) = some (.v (.bool true)) := by kernel_rfl
theorem prim30_ok : PrimOK Go.Proofs.Tryd.prog E30 := by
  intro f p xs C r st' cargs hp h hO hg hv
  have hp' : prim30 f = some p := hp
  unfold prim30 at hp'
  split at hp'
  · cases hp'; exact ok_valid (G := E30.glob) rfl rfl xs C r st' cargs h hO hg hv
  · cases hp'
theorem prim30_sc : PrimSc E30 := by
  intro f p xs st r st' bases hp h
  have hp' : prim30 f = some p := hp
  unfold prim30 at hp'
  split at hp'
  · cases hp'
    have := keep_valid _ _ _ _ h
    subst this
    exact Grows.refl _
  · cases hp'
theorem np30 : ∀ k, yB ≤ k → E30.prim k = none := fun k hk => by
  show prim30 k = none
  unfold prim30
  split <;> first | rfl | exact absurd hk (by decide)
theorem fns30 : FnsOK Go.Proofs.Tryd.prog E30 := ⟨fns_ok, np30, loops_ok⟩
theorem belows_v : ∀ l : List Value, belows 0 (l.map AV.v) = true
  | [] => rfl
  | x :: l => by simp only [List.map_cons, belows, AV.under, belows_v l, Bool.and_self]
theorem gro30 : GRo E30.glob := by
  intro g cs h
  have h' : glob30 g = some cs := h
  unfold glob30 at h'
  split at h'
  · cases h'; exact belows_v _
  · cases h'; exact belows_v _
  · cases h'
theorem gFirst : Tryd.prog.globalNamed "unicode/utf8.first" = some 0 := by kernel_rfl
theorem gAcc : Tryd.prog.globalNamed "unicode/utf8.acceptRanges" = some 1 := by kernel_rfl
theorem tFirst : (Tryd.prog.globals[0]?).map (·.type) = some 89 := by kernel_rfl
theorem tAcc : (Tryd.prog.globals[1]?).map (·.type) = some 92 := by kernel_rfl
theorem kFirst : tabOK Tryd.prog 4 89 = true := by kernel_rfl
theorem kAcc : tabOK Tryd.prog 4 92 = true := by kernel_rfl
theorem dFirst : dataCells Rows.laid_unicode_utf8_first = some tabFirst := by kernel_rfl
theorem dAcc : dataCells Rows.laid_unicode_utf8_acceptRanges = some tabAcc := by kernel_rfl
def laid30 : List (String × DataW Unit) := [("unicode/utf8.acceptRanges", Rows.laid_unicode_utf8_acceptRanges), ("unicode/utf8.first", Rows.laid_unicode_utf8_first)]
theorem plain30 : (laid30.all fun x => x.2.handleName?.isNone) = true := by kernel_rfl
theorem glob30_ok {W : World} (h : laidMetH Tryd.prog laid30 W) (hs : W.ShapedOpen Tryd.prog) : GlobR (World.ctx W) E30.glob := by
  rw [MakeChecks.laidMetH_plain _ _ _ plain30] at h
  obtain ⟨ps, ⟨g1, t1, cs1, f1, p1, q1, hg1, ht1, hv1, hd1, ⟨g0, t0, cs0, f0, p0, q0, hg0, ht0, hv0, hd0, _, _⟩, _⟩, _, _⟩ := h
  obtain rfl := Option.some.inj (gFirst.symm.trans hg0)
  obtain rfl := Option.some.inj (gAcc.symm.trans hg1)
  obtain rfl := Option.some.inj (tFirst.symm.trans ht0)
  obtain rfl := Option.some.inj (tAcc.symm.trans ht1)
  have h0 := laidG_of hg0 hv0 hd0 kFirst dFirst (by kernel_rfl)
  have h1 := laidG_of hg1 hv1 hd1 kAcc dAcc (by kernel_rfl)
  intro g cs hg
  have hg' : glob30 g = some cs := hg
  unfold glob30 at hg'
  split at hg'
  · cases hg'; exact ⟨h0.1, by rw [List.length_map]; exact h0.2⟩
  · cases hg'; exact ⟨h1.1, by rw [List.length_map]; exact h1.2⟩
  · cases hg'
theorem cells42 : Tryd.prog.cellsOf 42 = 12 := by kernel_rfl
theorem open_plan {d : Nat} {l : List AV} (h : Reads Tryd.prog (d + 2) 40 l) : ∃ p : PlanT, l = [vi p.ret, vi p.base, vi p.fac, vi p.cap] := by
  obtain ⟨ls, rfl, hh⟩ := reads_struct Tryd.underlying40 h
  obtain ⟨_, _, rfl, h1, _, _, rfl, h2, _, _, rfl, h3, _, _, rfl, h4, rfl⟩ := hh
  obtain ⟨a, rfl, b1⟩ := reads_int Tryd.underlying3 h1
  obtain ⟨b, rfl, b2⟩ := reads_int Tryd.underlying3 h2
  obtain ⟨c, rfl, b3⟩ := reads_int Tryd.underlying3 h3
  obtain ⟨e, rfl, b4⟩ := reads_int Tryd.underlying3 h4
  exact ⟨⟨a, b, c, e⟩, rfl⟩
theorem open_step {d : Nat} {l : List AV} (h : Reads Tryd.prog (d + 3) 42 l) : ∃ s : StepT, l = s.cells ∧ True := by
  obtain ⟨ls, rfl, hh⟩ := reads_struct Tryd.underlying42 h
  obtain ⟨_, _, rfl, h1, _, _, rfl, h2, _, _, rfl, h3, _, _, rfl, h4, _, _, rfl, h5, _, _, rfl, h6, rfl⟩ := hh
  obtain ⟨a, rfl, b1⟩ := reads_string Tryd.underlying9 h1
  obtain ⟨b, rfl, b2⟩ := reads_string Tryd.underlying9 h2
  obtain ⟨c, rfl, b3⟩ := reads_int Tryd.underlying3 h3
  obtain ⟨p, rfl⟩ := open_plan h4
  obtain ⟨q, rfl⟩ := open_plan h5
  obtain ⟨e, rfl, b6⟩ := reads_int Tryd.underlying3 h6
  exact ⟨⟨a, b, c, p, q, e⟩, rfl, trivial⟩
theorem open_def {d : Nat} {l : List AV} (h : Reads Tryd.prog (d + 5) 24 l) : ∃ x : DefT, l = x.cells := by
  obtain ⟨ls, rfl, hh⟩ := reads_struct Tryd.underlying24 h
  obtain ⟨_, _, rfl, h1, _, _, rfl, h2, _, _, rfl, h3, rfl⟩ := hh
  obtain ⟨a, rfl, b1⟩ := reads_string Tryd.underlying9 h1
  obtain ⟨b, rfl, b2⟩ := reads_int Tryd.underlying3 h2
  obtain ⟨s, rfl, b3, b4⟩ := reads_slice (f := StepT.cells) (ok := fun _ => True) Tryd.underlying22 cells42 (fun c hc => open_step hc) h3
  exact ⟨⟨a, b, s⟩, rfl⟩
theorem arg_def {a : AV} (h : ArgOf Tryd.prog 24 a) : ∃ x : DefT, a = dA x := by
  unfold ArgOf at h
  rw [Tryd.underlying24] at h
  obtain ⟨l, rfl, h⟩ := h
  obtain ⟨x, rfl⟩ := open_def h
  exact ⟨x, rfl⟩
theorem arg_int {a : AV} (h : ArgOf Tryd.prog 3 a) : ∃ n, a = vi n := by
  unfold ArgOf at h
  rw [Tryd.underlying3] at h
  obtain ⟨n, h1, _⟩ := reads_int Tryd.underlying3 h
  cases h1
  exact ⟨n, rfl⟩
theorem awake30P : callP E30 f_usufructlaw30_awake [] = some (vb true) := by
  have h := awake30
  cases k : callF E30 60 f_usufructlaw30_awake [] [] [] with
  | none => rw [k] at h; cases h
  | some p =>
    rw [k] at h
    refine callP_of 60 ?_
    rw [k]
    obtain ⟨r, st⟩ := p
    simp only [Option.map_some, Option.some.injEq] at h
    subst h
    rfl
theorem std30 : Std E30 fns := ⟨by kernel_rfl, fun f fd h => by
  show prim30 f = none
  have h2 : fns 56 = none := by kernel_rfl
  unfold prim30
  split
  · rw [h2] at h; cases h
  · rfl⟩
theorem pv30 : E30.prim f_utf8_ValidString = some pValid := by kernel_rfl
theorem vo30 : VO E30 := fun s hs => by
  unfold callP
  rw [call_prim pv30]
  simp only [pValid]
  rw [if_pos (by omega)]
  rfl
theorem lp30 : LpO E30 := ⟨rfl, np30⟩
theorem law30 (n : List TypeId) (f : Nat) (law : ∀ avs, ArgsOf Tryd.prog n avs → callP E30 f avs = some (.v (.bool true))) (W : World) (hl : laidMetH Tryd.prog laid30 W) (hs : W.ShapedOpen Tryd.prog) :
    ∃ E : Prog, GRo E.glob ∧ PrimOK Tryd.prog E ∧ PrimSc E ∧ FnsOK Tryd.prog E ∧ GlobR (World.ctx W) E.glob ∧ ∀ avs, ArgsOf Tryd.prog n avs → callP E f avs = some (.v (.bool true)) :=
  ⟨E30, gro30, prim30_ok, prim30_sc, fns30, glob30_ok hl hs, law⟩
theorem law_forecastTells (avs : List AV) (h : ArgsOf Tryd.prog [24, 3, 3] avs) : callP E30 f_usufructlaw30_ForecastTells avs = some (.v (.bool true)) := by
  simp only [ArgsOf] at h
  obtain ⟨a, _, rfl, ha, b, _, rfl, hb, c, _, rfl, hc, rfl⟩ := h
  obtain ⟨d, rfl⟩ := arg_def ha
  obtain ⟨n, rfl⟩ := arg_int hb
  obtain ⟨m, rfl⟩ := arg_int hc
  exact fn_ForecastTells std30 lp30 vo30 awake30P d n m
end Go.Proofs.YtoobogpbejdocaaDoor.Ev
