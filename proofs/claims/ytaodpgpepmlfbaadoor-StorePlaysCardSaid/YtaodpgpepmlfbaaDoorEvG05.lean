/-
  Chapter 05: what the evaluator's program gives; the listed variables, the arguments.
-/
import Derived.Test.YtaodpgpepmlfbaaDoorEvE05
import Derived.Test.YtaodpgpepmlfbaaDoorEvSt8
import Derived.Test.YtaodpgpepmlfbaaDoorEvOpen
import Derived.Test.YtaodpgpepmlfbaaDoorTie
import Derived.Test.YtaodpgpepmlfbaaDoorCards
import Derived.Lib.ValidU
set_option linter.unusedVariables false
set_option linter.unusedSimpArgs false
set_option maxRecDepth 100000
namespace Go.Proofs.YtaodpgpepmlfbaaDoor.Ev
open Go.RowKit Go.Proofs Go.ChangeShapes Go.WideShapes
theorem prim05_ok : PrimOK Go.Proofs.Tryd.prog E05 := by
  intro f p xs C r st' cargs hp h hO hg hv
  have hp' : prim05 f = some p := hp
  unfold prim05 at hp'
  split at hp'
  · cases hp'; exact ok_free (G := E05.glob) xs C r st' cargs h hO hg hv
  · cases hp'; exact ok_names (G := E05.glob) xs C r st' cargs h hO hg hv
  · cases hp'; exact ok_valid (G := E05.glob) rfl rfl xs C r st' cargs h hO hg hv
  · cases hp'
theorem prim05_sc : PrimSc E05 := by
  intro f p xs st r st' bases hp h
  have hp' : prim05 f = some p := hp
  unfold prim05 at hp'
  split at hp'
  · cases hp'
    have := keep_free _ _ _ _ h
    subst this
    exact Grows.refl _
  · cases hp'
    have := keep_names _ _ _ _ h
    subst this
    exact Grows.refl _
  · cases hp'
    have := keep_valid _ _ _ _ h
    subst this
    exact Grows.refl _
  · cases hp'
theorem belows_v : ∀ l : List Value, belows 0 (l.map AV.v) = true
  | [] => rfl
  | x :: l => by simp only [List.map_cons, belows, AV.under, belows_v l, Bool.and_self]
theorem gro05 : GRo E05.glob := by
  intro g cs h
  have h' : glob05 g = some cs := h
  unfold glob05 at h'
  split at h'
  · cases h'; exact belows_v _
  · cases h'; exact belows_v _
  · cases h'
/-! ### the listed variables -/
theorem gFirst : Tryd.prog.globalNamed "unicode/utf8.first" = some 0 := by kernel_rfl
theorem gAcc : Tryd.prog.globalNamed "unicode/utf8.acceptRanges" = some 1 := by kernel_rfl
theorem tFirst : (Tryd.prog.globals[0]?).map (·.type) = some 78 := by kernel_rfl
theorem tAcc : (Tryd.prog.globals[1]?).map (·.type) = some 81 := by kernel_rfl
theorem kFirst : tabOK Tryd.prog 4 78 = true := by kernel_rfl
theorem kAcc : tabOK Tryd.prog 4 81 = true := by kernel_rfl
theorem dFirst : dataCells Rows.laid_unicode_utf8_first = some tabFirst := by kernel_rfl
theorem dAcc : dataCells Rows.laid_unicode_utf8_acceptRanges = some tabAcc := by kernel_rfl
def laid05 : List (String × DataW Unit) := [("unicode/utf8.acceptRanges", Rows.laid_unicode_utf8_acceptRanges), ("unicode/utf8.first", Rows.laid_unicode_utf8_first)]
theorem plain05 : (laid05.all fun x => x.2.handleName?.isNone) = true := by kernel_rfl
theorem glob05_ok {W : World} (h : laidMetH Tryd.prog laid05 W) (hs : W.ShapedOpen Tryd.prog) : GlobR (World.ctx W) E05.glob := by
  rw [MakeChecks.laidMetH_plain _ _ _ plain05] at h
  obtain ⟨ps, ⟨g1, t1, cs1, f1, p1, q1, hg1, ht1, hv1, hd1, ⟨g0, t0, cs0, f0, p0, q0, hg0, ht0, hv0, hd0, _, _⟩, _⟩, _, _⟩ := h
  obtain rfl := Option.some.inj (gFirst.symm.trans hg0)
  obtain rfl := Option.some.inj (gAcc.symm.trans hg1)
  obtain rfl := Option.some.inj (tFirst.symm.trans ht0)
  obtain rfl := Option.some.inj (tAcc.symm.trans ht1)
  have h0 := laidG_of hg0 hv0 hd0 kFirst dFirst (by kernel_rfl)
  have h1 := laidG_of hg1 hv1 hd1 kAcc dAcc (by kernel_rfl)
  intro g cs hg
  have hg' : glob05 g = some cs := hg
  unfold glob05 at hg'
  split at hg'
  · cases hg'; exact ⟨h0.1, by rw [List.length_map]; exact h0.2⟩
  · cases hg'; exact ⟨h1.1, by rw [List.length_map]; exact h1.2⟩
  · cases hg'
/-! ### the arguments -/
theorem open_u8 {d : Nat} {l : List AV} (h : Reads Tryd.prog (d + 1) 5 l) : ∃ b : UInt8, l = byC b ∧ True := by
  simp only [Reads, Tryd.underlying5] at h
  obtain ⟨n, rfl, h2⟩ := h
  simp only [Lit.wf, Bool.and_eq_true, decide_eq_true_eq] at h2
  have e1 : IntKind.u8.min = 0 := rfl
  have e2 : IntKind.u8.max = 255 := rfl
  rw [e1, e2] at h2
  refine ⟨UInt8.ofNat n.toNat, ?_, trivial⟩
  unfold byC
  have : ((UInt8.ofNat n.toNat).toNat : Int) = n := by
    rw [UInt8.toNat_ofNat']
    have : n.toNat % 2 ^ 8 = n.toNat := Nat.mod_eq_of_lt (by omega)
    rw [this]
    omega
  rw [this]
theorem cells5 : Tryd.prog.cellsOf 5 = 1 := by kernel_rfl
theorem arg_bytes {a : AV} (h : ArgOf Tryd.prog 22 a) : ∃ x : Sl UInt8, a = x.av 1 byC := by
  unfold ArgOf at h
  rw [Tryd.underlying22] at h
  obtain ⟨s, h1, _, _⟩ := reads_slice (f := byC) (ok := fun _ => True) Tryd.underlying22 cells5 (fun c hc => open_u8 hc) h
  cases h1
  exact ⟨s, rfl⟩
theorem arg_int {a : AV} (h : ArgOf Tryd.prog 3 a) : ∃ n, a = vi n ∧ I64 n := by
  unfold ArgOf at h
  rw [Tryd.underlying3] at h
  obtain ⟨n, h1, h2⟩ := reads_int Tryd.underlying3 h
  cases h1
  exact ⟨n, rfl, h2⟩
/-! ### what the library gives -/
theorem awake05P : callP E05 f_usufructlaw05_awake [] = some (vb true) := by
  have h := awake05
  cases k : callF E05 60 f_usufructlaw05_awake [] [] [] with
  | none => rw [k] at h; cases h
  | some p =>
    rw [k] at h
    refine callP_of 60 ?_
    rw [k]
    obtain ⟨r, st⟩ := p
    simp only [Option.map_some, Option.some.injEq] at h
    subst h
    rfl
theorem std05 : Std E05 fns := ⟨by kernel_rfl, fun f fd h => by
  show prim05 f = none
  have h2 : fns 24 = none ∧ fns 27 = none ∧ fns 39 = none := ⟨by kernel_rfl, by kernel_rfl, by kernel_rfl⟩
  unfold prim05
  split
  · rw [h2.1] at h; cases h
  · rw [h2.2.1] at h; cases h
  · rw [h2.2.2] at h; cases h
  · rfl⟩
theorem pv05 : E05.prim f_utf8_ValidString = some pValid := by kernel_rfl
theorem sok05 : SOK E05 := ⟨by show prim05 24 = _; rfl, by show prim05 27 = _; rfl⟩
theorem vok05 : VOK E05 := fun s hs => by
  unfold callP
  rw [call_prim pv05]
  simp only [pValid]
  rw [if_pos (by omega)]
  rfl
theorem law05 (n : List TypeId) (f : Nat) (law : ∀ avs, ArgsOf Tryd.prog n avs → callP E05 f avs = some (.v (.bool true))) (W : World) (hl : laidMetH Tryd.prog laid05 W) (hs : W.ShapedOpen Tryd.prog) :
    ∃ E : Prog, GRo E.glob ∧ PrimOK Tryd.prog E ∧ PrimSc E ∧ (∀ f fd, E.fn f = some fd → FnChk Tryd.prog f fd) ∧ GlobR (World.ctx W) E.glob ∧ ∀ avs, ArgsOf Tryd.prog n avs → callP E f avs = some (.v (.bool true)) :=
  ⟨E05, gro05, prim05_ok, prim05_sc, fns_ok, glob05_ok hl hs, law⟩
theorem law_storeSafe (avs : List AV) (h : ArgsOf Tryd.prog [22, 22, 3] avs) : callP E05 f_usufructlaw05_StoreSafe avs = some (.v (.bool true)) := by
  simp only [ArgsOf] at h
  obtain ⟨a, _, rfl, ha, b, _, rfl, hb, c, _, rfl, hc, rfl⟩ := h
  obtain ⟨x, rfl⟩ := arg_bytes ha
  obtain ⟨y, rfl⟩ := arg_bytes hb
  obtain ⟨n, rfl, _⟩ := arg_int hc
  exact fn_StoreSafe std05 vok05 sok05 awake05P x y n
end Go.Proofs.YtaodpgpepmlfbaaDoor.Ev
