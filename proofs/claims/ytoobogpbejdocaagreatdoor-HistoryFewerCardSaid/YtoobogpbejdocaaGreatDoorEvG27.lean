import Derived.Test.YtoobogpbejdocaaGreatDoorEvPr
import Derived.Test.YtoobogpbejdocaaGreatDoorEvIR
import Derived.Test.YtoobogpbejdocaaGreatDoorEvCk
import Derived.Test.YtoobogpbejdocaaGreatDoorEvInsD
import Derived.Test.YtoobogpbejdocaaGreatDoorEvDelS
import Derived.Test.YtoobogpbejdocaaGreatDoorEvSl
import Derived.Test.YtoobogpbejdocaaGreatDoorEvHi13
import Derived.Test.YtoobogpbejdocaaGreatDoorEvOpen
import Derived.Test.YtoobogpbejdocaaGreatDoorTie
import Derived.Test.YtoobogpbejdocaaGreatDoorCards
import Derived.Lib.ValidU
set_option linter.unusedVariables false
set_option linter.unusedSectionVars false
set_option linter.unusedSimpArgs false
set_option maxRecDepth 100000
namespace Go.Proofs.YtoobogpbejdocaaGreatDoor.Ev
open Go.RowKit Go.Proofs Go.ChangeShapes Go.WideShapes
def glob27 : Nat → Option (List AV)
  | 0 => some phTab
  | 1 => some (tabFirst.map AV.v)
  | 2 => some (tabAcc.map AV.v)
  | 3 => some ((Lib.pow10Tab.map fun z => Value.int .u64 z).map AV.v)
  | _ => none
def prim27 : Nat → Option (List AV → Store → Option (AV × Store))
  | 39 => some pItoa
  | 80 => some pValid
  | 148 => some (pInsert 3 48)
  | 152 => some (pDelete 9)
  | _ => none
def E27 : Prog := ⟨glob27, fns, prim27, loops⟩
theorem awake27 : (callF E27 60 f_usufructlaw27_awake [] [] []).map (·.1) = some (.v (.bool true)) := by kernel_rfl
theorem prim27_ok : PrimOK Go.Proofs.Tryz.prog E27 := by
  intro f p xs C r st' cargs hp h hO hg hv
  have hp' : prim27 f = some p := hp
  unfold prim27 at hp'
  split at hp'
  · cases hp'; exact ok_itoa (G := E27.glob) rfl xs C r st' cargs h hO hg hv
  · cases hp'; exact ok_valid (G := E27.glob) rfl rfl xs C r st' cargs h hO hg hv
  · cases hp'; exact EvInsD.ok xs C r st' cargs h hO hv
  · cases hp'; exact EvDelS.ok xs C r st' cargs h hO hv
  · cases hp'
theorem prim27_sc : PrimSc E27 := by
  intro f p xs st r st' bases hp h
  have hp' : prim27 f = some p := hp
  unfold prim27 at hp'
  split at hp'
  · cases hp'
    have := keep_itoa _ _ _ _ h
    subst this
    exact Grows.refl _
  · cases hp'
    have := keep_valid _ _ _ _ h
    subst this
    exact Grows.refl _
  · cases hp'; exact ins_grows h
  · cases hp'; exact del_grows h
  · cases hp'
theorem np27 : ∀ k, yB ≤ k → E27.prim k = none := fun k hk => by
  show prim27 k = none
  unfold prim27
  split <;> first | rfl | exact absurd hk (by decide)
theorem fns27 : FnsOK Go.Proofs.Tryz.prog E27 := ⟨fns_ok, np27, loops_ok⟩
theorem belows_v : ∀ l : List Value, belows 0 (l.map AV.v) = true
  | [] => rfl
  | x :: l => by simp only [List.map_cons, belows, AV.under, belows_v l, Bool.and_self]
theorem gro27 : GRo E27.glob := by
  intro g cs h
  have h' : glob27 g = some cs := h
  unfold glob27 at h'
  split at h'
  · cases h'; exact belows_v (phVals)
  · cases h'; exact belows_v _
  · cases h'; exact belows_v _
  · cases h'; exact belows_v _
  · cases h'
theorem gPh : Tryz.prog.globalNamed "usufruct/script.phases" = some 0 := by kernel_rfl
theorem gFirst : Tryz.prog.globalNamed "unicode/utf8.first" = some 1 := by kernel_rfl
theorem gAcc : Tryz.prog.globalNamed "unicode/utf8.acceptRanges" = some 2 := by kernel_rfl
theorem gPow : Tryz.prog.globalNamed "internal/strconv.uint64pow10" = some 3 := by kernel_rfl
theorem tPh : (Tryz.prog.globals[0]?).map (·.type) = some 146 := by kernel_rfl
theorem tFirst : (Tryz.prog.globals[1]?).map (·.type) = some 178 := by kernel_rfl
theorem tAcc : (Tryz.prog.globals[2]?).map (·.type) = some 181 := by kernel_rfl
theorem tPow : (Tryz.prog.globals[3]?).map (·.type) = some 250 := by kernel_rfl
theorem kPh : tabOK Tryz.prog 4 146 = true := by kernel_rfl
theorem kFirst : tabOK Tryz.prog 4 178 = true := by kernel_rfl
theorem kAcc : tabOK Tryz.prog 4 181 = true := by kernel_rfl
theorem kPow : tabOK Tryz.prog 4 250 = true := by kernel_rfl
theorem dPh : dataCells Rows.laid_usufruct_script_phases = some phVals := by kernel_rfl
theorem dFirst : dataCells Rows.laid_unicode_utf8_first = some tabFirst := by kernel_rfl
theorem dAcc : dataCells Rows.laid_unicode_utf8_acceptRanges = some tabAcc := by kernel_rfl
theorem dPow : dataCells Rows.laid_internal_strconv_uint64pow10 = some (Lib.pow10Tab.map fun z => Value.int .u64 z) := by kernel_rfl
def laid27 : List (String × DataW Unit) := [("math/bits.deBruijn32tab", Rows.laid_math_bits_deBruijn32tab), ("math/bits.deBruijn64tab", Rows.laid_math_bits_deBruijn64tab), ("internal/strconv.uint64pow10", Rows.laid_internal_strconv_uint64pow10), ("unicode/utf8.acceptRanges", Rows.laid_unicode_utf8_acceptRanges), ("usufruct/script.phases", Rows.laid_usufruct_script_phases), ("unicode/utf8.first", Rows.laid_unicode_utf8_first)]
theorem plain27 : (laid27.all fun x => x.2.handleName?.isNone) = true := by kernel_rfl
theorem glob27_ok {W : World} (h : laidMetH Tryz.prog laid27 W) (hs : W.ShapedOpen Tryz.prog) : GlobR (World.ctx W) E27.glob := by
  rw [MakeChecks.laidMetH_plain _ _ _ plain27] at h
  obtain ⟨ps, ⟨_, _, _, _, _, _, _, _, _, _, ⟨_, _, _, _, _, _, _, _, _, _, ⟨g3, t3, cs3, f3, p3, q3, hg3, ht3, hv3, hd3, ⟨g2, t2, cs2, f2, p2, q2, hg2, ht2, hv2, hd2, ⟨g0, t0, cs0, f0, p0, q0, hg0, ht0, hv0, hd0, ⟨g1, t1, cs1, f1, p1, q1, hg1, ht1, hv1, hd1, _, _⟩, _⟩, _⟩, _⟩, _⟩, _⟩, _, _⟩ := h
  obtain rfl := Option.some.inj (gPh.symm.trans hg0)
  obtain rfl := Option.some.inj (gFirst.symm.trans hg1)
  obtain rfl := Option.some.inj (gAcc.symm.trans hg2)
  obtain rfl := Option.some.inj (gPow.symm.trans hg3)
  obtain rfl := Option.some.inj (tPh.symm.trans ht0)
  obtain rfl := Option.some.inj (tFirst.symm.trans ht1)
  obtain rfl := Option.some.inj (tAcc.symm.trans ht2)
  obtain rfl := Option.some.inj (tPow.symm.trans ht3)
  have h0 := laidG_of hg0 hv0 hd0 kPh dPh (by kernel_rfl)
  have h1 := laidG_of hg1 hv1 hd1 kFirst dFirst (by kernel_rfl)
  have h2 := laidG_of hg2 hv2 hd2 kAcc dAcc (by kernel_rfl)
  have h3 := laidG_of hg3 hv3 hd3 kPow dPow (by kernel_rfl)
  intro g cs hg
  have hg' : glob27 g = some cs := hg
  unfold glob27 at hg'
  split at hg'
  · cases hg'; exact ⟨h0.1, h0.2⟩
  · cases hg'; exact ⟨h1.1, by rw [List.length_map]; exact h1.2⟩
  · cases hg'; exact ⟨h2.1, by rw [List.length_map]; exact h2.2⟩
  · cases hg'; exact ⟨h3.1, by rw [List.length_map]; exact h3.2⟩
  · cases hg'
theorem cells81 : Tryz.prog.cellsOf 81 = 12 := by kernel_rfl
theorem cells39 : Tryz.prog.cellsOf 39 = 12 := by kernel_rfl
theorem open_plan {d : Nat} {l : List AV} (h : Reads Tryz.prog (d + 2) 79 l) : ∃ p : PlanT, l = [vi p.ret, vi p.base, vi p.fac, vi p.cap] := by
  obtain ⟨ls, rfl, hh⟩ := reads_struct Tryz.underlying79 h
  obtain ⟨_, _, rfl, h1, _, _, rfl, h2, _, _, rfl, h3, _, _, rfl, h4, rfl⟩ := hh
  obtain ⟨a, rfl, b1⟩ := reads_int Tryz.underlying3 h1
  obtain ⟨b, rfl, b2⟩ := reads_int Tryz.underlying3 h2
  obtain ⟨c, rfl, b3⟩ := reads_int Tryz.underlying3 h3
  obtain ⟨e, rfl, b4⟩ := reads_int Tryz.underlying3 h4
  exact ⟨⟨a, b, c, e⟩, rfl⟩
theorem open_step {d : Nat} {l : List AV} (h : Reads Tryz.prog (d + 3) 81 l) : ∃ s : StepT, l = s.cells ∧ True := by
  obtain ⟨ls, rfl, hh⟩ := reads_struct Tryz.underlying81 h
  obtain ⟨_, _, rfl, h1, _, _, rfl, h2, _, _, rfl, h3, _, _, rfl, h4, _, _, rfl, h5, _, _, rfl, h6, rfl⟩ := hh
  obtain ⟨a, rfl, b1⟩ := reads_string Tryz.underlying9 h1
  obtain ⟨b, rfl, b2⟩ := reads_string Tryz.underlying9 h2
  obtain ⟨c, rfl, b3⟩ := reads_int Tryz.underlying3 h3
  obtain ⟨p, rfl⟩ := open_plan h4
  obtain ⟨q, rfl⟩ := open_plan h5
  obtain ⟨e, rfl, b6⟩ := reads_int Tryz.underlying3 h6
  exact ⟨⟨a, b, c, p, q, e⟩, rfl, trivial⟩
theorem open_def {d : Nat} {l : List AV} (h : Reads Tryz.prog (d + 5) 37 l) : ∃ x : DefT, l = x.cells := by
  obtain ⟨ls, rfl, hh⟩ := reads_struct Tryz.underlying37 h
  obtain ⟨_, _, rfl, h1, _, _, rfl, h2, _, _, rfl, h3, rfl⟩ := hh
  obtain ⟨a, rfl, b1⟩ := reads_string Tryz.underlying9 h1
  obtain ⟨b, rfl, b2⟩ := reads_int Tryz.underlying3 h2
  obtain ⟨s, rfl, b3, b4⟩ := reads_slice (f := StepT.cells) (ok := fun _ => True) Tryz.underlying35 cells81 (fun c hc => open_step hc) h3
  exact ⟨⟨a, b, s⟩, rfl⟩
theorem open_rep {d : Nat} {l : List AV} (h : Reads Tryz.prog (d + 2) 34 l) : ∃ r : RpT, l = [vi r.saga, vi r.step, vb r.undo, vi r.try_, vb r.good] := by
  obtain ⟨ls, rfl, hh⟩ := reads_struct Tryz.underlying34 h
  obtain ⟨_, _, rfl, h1, _, _, rfl, h2, _, _, rfl, h3, _, _, rfl, h4, _, _, rfl, h5, rfl⟩ := hh
  obtain ⟨a, rfl, _⟩ := reads_int Tryz.underlying3 h1
  obtain ⟨b, rfl, _⟩ := reads_int Tryz.underlying3 h2
  obtain ⟨c, rfl⟩ := reads_bool Tryz.underlying4 h3
  obtain ⟨e, rfl, _⟩ := reads_int Tryz.underlying3 h4
  obtain ⟨g, rfl⟩ := reads_bool Tryz.underlying4 h5
  exact ⟨⟨a, b, c, e, g⟩, rfl⟩
theorem open_ev {d : Nat} {l : List AV} (h : Reads Tryz.prog (d + 6) 39 l) : ∃ v : EvT, l = v.cells ∧ True := by
  obtain ⟨ls, rfl, hh⟩ := reads_struct Tryz.underlying39 h
  obtain ⟨_, _, rfl, h1, _, _, rfl, h2, _, _, rfl, h3, _, _, rfl, h4, _, _, rfl, h5, _, _, rfl, h6, rfl⟩ := hh
  obtain ⟨a, rfl, _⟩ := reads_int Tryz.underlying3 h1
  obtain ⟨b, rfl, _⟩ := reads_int Tryz.underlying3 h2
  obtain ⟨c, rfl, _⟩ := reads_int Tryz.underlying3 h3
  obtain ⟨e, rfl, _⟩ := reads_string Tryz.underlying9 h4
  obtain ⟨r, rfl⟩ := open_rep h5
  obtain ⟨g, rfl⟩ := open_def h6
  exact ⟨⟨a, b, c, e, r, g⟩, rfl, trivial⟩
theorem arg_evs {a : AV} (h : ArgOf Tryz.prog 22 a) : ∃ x : Sl EvT, a = lv x ∧ x.list.length < 9223372036854775807 + 1 := by
  unfold ArgOf at h
  rw [Tryz.underlying22] at h
  obtain ⟨s, h1, h2, _⟩ := reads_slice (f := EvT.cells) (ok := fun _ => True) Tryz.underlying22 cells39 (fun c hc => open_ev hc) h
  cases h1
  exact ⟨s, rfl, Nat.lt_succ_of_le h2⟩
theorem arg_u8 {a : AV} (h : ArgOf Tryz.prog 5 a) : ∃ n, a = .v (.int .u8 n) ∧ 0 ≤ n ∧ n ≤ 255 := by
  unfold ArgOf at h
  rw [Tryz.underlying5] at h
  simp only [Reads, Tryz.underlying5] at h
  obtain ⟨n, h1, h2⟩ := h
  cases h1
  simp only [Lit.wf, Bool.and_eq_true, decide_eq_true_eq] at h2
  have e1 : IntKind.u8.min = 0 := rfl
  have e2 : IntKind.u8.max = 255 := rfl
  rw [e1, e2] at h2
  exact ⟨n, rfl, h2⟩
theorem awake27P : callP E27 f_usufructlaw27_awake [] = some (vb true) := by
  have h := awake27
  cases k : callF E27 60 f_usufructlaw27_awake [] [] [] with
  | none => rw [k] at h; cases h
  | some p =>
    rw [k] at h
    refine callP_of 60 ?_
    rw [k]
    obtain ⟨r, st⟩ := p
    simp only [Option.map_some, Option.some.injEq] at h
    subst h
    rfl
theorem std27 : Std E27 fns := ⟨by kernel_rfl, fun f fd h => by
  show prim27 f = none
  have h2 : fns 39 = none ∧ fns 80 = none ∧ fns 148 = none ∧ fns 152 = none := ⟨by kernel_rfl, by kernel_rfl, by kernel_rfl, by kernel_rfl⟩
  unfold prim27
  split
  · rw [h2.1] at h; cases h
  · rw [h2.2.1] at h; cases h
  · rw [h2.2.2.1] at h; cases h
  · rw [h2.2.2.2] at h; cases h
  · rfl⟩
theorem pv27 : E27.prim f_utf8_ValidString = some pValid := by kernel_rfl
theorem pi27 : E27.prim f_strconv_Itoa_0 = some pItoa := by kernel_rfl
theorem vo27 : VO E27 := fun s hs => by
  unfold callP
  rw [call_prim pv27]
  simp only [pValid]
  rw [if_pos (by omega)]
  rfl
theorem io27 : IOK E27 := fun n h0 h1 => by
  unfold callP
  rw [call_prim pi27]
  simp only [pItoa]
  rw [if_pos ⟨h0, h1⟩]
  rfl
theorem lok27 : LOK E27 := ⟨std27, vo27, io27, by show prim27 148 = _; rfl, by show prim27 152 = _; rfl⟩
theorem pg27 : E27.glob 0 = some phTab := rfl
theorem lp27 : LpO E27 := ⟨rfl, np27⟩
theorem law27 (n : List TypeId) (f : Nat) (law : ∀ avs, ArgsOf Tryz.prog n avs → callP E27 f avs = some (.v (.bool true))) (W : World) (hl : laidMetH Tryz.prog laid27 W) (hs : W.ShapedOpen Tryz.prog) :
    ∃ E : Prog, GRo E.glob ∧ PrimOK Tryz.prog E ∧ PrimSc E ∧ FnsOK Tryz.prog E ∧ GlobR (World.ctx W) E.glob ∧ ∀ avs, ArgsOf Tryz.prog n avs → callP E f avs = some (.v (.bool true)) :=
  ⟨E27, gro27, prim27_ok, prim27_sc, fns27, glob27_ok hl hs, law⟩
end Go.Proofs.YtoobogpbejdocaaGreatDoor.Ev
