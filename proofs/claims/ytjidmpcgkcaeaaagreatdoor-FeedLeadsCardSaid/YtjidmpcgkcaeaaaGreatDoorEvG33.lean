import Derived.Test.YtjidmpcgkcaeaaaGreatDoorEvPr
import Derived.Test.YtjidmpcgkcaeaaaGreatDoorEvIR
import Derived.Test.YtjidmpcgkcaeaaaGreatDoorEvCk
import Derived.Test.YtjidmpcgkcaeaaaGreatDoorEvInsD
import Derived.Test.YtjidmpcgkcaeaaaGreatDoorEvInsP
import Derived.Test.YtjidmpcgkcaeaaaGreatDoorEvDelP
import Derived.Test.YtjidmpcgkcaeaaaGreatDoorEvDelS
import Derived.Test.YtjidmpcgkcaeaaaGreatDoorEvSl
import Derived.Test.YtjidmpcgkcaeaaaGreatDoorEvFd5
import Derived.Test.YtjidmpcgkcaeaaaGreatDoorEvOpen
import Derived.Test.YtjidmpcgkcaeaaaGreatDoorTie
import Derived.Test.YtjidmpcgkcaeaaaGreatDoorCards
import Derived.Lib.ValidU
set_option linter.unusedVariables false
set_option linter.unusedSimpArgs false
set_option maxRecDepth 100000
namespace Go.Proofs.YtjidmpcgkcaeaaaGreatDoor.Ev
open Go.RowKit Go.Proofs Go.ChangeShapes Go.WideShapes
def glob33 : Nat → Option (List AV)
  | 0 => some (tabFirst.map AV.v)
  | 1 => some (tabAcc.map AV.v)
  | 2 => some ((Lib.pow10Tab.map fun z => Value.int .u64 z).map AV.v)
  | _ => none
def prim33 : Nat → Option (List AV → Store → Option (AV × Store))
  | 25 => some (pDelete 2)
  | 26 => some (pInsert 2 16)
  | 92 => some (pInsert 3 48)
  | 96 => some (pDelete 9)
  | 110 => some pValid
  | 154 => some pItoa
  | _ => none
def E33 : Prog := ⟨glob33, fns, prim33⟩
theorem awake33 : (callF E33 60 f_usufructlaw33_awake [] [] []).map (·.1) = some (.v (.bool true)) := by kernel_rfl
theorem prim33_ok : PrimOK Go.Proofs.Tryz.prog E33 := by
  intro f p xs C r st' cargs hp h hO hg hv
  have hp' : prim33 f = some p := hp
  unfold prim33 at hp'
  split at hp'
  · cases hp'; exact EvDelP.ok xs C r st' cargs h hO hv
  · cases hp'; exact EvInsP.ok xs C r st' cargs h hO hv
  · cases hp'; exact EvInsD.ok xs C r st' cargs h hO hv
  · cases hp'; exact EvDelS.ok xs C r st' cargs h hO hv
  · cases hp'; exact ok_valid (G := E33.glob) rfl rfl xs C r st' cargs h hO hg hv
  · cases hp'; exact ok_itoa (G := E33.glob) rfl xs C r st' cargs h hO hg hv
  · cases hp'
theorem prim33_sc : PrimSc E33 := by
  intro f p xs st r st' bases hp h
  have hp' : prim33 f = some p := hp
  unfold prim33 at hp'
  split at hp'
  · cases hp'; exact del_grows h
  · cases hp'; exact ins_grows h
  · cases hp'; exact ins_grows h
  · cases hp'; exact del_grows h
  · cases hp'
    have := keep_valid _ _ _ _ h
    subst this
    exact Grows.refl _
  · cases hp'
    have := keep_itoa _ _ _ _ h
    subst this
    exact Grows.refl _
  · cases hp'
theorem belows_v : ∀ l : List Value, belows 0 (l.map AV.v) = true
  | [] => rfl
  | x :: l => by simp only [List.map_cons, belows, AV.under, belows_v l, Bool.and_self]
theorem gro33 : GRo E33.glob := by
  intro g cs h
  have h' : glob33 g = some cs := h
  unfold glob33 at h'
  split at h'
  · cases h'; exact belows_v _
  · cases h'; exact belows_v _
  · cases h'; exact belows_v _
  · cases h'
theorem gFirst : Tryz.prog.globalNamed "unicode/utf8.first" = some 0 := by kernel_rfl
theorem gAcc : Tryz.prog.globalNamed "unicode/utf8.acceptRanges" = some 1 := by kernel_rfl
theorem gPow : Tryz.prog.globalNamed "internal/strconv.uint64pow10" = some 2 := by kernel_rfl
theorem tFirst : (Tryz.prog.globals[0]?).map (·.type) = some 170 := by kernel_rfl
theorem tAcc : (Tryz.prog.globals[1]?).map (·.type) = some 173 := by kernel_rfl
theorem tPow : (Tryz.prog.globals[2]?).map (·.type) = some 188 := by kernel_rfl
theorem kFirst : tabOK Tryz.prog 4 170 = true := by kernel_rfl
theorem kAcc : tabOK Tryz.prog 4 173 = true := by kernel_rfl
theorem kPow : tabOK Tryz.prog 4 188 = true := by kernel_rfl
theorem dFirst : dataCells Rows.laid_unicode_utf8_first = some tabFirst := by kernel_rfl
theorem dAcc : dataCells Rows.laid_unicode_utf8_acceptRanges = some tabAcc := by kernel_rfl
theorem dPow : dataCells Rows.laid_internal_strconv_uint64pow10 = some (Lib.pow10Tab.map fun z => Value.int .u64 z) := by kernel_rfl
def laid33 : List (String × DataW Unit) := [("math/bits.deBruijn32tab", Rows.laid_math_bits_deBruijn32tab), ("math/bits.deBruijn64tab", Rows.laid_math_bits_deBruijn64tab), ("internal/strconv.uint64pow10", Rows.laid_internal_strconv_uint64pow10), ("unicode/utf8.acceptRanges", Rows.laid_unicode_utf8_acceptRanges), ("unicode/utf8.first", Rows.laid_unicode_utf8_first)]
theorem plain33 : (laid33.all fun x => x.2.handleName?.isNone) = true := by kernel_rfl
theorem glob33_ok {W : World} (h : laidMetH Tryz.prog laid33 W) (hs : W.ShapedOpen Tryz.prog) : GlobR (World.ctx W) E33.glob := by
  rw [MakeChecks.laidMetH_plain _ _ _ plain33] at h
  obtain ⟨ps, ⟨_, _, _, _, _, _, _, _, _, _, ⟨_, _, _, _, _, _, _, _, _, _, ⟨g2, t2, cs2, f2, p2, q2, hg2, ht2, hv2, hd2, ⟨g1, t1, cs1, f1, p1, q1, hg1, ht1, hv1, hd1, ⟨g0, t0, cs0, f0, p0, q0, hg0, ht0, hv0, hd0, _, _⟩, _⟩, _⟩, _⟩, _⟩, _, _⟩ := h
  obtain rfl := Option.some.inj (gFirst.symm.trans hg0)
  obtain rfl := Option.some.inj (gAcc.symm.trans hg1)
  obtain rfl := Option.some.inj (gPow.symm.trans hg2)
  obtain rfl := Option.some.inj (tFirst.symm.trans ht0)
  obtain rfl := Option.some.inj (tAcc.symm.trans ht1)
  obtain rfl := Option.some.inj (tPow.symm.trans ht2)
  have h0 := laidG_of hg0 hv0 hd0 kFirst dFirst (by kernel_rfl)
  have h1 := laidG_of hg1 hv1 hd1 kAcc dAcc (by kernel_rfl)
  have h2 := laidG_of hg2 hv2 hd2 kPow dPow (by kernel_rfl)
  intro g cs hg
  have hg' : glob33 g = some cs := hg
  unfold glob33 at hg'
  split at hg'
  · cases hg'; exact ⟨h0.1, by rw [List.length_map]; exact h0.2⟩
  · cases hg'; exact ⟨h1.1, by rw [List.length_map]; exact h1.2⟩
  · cases hg'; exact ⟨h2.1, by rw [List.length_map]; exact h2.2⟩
  · cases hg'
theorem cells55 : Tryz.prog.cellsOf 55 = 12 := by kernel_rfl
theorem cells62 : Tryz.prog.cellsOf 62 = 12 := by kernel_rfl
theorem open_plan {d : Nat} {l : List AV} (h : Reads Tryz.prog (d + 2) 53 l) : ∃ p : PlanT, l = [vi p.ret, vi p.base, vi p.fac, vi p.cap] := by
  obtain ⟨ls, rfl, hh⟩ := reads_struct Tryz.underlying53 h
  obtain ⟨_, _, rfl, h1, _, _, rfl, h2, _, _, rfl, h3, _, _, rfl, h4, rfl⟩ := hh
  obtain ⟨a, rfl, b1⟩ := reads_int Tryz.underlying3 h1
  obtain ⟨b, rfl, b2⟩ := reads_int Tryz.underlying3 h2
  obtain ⟨c, rfl, b3⟩ := reads_int Tryz.underlying3 h3
  obtain ⟨e, rfl, b4⟩ := reads_int Tryz.underlying3 h4
  exact ⟨⟨a, b, c, e⟩, rfl⟩
theorem open_step {d : Nat} {l : List AV} (h : Reads Tryz.prog (d + 3) 55 l) : ∃ s : StepT, l = s.cells ∧ True := by
  obtain ⟨ls, rfl, hh⟩ := reads_struct Tryz.underlying55 h
  obtain ⟨_, _, rfl, h1, _, _, rfl, h2, _, _, rfl, h3, _, _, rfl, h4, _, _, rfl, h5, _, _, rfl, h6, rfl⟩ := hh
  obtain ⟨a, rfl, b1⟩ := reads_string Tryz.underlying9 h1
  obtain ⟨b, rfl, b2⟩ := reads_string Tryz.underlying9 h2
  obtain ⟨c, rfl, b3⟩ := reads_int Tryz.underlying3 h3
  obtain ⟨p, rfl⟩ := open_plan h4
  obtain ⟨q, rfl⟩ := open_plan h5
  obtain ⟨e, rfl, b6⟩ := reads_int Tryz.underlying3 h6
  exact ⟨⟨a, b, c, p, q, e⟩, rfl, trivial⟩
theorem open_def {d : Nat} {l : List AV} (h : Reads Tryz.prog (d + 5) 58 l) : ∃ x : DefT, l = x.cells := by
  obtain ⟨ls, rfl, hh⟩ := reads_struct Tryz.underlying58 h
  obtain ⟨_, _, rfl, h1, _, _, rfl, h2, _, _, rfl, h3, rfl⟩ := hh
  obtain ⟨a, rfl, b1⟩ := reads_string Tryz.underlying9 h1
  obtain ⟨b, rfl, b2⟩ := reads_int Tryz.underlying3 h2
  obtain ⟨s, rfl, b3, b4⟩ := reads_slice (f := StepT.cells) (ok := fun _ => True) Tryz.underlying56 cells55 (fun c hc => open_step hc) h3
  exact ⟨⟨a, b, s⟩, rfl⟩
theorem open_rep {d : Nat} {l : List AV} (h : Reads Tryz.prog (d + 2) 60 l) : ∃ r : RpT, l = [vi r.saga, vi r.step, vb r.undo, vi r.try_, vb r.good] := by
  obtain ⟨ls, rfl, hh⟩ := reads_struct Tryz.underlying60 h
  obtain ⟨_, _, rfl, h1, _, _, rfl, h2, _, _, rfl, h3, _, _, rfl, h4, _, _, rfl, h5, rfl⟩ := hh
  obtain ⟨a, rfl, _⟩ := reads_int Tryz.underlying3 h1
  obtain ⟨b, rfl, _⟩ := reads_int Tryz.underlying3 h2
  obtain ⟨c, rfl⟩ := reads_bool Tryz.underlying4 h3
  obtain ⟨e, rfl, _⟩ := reads_int Tryz.underlying3 h4
  obtain ⟨g, rfl⟩ := reads_bool Tryz.underlying4 h5
  exact ⟨⟨a, b, c, e, g⟩, rfl⟩
theorem open_ev {d : Nat} {l : List AV} (h : Reads Tryz.prog (d + 6) 62 l) : ∃ v : EvT, l = v.cells ∧ True := by
  obtain ⟨ls, rfl, hh⟩ := reads_struct Tryz.underlying62 h
  obtain ⟨_, _, rfl, h1, _, _, rfl, h2, _, _, rfl, h3, _, _, rfl, h4, _, _, rfl, h5, _, _, rfl, h6, rfl⟩ := hh
  obtain ⟨a, rfl, _⟩ := reads_int Tryz.underlying3 h1
  obtain ⟨b, rfl, _⟩ := reads_int Tryz.underlying3 h2
  obtain ⟨c, rfl, _⟩ := reads_int Tryz.underlying3 h3
  obtain ⟨e, rfl, _⟩ := reads_string Tryz.underlying9 h4
  obtain ⟨r, rfl⟩ := open_rep h5
  obtain ⟨g, rfl⟩ := open_def h6
  exact ⟨⟨a, b, c, e, r, g⟩, rfl, trivial⟩
theorem arg_evs {a : AV} (h : ArgOf Tryz.prog 22 a) : ∃ x : Sl EvT, a = lv x ∧ x.list.length < 9223372036854775807 + 1 := by
  unfold ArgOf at h
  rw [Tryz.underlying22] at h
  obtain ⟨s, h1, h2, _⟩ := reads_slice (f := EvT.cells) (ok := fun _ => True) Tryz.underlying22 cells62 (fun c hc => open_ev hc) h
  cases h1
  exact ⟨s, rfl, Nat.lt_succ_of_le h2⟩
theorem arg_u8 {a : AV} (h : ArgOf Tryz.prog 5 a) : ∃ n, a = .v (.int .u8 n) ∧ 0 ≤ n ∧ n ≤ 255 := by
  unfold ArgOf at h
  rw [Tryz.underlying5] at h
  simp only [Reads, Tryz.underlying5] at h
  obtain ⟨n, h1, h2⟩ := h
  cases h1
  simp only [Lit.wf, Bool.and_eq_true, decide_eq_true_eq] at h2
  have e1 : IntKind.u8.min = 0 := rfl
  have e2 : IntKind.u8.max = 255 := rfl
  rw [e1, e2] at h2
  exact ⟨n, rfl, h2⟩
theorem awake33P : callP E33 f_usufructlaw33_awake [] = some (vb true) := by
  have h := awake33
  cases k : callF E33 60 f_usufructlaw33_awake [] [] [] with
  | none => rw [k] at h; cases h
  | some p =>
    rw [k] at h
    refine callP_of 60 ?_
    rw [k]
    obtain ⟨r, st⟩ := p
    simp only [Option.map_some, Option.some.injEq] at h
    subst h
    rfl
theorem std33 : Std E33 fns := ⟨by kernel_rfl, fun f fd h => by
  show prim33 f = none
  have h2 : fns 25 = none ∧ fns 26 = none ∧ fns 92 = none ∧ fns 96 = none ∧ fns 110 = none ∧ fns 154 = none := ⟨by kernel_rfl, by kernel_rfl, by kernel_rfl, by kernel_rfl, by kernel_rfl, by kernel_rfl⟩
  unfold prim33
  split
  · rw [h2.1] at h; cases h
  · rw [h2.2.1] at h; cases h
  · rw [h2.2.2.1] at h; cases h
  · rw [h2.2.2.2.1] at h; cases h
  · rw [h2.2.2.2.2.1] at h; cases h
  · rw [h2.2.2.2.2.2] at h; cases h
  · rfl⟩
theorem pv33 : E33.prim f_utf8_ValidString = some pValid := by kernel_rfl
theorem pi33 : E33.prim f_strconv_Itoa_0 = some pItoa := by kernel_rfl
theorem vo33 : VO E33 := fun s hs => by
  unfold callP
  rw [call_prim pv33]
  simp only [pValid]
  rw [if_pos (by omega)]
  rfl
theorem io33 : IO E33 := fun n h0 h1 => by
  unfold callP
  rw [call_prim pi33]
  simp only [pItoa]
  rw [if_pos ⟨h0, h1⟩]
  rfl
theorem lok33 : LOK E33 := ⟨std33, vo33, io33, by show prim33 92 = _; rfl, by show prim33 96 = _; rfl⟩
theorem law33 (n : List TypeId) (f : Nat) (law : ∀ avs, ArgsOf Tryz.prog n avs → callP E33 f avs = some (.v (.bool true))) (W : World) (hl : laidMetH Tryz.prog laid33 W) (hs : W.ShapedOpen Tryz.prog) :
    ∃ E : Prog, GRo E.glob ∧ PrimOK Tryz.prog E ∧ PrimSc E ∧ (∀ f fd, E.fn f = some fd → FnChk Tryz.prog f fd) ∧ GlobR (World.ctx W) E.glob ∧ ∀ avs, ArgsOf Tryz.prog n avs → callP E f avs = some (.v (.bool true)) :=
  ⟨E33, gro33, prim33_ok, prim33_sc, fns_ok, glob33_ok hl hs, law⟩
end Go.Proofs.YtjidmpcgkcaeaaaGreatDoor.Ev
