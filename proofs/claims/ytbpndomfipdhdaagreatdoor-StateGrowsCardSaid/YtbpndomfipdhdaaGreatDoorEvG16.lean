import Derived.Test.YtbpndomfipdhdaaGreatDoorEvPr
import Derived.Test.YtbpndomfipdhdaaGreatDoorEvIR
import Derived.Test.YtbpndomfipdhdaaGreatDoorEvCk
import Derived.Test.YtbpndomfipdhdaaGreatDoorEvInsD
import Derived.Test.YtbpndomfipdhdaaGreatDoorEvDelS
import Derived.Test.YtbpndomfipdhdaaGreatDoorEvSl
import Derived.Test.YtbpndomfipdhdaaGreatDoorEvSg21
import Derived.Test.YtbpndomfipdhdaaGreatDoorEvOpen
import Derived.Test.YtbpndomfipdhdaaGreatDoorTie
import Derived.Test.YtbpndomfipdhdaaGreatDoorCards
import Derived.Lib.ValidU
set_option linter.unusedVariables false
set_option linter.unusedSimpArgs false
set_option maxRecDepth 100000
namespace Go.Proofs.YtbpndomfipdhdaaGreatDoor.Ev
open Go.RowKit Go.Proofs Go.ChangeShapes Go.WideShapes
def glob16 : Nat → Option (List AV)
  | 0 => some (tabFirst.map AV.v)
  | 1 => some (tabAcc.map AV.v)
  | 2 => some ((Lib.pow10Tab.map fun z => Value.int .u64 z).map AV.v)
  | _ => none
def prim16 : Nat → Option (List AV → Store → Option (AV × Store))
  | 48 => some (pInsert 3 48)
  | 52 => some (pDelete 9)
  | 71 => some pValid
  | 120 => some pItoa
  | _ => none
def E16 : Prog := ⟨glob16, fns, prim16⟩
theorem awake16 : (callF E16 60 f_usufructlaw16_awake [] [] []).map (·.1) = some (.v (.bool true)) := by kernel_rfl
theorem prim16_ok : PrimOK Go.Proofs.Tryz.prog E16 := by
  intro f p xs C r st' cargs hp h hO hg hv
  have hp' : prim16 f = some p := hp
  unfold prim16 at hp'
  split at hp'
  · cases hp'; exact EvInsD.ok xs C r st' cargs h hO hv
  · cases hp'; exact EvDelS.ok xs C r st' cargs h hO hv
  · cases hp'; exact ok_valid (G := E16.glob) rfl rfl xs C r st' cargs h hO hg hv
  · cases hp'; exact ok_itoa (G := E16.glob) rfl xs C r st' cargs h hO hg hv
  · cases hp'
theorem prim16_sc : PrimSc E16 := by
  intro f p xs st r st' bases hp h
  have hp' : prim16 f = some p := hp
  unfold prim16 at hp'
  split at hp'
  · cases hp'; exact ins_grows h
  · cases hp'; exact del_grows h
  · cases hp'
    have := keep_valid _ _ _ _ h
    subst this
    exact Grows.refl _
  · cases hp'
    have := keep_itoa _ _ _ _ h
    subst this
    exact Grows.refl _
  · cases hp'
theorem belows_v : ∀ l : List Value, belows 0 (l.map AV.v) = true
  | [] => rfl
  | x :: l => by simp only [List.map_cons, belows, AV.under, belows_v l, Bool.and_self]
theorem gro16 : GRo E16.glob := by
  intro g cs h
  have h' : glob16 g = some cs := h
  unfold glob16 at h'
  split at h'
  · cases h'; exact belows_v _
  · cases h'; exact belows_v _
  · cases h'; exact belows_v _
  · cases h'
theorem gFirst : Tryz.prog.globalNamed "unicode/utf8.first" = some 0 := by kernel_rfl
theorem gAcc : Tryz.prog.globalNamed "unicode/utf8.acceptRanges" = some 1 := by kernel_rfl
theorem gPow : Tryz.prog.globalNamed "internal/strconv.uint64pow10" = some 2 := by kernel_rfl
theorem tFirst : (Tryz.prog.globals[0]?).map (·.type) = some 124 := by kernel_rfl
theorem tAcc : (Tryz.prog.globals[1]?).map (·.type) = some 127 := by kernel_rfl
theorem tPow : (Tryz.prog.globals[2]?).map (·.type) = some 144 := by kernel_rfl
theorem kFirst : tabOK Tryz.prog 4 124 = true := by kernel_rfl
theorem kAcc : tabOK Tryz.prog 4 127 = true := by kernel_rfl
theorem kPow : tabOK Tryz.prog 4 144 = true := by kernel_rfl
theorem dFirst : dataCells Rows.laid_unicode_utf8_first = some tabFirst := by kernel_rfl
theorem dAcc : dataCells Rows.laid_unicode_utf8_acceptRanges = some tabAcc := by kernel_rfl
theorem dPow : dataCells Rows.laid_internal_strconv_uint64pow10 = some (Lib.pow10Tab.map fun z => Value.int .u64 z) := by kernel_rfl
def laid16 : List (String × DataW Unit) := [("math/bits.deBruijn32tab", Rows.laid_math_bits_deBruijn32tab), ("math/bits.deBruijn64tab", Rows.laid_math_bits_deBruijn64tab), ("internal/strconv.uint64pow10", Rows.laid_internal_strconv_uint64pow10), ("unicode/utf8.acceptRanges", Rows.laid_unicode_utf8_acceptRanges), ("unicode/utf8.first", Rows.laid_unicode_utf8_first)]
theorem plain16 : (laid16.all fun x => x.2.handleName?.isNone) = true := by kernel_rfl
theorem glob16_ok {W : World} (h : laidMetH Tryz.prog laid16 W) (hs : W.ShapedOpen Tryz.prog) : GlobR (World.ctx W) E16.glob := by
  rw [MakeChecks.laidMetH_plain _ _ _ plain16] at h
  obtain ⟨ps, ⟨_, _, _, _, _, _, _, _, _, _, ⟨_, _, _, _, _, _, _, _, _, _, ⟨g2, t2, cs2, f2, p2, q2, hg2, ht2, hv2, hd2, ⟨g1, t1, cs1, f1, p1, q1, hg1, ht1, hv1, hd1, ⟨g0, t0, cs0, f0, p0, q0, hg0, ht0, hv0, hd0, _, _⟩, _⟩, _⟩, _⟩, _⟩, _, _⟩ := h
  obtain rfl := Option.some.inj (gFirst.symm.trans hg0)
  obtain rfl := Option.some.inj (gAcc.symm.trans hg1)
  obtain rfl := Option.some.inj (gPow.symm.trans hg2)
  obtain rfl := Option.some.inj (tFirst.symm.trans ht0)
  obtain rfl := Option.some.inj (tAcc.symm.trans ht1)
  obtain rfl := Option.some.inj (tPow.symm.trans ht2)
  have h0 := laidG_of hg0 hv0 hd0 kFirst dFirst (by kernel_rfl)
  have h1 := laidG_of hg1 hv1 hd1 kAcc dAcc (by kernel_rfl)
  have h2 := laidG_of hg2 hv2 hd2 kPow dPow (by kernel_rfl)
  intro g cs hg
  have hg' : glob16 g = some cs := hg
  unfold glob16 at hg'
  split at hg'
  · cases hg'; exact ⟨h0.1, by rw [List.length_map]; exact h0.2⟩
  · cases hg'; exact ⟨h1.1, by rw [List.length_map]; exact h1.2⟩
  · cases hg'; exact ⟨h2.1, by rw [List.length_map]; exact h2.2⟩
  · cases hg'
theorem cells54 : Tryz.prog.cellsOf 54 = 12 := by kernel_rfl
theorem cells35 : Tryz.prog.cellsOf 35 = 12 := by kernel_rfl
theorem open_plan {d : Nat} {l : List AV} (h : Reads Tryz.prog (d + 2) 52 l) : ∃ p : PlanT, l = [vi p.ret, vi p.base, vi p.fac, vi p.cap] := by
  obtain ⟨ls, rfl, hh⟩ := reads_struct Tryz.underlying52 h
  obtain ⟨_, _, rfl, h1, _, _, rfl, h2, _, _, rfl, h3, _, _, rfl, h4, rfl⟩ := hh
  obtain ⟨a, rfl, b1⟩ := reads_int Tryz.underlying3 h1
  obtain ⟨b, rfl, b2⟩ := reads_int Tryz.underlying3 h2
  obtain ⟨c, rfl, b3⟩ := reads_int Tryz.underlying3 h3
  obtain ⟨e, rfl, b4⟩ := reads_int Tryz.underlying3 h4
  exact ⟨⟨a, b, c, e⟩, rfl⟩
theorem open_step {d : Nat} {l : List AV} (h : Reads Tryz.prog (d + 3) 54 l) : ∃ s : StepT, l = s.cells ∧ True := by
  obtain ⟨ls, rfl, hh⟩ := reads_struct Tryz.underlying54 h
  obtain ⟨_, _, rfl, h1, _, _, rfl, h2, _, _, rfl, h3, _, _, rfl, h4, _, _, rfl, h5, _, _, rfl, h6, rfl⟩ := hh
  obtain ⟨a, rfl, b1⟩ := reads_string Tryz.underlying9 h1
  obtain ⟨b, rfl, b2⟩ := reads_string Tryz.underlying9 h2
  obtain ⟨c, rfl, b3⟩ := reads_int Tryz.underlying3 h3
  obtain ⟨p, rfl⟩ := open_plan h4
  obtain ⟨q, rfl⟩ := open_plan h5
  obtain ⟨e, rfl, b6⟩ := reads_int Tryz.underlying3 h6
  exact ⟨⟨a, b, c, p, q, e⟩, rfl, trivial⟩
theorem open_def {d : Nat} {l : List AV} (h : Reads Tryz.prog (d + 5) 33 l) : ∃ x : DefT, l = x.cells := by
  obtain ⟨ls, rfl, hh⟩ := reads_struct Tryz.underlying33 h
  obtain ⟨_, _, rfl, h1, _, _, rfl, h2, _, _, rfl, h3, rfl⟩ := hh
  obtain ⟨a, rfl, b1⟩ := reads_string Tryz.underlying9 h1
  obtain ⟨b, rfl, b2⟩ := reads_int Tryz.underlying3 h2
  obtain ⟨s, rfl, b3, b4⟩ := reads_slice (f := StepT.cells) (ok := fun _ => True) Tryz.underlying31 cells54 (fun c hc => open_step hc) h3
  exact ⟨⟨a, b, s⟩, rfl⟩
theorem open_rep {d : Nat} {l : List AV} (h : Reads Tryz.prog (d + 2) 30 l) : ∃ r : RpT, l = [vi r.saga, vi r.step, vb r.undo, vi r.try_, vb r.good] := by
  obtain ⟨ls, rfl, hh⟩ := reads_struct Tryz.underlying30 h
  obtain ⟨_, _, rfl, h1, _, _, rfl, h2, _, _, rfl, h3, _, _, rfl, h4, _, _, rfl, h5, rfl⟩ := hh
  obtain ⟨a, rfl, _⟩ := reads_int Tryz.underlying3 h1
  obtain ⟨b, rfl, _⟩ := reads_int Tryz.underlying3 h2
  obtain ⟨c, rfl⟩ := reads_bool Tryz.underlying4 h3
  obtain ⟨e, rfl, _⟩ := reads_int Tryz.underlying3 h4
  obtain ⟨g, rfl⟩ := reads_bool Tryz.underlying4 h5
  exact ⟨⟨a, b, c, e, g⟩, rfl⟩
theorem open_ev {d : Nat} {l : List AV} (h : Reads Tryz.prog (d + 6) 35 l) : ∃ v : EvT, l = v.cells ∧ True := by
  obtain ⟨ls, rfl, hh⟩ := reads_struct Tryz.underlying35 h
  obtain ⟨_, _, rfl, h1, _, _, rfl, h2, _, _, rfl, h3, _, _, rfl, h4, _, _, rfl, h5, _, _, rfl, h6, rfl⟩ := hh
  obtain ⟨a, rfl, _⟩ := reads_int Tryz.underlying3 h1
  obtain ⟨b, rfl, _⟩ := reads_int Tryz.underlying3 h2
  obtain ⟨c, rfl, _⟩ := reads_int Tryz.underlying3 h3
  obtain ⟨e, rfl, _⟩ := reads_string Tryz.underlying9 h4
  obtain ⟨r, rfl⟩ := open_rep h5
  obtain ⟨g, rfl⟩ := open_def h6
  exact ⟨⟨a, b, c, e, r, g⟩, rfl, trivial⟩
theorem arg_evs {a : AV} (h : ArgOf Tryz.prog 22 a) : ∃ x : Sl EvT, a = lv x ∧ x.list.length < 9223372036854775807 + 1 := by
  unfold ArgOf at h
  rw [Tryz.underlying22] at h
  obtain ⟨s, h1, h2, _⟩ := reads_slice (f := EvT.cells) (ok := fun _ => True) Tryz.underlying22 cells35 (fun c hc => open_ev hc) h
  cases h1
  exact ⟨s, rfl, Nat.lt_succ_of_le h2⟩
theorem arg_int {a : AV} (h : ArgOf Tryz.prog 3 a) : ∃ n, a = vi n := by
  unfold ArgOf at h
  rw [Tryz.underlying3] at h
  obtain ⟨n, h1, _⟩ := reads_int Tryz.underlying3 h
  cases h1
  exact ⟨n, rfl⟩
theorem awake16P : callP E16 f_usufructlaw16_awake [] = some (vb true) := by
  have h := awake16
  cases k : callF E16 60 f_usufructlaw16_awake [] [] [] with
  | none => rw [k] at h; cases h
  | some p =>
    rw [k] at h
    refine callP_of 60 ?_
    rw [k]
    obtain ⟨r, st⟩ := p
    simp only [Option.map_some, Option.some.injEq] at h
    subst h
    rfl
theorem std16 : Std E16 fns := ⟨by kernel_rfl, fun f fd h => by
  show prim16 f = none
  have h2 : fns 48 = none ∧ fns 52 = none ∧ fns 71 = none ∧ fns 120 = none := ⟨by kernel_rfl, by kernel_rfl, by kernel_rfl, by kernel_rfl⟩
  unfold prim16
  split
  · rw [h2.1] at h; cases h
  · rw [h2.2.1] at h; cases h
  · rw [h2.2.2.1] at h; cases h
  · rw [h2.2.2.2] at h; cases h
  · rfl⟩
theorem pv16 : E16.prim f_utf8_ValidString = some pValid := by kernel_rfl
theorem pi16 : E16.prim f_strconv_Itoa_0 = some pItoa := by kernel_rfl
theorem vo16 : VO E16 := fun s hs => by
  unfold callP
  rw [call_prim pv16]
  simp only [pValid]
  rw [if_pos (by omega)]
  rfl
theorem io16 : IO E16 := fun n h0 h1 => by
  unfold callP
  rw [call_prim pi16]
  simp only [pItoa]
  rw [if_pos ⟨h0, h1⟩]
  rfl
theorem lok16 : LOK E16 := ⟨std16, vo16, io16, by show prim16 48 = _; rfl, by show prim16 52 = _; rfl⟩
theorem law16 (n : List TypeId) (f : Nat) (law : ∀ avs, ArgsOf Tryz.prog n avs → callP E16 f avs = some (.v (.bool true))) (W : World) (hl : laidMetH Tryz.prog laid16 W) (hs : W.ShapedOpen Tryz.prog) :
    ∃ E : Prog, GRo E.glob ∧ PrimOK Tryz.prog E ∧ PrimSc E ∧ (∀ f fd, E.fn f = some fd → FnChk Tryz.prog f fd) ∧ GlobR (World.ctx W) E.glob ∧ ∀ avs, ArgsOf Tryz.prog n avs → callP E f avs = some (.v (.bool true)) :=
  ⟨E16, gro16, prim16_ok, prim16_sc, fns_ok, glob16_ok hl hs, law⟩
end Go.Proofs.YtbpndomfipdhdaaGreatDoor.Ev
