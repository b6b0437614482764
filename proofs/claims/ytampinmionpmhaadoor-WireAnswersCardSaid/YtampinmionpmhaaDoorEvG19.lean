/-
  Chapter 19: what the evaluator's program gives; the listed variables, the arguments.
-/
import Derived.Test.YtampinmionpmhaaDoorEvPr
import Derived.Test.YtampinmionpmhaaDoorEvIR
import Derived.Test.YtampinmionpmhaaDoorEvCk
import Derived.Test.YtampinmionpmhaaDoorEvWi9
import Derived.Test.YtampinmionpmhaaDoorEvOpen
import Derived.Test.YtampinmionpmhaaDoorTie
import Derived.Test.YtampinmionpmhaaDoorCards
import Derived.Lib.ValidU
set_option linter.unusedVariables false
set_option linter.unusedSimpArgs false
set_option maxRecDepth 100000
namespace Go.Proofs.YtampinmionpmhaaDoor.Ev
open Go.RowKit Go.Proofs Go.ChangeShapes Go.WideShapes
def glob19 (m : Int) : Nat → Option (List AV)
  | 0 => some (tabFirst.map AV.v)
  | 1 => some (tabAcc.map AV.v)
  | 2 => some ((Lib.pow10Tab.map fun z => Value.int .u64 z).map AV.v)
  | 3 => some [.v (.int .i64 m)]
  | 4 => some [.ifc]
  | 5 => some [.ifc]
  | _ => none
def prim19 : Nat → Option (List AV → Store → Option (AV × Store))
  | 24 => some pItoa
  | 32 => some pSplit
  | 35 => some pValid
  | 43 => some pJoin
  | 53 => some pAtoi
  | _ => none
def E19 (m : Int) : Prog := ⟨glob19 m, fns, prim19⟩
theorem awake19 (m : Int) : (callF (E19 m) 60 f_usufructlaw19_awake [] [] []).map (·.1) = some (.v (.bool true)) := by kernel_rfl
theorem prim19_ok (m : Int) : PrimOK Go.Proofs.Tryd.prog (E19 m) := by
  intro f p xs C r st' cargs hp h hO hg hv
  have hp' : prim19 f = some p := hp
  unfold prim19 at hp'
  split at hp'
  · cases hp'; exact ok_itoa (G := (E19 m).glob) rfl xs C r st' cargs h hO hg hv
  · cases hp'; exact ok_split (G := (E19 m).glob) (m := m) rfl xs C r st' cargs h hO hg hv
  · cases hp'; exact ok_valid (G := (E19 m).glob) rfl rfl xs C r st' cargs h hO hg hv
  · cases hp'; exact ok_join (G := (E19 m).glob) xs C r st' cargs h hO hg hv
  · cases hp'; exact ok_atoi (G := (E19 m).glob) rfl rfl xs C r st' cargs h hO hg hv
  · cases hp'
theorem prim19_sc (m : Int) : PrimSc (E19 m) := by
  intro f p xs st r st' bases hp h
  have hp' : prim19 f = some p := hp
  have : st' = st := by
    unfold prim19 at hp'
    split at hp'
    · cases hp'; exact keep_itoa _ _ _ _ h
    · cases hp'; exact keep_split _ _ _ _ h
    · cases hp'; exact keep_valid _ _ _ _ h
    · cases hp'; exact keep_join _ _ _ _ h
    · cases hp'; exact keep_atoi _ _ _ _ h
    · cases hp'
  subst this
  exact Grows.refl _
theorem belows_v : ∀ l : List Value, belows 0 (l.map AV.v) = true
  | [] => rfl
  | x :: l => by simp only [List.map_cons, belows, AV.under, belows_v l, Bool.and_self]
theorem gro19 (m : Int) : GRo (E19 m).glob := by
  intro g cs h
  have h' : glob19 m g = some cs := h
  unfold glob19 at h'
  split at h'
  · cases h'; exact belows_v _
  · cases h'; exact belows_v _
  · cases h'; exact belows_v _
  · cases h'; rfl
  · cases h'; rfl
  · cases h'; rfl
  · cases h'
/-! ### the listed variables -/
theorem trod_ifc {P : Program} {w : World} {fuel : Nat} {t : TypeId} {cs : List Value} {nm : String} {d : DataW Unit} {p : List MemPlace} {ms : Array (String × TypeId)} (ht : P.underlying t = some (.interface ms))
    (h : DataW.trod (fun _ => ()) P w 0 (fun _ => true) false fuel t cs = some (.iface nm d, p)) : ∃ u v, cs = [.iface u v] := by
  cases fuel with
  | zero => simp [DataW.trod] at h
  | succ n =>
    unfold DataW.trod at h
    rw [ht] at h
    split at h <;> simp_all
theorem laidG_ifc {P : Program} {w : World} {nm tn : String} {g : Nat} {t : TypeId} {cs : Array Value} {fuel : Nat} {d : DataW Unit} {p : List MemPlace} {ms : Array (String × TypeId)} (hg : P.globalNamed nm = some g) (hv : w.var? P nm = some cs) (ht : P.underlying t = some (.interface ms))
    (hd : DataW.trod (fun _ => ()) P w 0 (fun _ => true) false fuel t cs.toList = some (.iface tn d, p)) : VRat (World.ctx w) ⟨g, 0, none⟩ [.ifc] 0 ∧ ∃ t, w.shape? g = some (t, 1) := by
  obtain ⟨u, v, hc⟩ := trod_ifc ht hd
  have hs : cs = #[.iface u v] := by
    apply Array.ext'
    rw [hc]
  subst hs
  refine ⟨VRat_mk fun i a ha => ?_, ?_⟩
  · cases i with
    | zero =>
      simp only [List.getElem?_cons_zero, Option.some.injEq] at ha
      subst ha
      refine ⟨.iface u v, ctx_stable ?_, by simp only [VR]; exact ⟨u, v, rfl⟩, rfl⟩
      have := World.var?_cell hg hv 0
      simpa [Addr.add] using this
    | succ i => simp at ha
  · simp only [World.var?, hg, Option.bind_some] at hv
    split at hv
    · rename_i c1 el fr hh
      cases hv
      exact ⟨el, by simp [World.shape?, hh]⟩
    · cases hv
theorem gFirst : Tryd.prog.globalNamed "unicode/utf8.first" = some 0 := by kernel_rfl
theorem gAcc : Tryd.prog.globalNamed "unicode/utf8.acceptRanges" = some 1 := by kernel_rfl
theorem gPow : Tryd.prog.globalNamed "internal/strconv.uint64pow10" = some 2 := by kernel_rfl
theorem gSyn : Tryd.prog.globalNamed "strconv.ErrSyntax" = some 4 := by kernel_rfl
theorem gRng : Tryd.prog.globalNamed "strconv.ErrRange" = some 5 := by kernel_rfl
theorem tFirst : (Tryd.prog.globals[0]?).map (·.type) = some 71 := by kernel_rfl
theorem tAcc : (Tryd.prog.globals[1]?).map (·.type) = some 74 := by kernel_rfl
theorem tPow : (Tryd.prog.globals[2]?).map (·.type) = some 102 := by kernel_rfl
theorem tSyn : (Tryd.prog.globals[4]?).map (·.type) = some 81 := by kernel_rfl
theorem tRng : (Tryd.prog.globals[5]?).map (·.type) = some 81 := by kernel_rfl
theorem kFirst : tabOK Tryd.prog 4 71 = true := by kernel_rfl
theorem kAcc : tabOK Tryd.prog 4 74 = true := by kernel_rfl
theorem kPow : tabOK Tryd.prog 4 102 = true := by kernel_rfl
theorem dFirst : dataCells Rows.laid_unicode_utf8_first = some tabFirst := by kernel_rfl
theorem dAcc : dataCells Rows.laid_unicode_utf8_acceptRanges = some tabAcc := by kernel_rfl
theorem dPow : dataCells Rows.laid_internal_strconv_uint64pow10 = some (Lib.pow10Tab.map fun z => Value.int .u64 z) := by kernel_rfl
theorem gSize : Tryd.prog.globals.size = 8 := by kernel_rfl
theorem hMaxLen {W : World} (h : W.ShapedOpen Tryd.prog) : ∃ m, LaidG W 3 [.int .i64 m] := by
  have h0 : ((begin Tryd.prog (fun _ _ => 0) default).world.heap[3]?).bind Obj.row? = some (#[.int .i64 0], 3) := by kernel_rfl
  exact laidG_int h (by have := gSize
                        omega) h0 rfl (cell_of_shapedOpen_int h (by have := gSize
                                                                    omega) h0 rfl (by kernel_rfl) (by kernel_rfl) Tryd.underlying3)
def laid19 : List (String × DataW Unit) := [("math/bits.deBruijn32tab", Rows.laid_math_bits_deBruijn32tab), ("math/bits.deBruijn64tab", Rows.laid_math_bits_deBruijn64tab), ("internal/strconv.uint64pow10", Rows.laid_internal_strconv_uint64pow10), ("unicode/utf8.acceptRanges", Rows.laid_unicode_utf8_acceptRanges), ("strconv.ErrRange", Rows.laid_strconv_ErrRange), ("strconv.ErrSyntax", Rows.laid_strconv_ErrSyntax), ("unicode/utf8.first", Rows.laid_unicode_utf8_first)]
theorem plain19 : (laid19.all fun x => x.2.handleName?.isNone) = true := by kernel_rfl
theorem glob19_ok {W : World} (h : laidMetH Tryd.prog laid19 W) (hs : W.ShapedOpen Tryd.prog) : ∃ m, GlobR (World.ctx W) (E19 m).glob := by
  rw [MakeChecks.laidMetH_plain _ _ _ plain19] at h
  obtain ⟨ps, ⟨_, _, _, _, _, _, _, _, _, _, ⟨_, _, _, _, _, _, _, _, _, _, ⟨g2, t2, cs2, f2, p2, q2, hg2, ht2, hv2, hd2, ⟨g1, t1, cs1, f1, p1, q1, hg1, ht1, hv1, hd1, ⟨g5, t5, cs5, f5, p5, q5, hg5, ht5, hv5, hd5, ⟨g4, t4, cs4, f4, p4, q4, hg4, ht4, hv4, hd4, ⟨g0, t0, cs0, f0, p0, q0, hg0, ht0, hv0, hd0, _, _⟩, _⟩, _⟩, _⟩, _⟩, _⟩, _⟩, _⟩ := h
  obtain rfl := Option.some.inj (gFirst.symm.trans hg0)
  obtain rfl := Option.some.inj (gAcc.symm.trans hg1)
  obtain rfl := Option.some.inj (gPow.symm.trans hg2)
  obtain rfl := Option.some.inj (gSyn.symm.trans hg4)
  obtain rfl := Option.some.inj (gRng.symm.trans hg5)
  obtain rfl := Option.some.inj (tFirst.symm.trans ht0)
  obtain rfl := Option.some.inj (tAcc.symm.trans ht1)
  obtain rfl := Option.some.inj (tPow.symm.trans ht2)
  obtain rfl := Option.some.inj (tSyn.symm.trans ht4)
  obtain rfl := Option.some.inj (tRng.symm.trans ht5)
  have h0 := laidG_of hg0 hv0 hd0 kFirst dFirst (by kernel_rfl)
  have h1 := laidG_of hg1 hv1 hd1 kAcc dAcc (by kernel_rfl)
  have h2 := laidG_of hg2 hv2 hd2 kPow dPow (by kernel_rfl)
  have h4 := laidG_ifc hg4 hv4 Tryd.underlying81 hd4
  have h5 := laidG_ifc hg5 hv5 Tryd.underlying81 hd5
  obtain ⟨m, h3⟩ := hMaxLen hs
  refine ⟨m, fun g cs hg => ?_⟩
  have hg' : glob19 m g = some cs := hg
  unfold glob19 at hg'
  split at hg'
  · cases hg'; exact ⟨h0.1, by rw [List.length_map]; exact h0.2⟩
  · cases hg'; exact ⟨h1.1, by rw [List.length_map]; exact h1.2⟩
  · cases hg'; exact ⟨h2.1, by rw [List.length_map]; exact h2.2⟩
  · cases hg'; exact h3
  · cases hg'; exact h4
  · cases hg'; exact h5
  · cases hg'
/-! ### the arguments -/
theorem open_cmd {d : Nat} {l : List AV} (h : Reads Tryd.prog (d + 2) 23 l) : ∃ s : CmdT, l = s.cells ∧ s.party.size ≤ maxLen := by
  obtain ⟨ls, rfl, hh⟩ := reads_struct Tryd.underlying23 h
  obtain ⟨_, _, rfl, h1, _, _, rfl, h2, _, _, rfl, h3, _, _, rfl, h4, _, _, rfl, h5, _, _, rfl, h6, rfl⟩ := hh
  obtain ⟨a, rfl, _⟩ := reads_int Tryd.underlying3 h1
  obtain ⟨b, rfl, _⟩ := reads_int Tryd.underlying3 h2
  obtain ⟨c, rfl⟩ := reads_bool Tryd.underlying4 h3
  obtain ⟨e, rfl, _⟩ := reads_int Tryd.underlying3 h4
  obtain ⟨g, rfl, hg⟩ := reads_string Tryd.underlying9 h5
  obtain ⟨i, rfl, _⟩ := reads_string Tryd.underlying9 h6
  exact ⟨⟨a, b, c, e, g, i⟩, rfl, hg⟩
theorem open_rep {d : Nat} {l : List AV} (h : Reads Tryd.prog (d + 2) 25 l) : ∃ s : RepT, l = s.cells := by
  obtain ⟨ls, rfl, hh⟩ := reads_struct Tryd.underlying25 h
  obtain ⟨_, _, rfl, h1, _, _, rfl, h2, _, _, rfl, h3, _, _, rfl, h4, _, _, rfl, h5, rfl⟩ := hh
  obtain ⟨a, rfl, _⟩ := reads_int Tryd.underlying3 h1
  obtain ⟨b, rfl, _⟩ := reads_int Tryd.underlying3 h2
  obtain ⟨c, rfl⟩ := reads_bool Tryd.underlying4 h3
  obtain ⟨e, rfl, _⟩ := reads_int Tryd.underlying3 h4
  obtain ⟨g, rfl⟩ := reads_bool Tryd.underlying4 h5
  exact ⟨⟨a, b, c, e, g⟩, rfl⟩
theorem arg_cmd {a : AV} (h : ArgOf Tryd.prog 23 a) : ∃ x : CmdT, a = .agg x.cells ∧ x.party.size ≤ maxLen := by
  unfold ArgOf at h
  rw [Tryd.underlying23] at h
  obtain ⟨l, rfl, h⟩ := h
  obtain ⟨x, rfl, hx⟩ := open_cmd h
  exact ⟨x, rfl, hx⟩
theorem arg_rep {a : AV} (h : ArgOf Tryd.prog 25 a) : ∃ x : RepT, a = .agg x.cells := by
  unfold ArgOf at h
  rw [Tryd.underlying25] at h
  obtain ⟨l, rfl, h⟩ := h
  obtain ⟨x, rfl⟩ := open_rep h
  exact ⟨x, rfl⟩
theorem arg_string {a : AV} (h : ArgOf Tryd.prog 9 a) : ∃ s, a = vs s ∧ s.size ≤ maxLen := by
  unfold ArgOf at h
  rw [Tryd.underlying9] at h
  obtain ⟨n, h1, h2⟩ := reads_string Tryd.underlying9 h
  cases h1
  exact ⟨n, rfl, h2⟩
theorem arg_bool {a : AV} (h : ArgOf Tryd.prog 4 a) : ∃ b, a = vb b := by
  unfold ArgOf at h
  rw [Tryd.underlying4] at h
  obtain ⟨n, h1⟩ := reads_bool Tryd.underlying4 h
  cases h1
  exact ⟨n, rfl⟩
/-! ### what the library gives -/
theorem awake19P (m : Int) : callP (E19 m) f_usufructlaw19_awake [] = some (vb true) := by
  have h := awake19 m
  cases k : callF (E19 m) 60 f_usufructlaw19_awake [] [] [] with
  | none => rw [k] at h; cases h
  | some p =>
    rw [k] at h
    refine callP_of 60 ?_
    rw [k]
    obtain ⟨r, st⟩ := p
    simp only [Option.map_some, Option.some.injEq] at h
    subst h
    rfl
theorem std19 (m : Int) : Std (E19 m) fns := ⟨by kernel_rfl, fun f fd h => by
  show prim19 f = none
  have h2 : fns 24 = none ∧ fns 32 = none ∧ fns 35 = none ∧ fns 43 = none ∧ fns 53 = none := ⟨by kernel_rfl, by kernel_rfl, by kernel_rfl, by kernel_rfl, by kernel_rfl⟩
  unfold prim19
  split
  · rw [h2.1] at h; cases h
  · rw [h2.2.1] at h; cases h
  · rw [h2.2.2.1] at h; cases h
  · rw [h2.2.2.2.1] at h; cases h
  · rw [h2.2.2.2.2] at h; cases h
  · rfl⟩
theorem pv19 (m : Int) : (E19 m).prim f_utf8_ValidString = some pValid := by kernel_rfl
theorem pi19 (m : Int) : (E19 m).prim f_strconv_Itoa_0 = some pItoa := by kernel_rfl
theorem ps19 (m : Int) : (E19 m).prim f_strings_Split = some pSplit := by kernel_rfl
theorem pj19 (m : Int) : (E19 m).prim f_strings_Join = some pJoin := by kernel_rfl
theorem pa19 (m : Int) : (E19 m).prim f_strconv_Atoi_0 = some pAtoi := by kernel_rfl
theorem vok19 (m : Int) : VOK (E19 m) := fun s hs => by
  unfold callP
  rw [call_prim (pv19 m)]
  simp only [pValid]
  rw [if_pos (by omega)]
  rfl
theorem itok19 (m : Int) : ITOK (E19 m) := fun n h0 h1 => by
  unfold callP
  rw [call_prim (pi19 m)]
  simp only [pItoa]
  rw [if_pos ⟨h0, h1⟩]
  rfl
theorem atok19 (m : Int) : ATOK (E19 m) := fun w h => by
  unfold callP
  rw [call_prim (pa19 m)]
  have h1 : (BA w).size ≤ 281474976710656 := h
  have h2 : (BA w).data.toList = w := ba_data w
  simp only [pAtoi]
  rw [if_pos h1, h2]
  unfold numN
  cases Lib.atoiAll w <;> rfl
theorem ross_strL : ∀ l : List (List UInt8), ross (l.map strL) = true
  | [] => rfl
  | x :: l => by
    have ih := ross_strL l
    rw [List.map_cons]
    unfold ross at ih ⊢
    rw [belowss, ih]; rfl
theorem spb19 (m : Int) : SPB (E19 m) := fun s hs => by
  unfold callP
  rw [call_prim (ps19 m)]
  have h1 : (BA s).size < 4294967281 := hs
  simp only [pSplit]
  rw [if_pos ⟨h1, by decide⟩, split_pcs, List.map_map, ba_data]
  simp only [AV.snap]
  exact if_pos (ross_strL _)
theorem sps19 (m : Int) : SPS (E19 m) := fun s hs => by
  unfold callP
  rw [call_prim (ps19 m)]
  simp only [pSplit]
  rw [if_pos ⟨hs, by decide⟩, split_parts, List.map_map]
  simp only [AV.snap]
  exact if_pos (ross_strL _)
theorem texts_strL : ∀ l : List (List UInt8), texts (l.map strL) = some (l.map BA)
  | [] => rfl
  | x :: l => by
    have ih := texts_strL l
    rw [List.map_cons]
    show (match texts (l.map strL) with | some r => some (BA x :: r) | none => none) = _
    rw [ih]; rfl
theorem join_eq : ∀ ts : List (List UInt8), Lib.join ((ts.map BA).map (·.data.toList)) [32] = joinB ts
  | [] => rfl
  | [a] => by
    show Lib.join [(BA a).data.toList] [32] = _
    rw [Lib.join_one, ba_data]
    show a = if ([] : List (List UInt8)) = [] then a else _
    rw [if_pos rfl]
  | a :: b :: ts => by
    have ih := join_eq (b :: ts)
    rw [joinB, if_neg (by simp), ← ih]
    unfold Lib.join
    simp only [List.map_cons, ba_data]
    rw [List.intercalate_cons_cons]
    simp
theorem join_le0 : ∀ {ts : List (List UInt8)} {B : Nat}, (∀ p, p ∈ ts → p.length ≤ B) → (joinB ts).length ≤ ts.length * (B + 1)
  | [], B, _ => by simp [joinB]
  | a :: ts, B, h => by
    have h1 := h a (by simp)
    have ih := join_le0 (ts := ts) (B := B) fun p hp => h p (List.mem_cons_of_mem _ hp)
    rw [joinB, List.length_cons, Nat.succ_mul]
    split
    · omega
    · simp only [List.length_append, List.length_cons]; omega
theorem jok19 (m : Int) : JOK (E19 m) := fun ts hn hl => by
  have e32 : (⟨#[32]⟩ : ByteArray).data.toList = [32] := rfl
  unfold callP
  rw [call_prim (pj19 m)]
  cases ts with
  | nil => rfl
  | cons a ts =>
    have hlen := join_le0 (ts := a :: ts) (B := 2000000) hl
    have h2 : (a :: ts).length * (2000000 + 1) ≤ 1000 * 2000001 := Nat.mul_le_mul_right _ hn
    show (match pJoin [.sl 1 ((a :: ts).map strL), .v (.string ⟨#[32]⟩)] [] with | some (r, st) => r.snap st | none => none) = _
    simp only [pJoin, texts_strL]
    rw [join_eq, if_pos ⟨by rw [List.length_map]; omega, by omega⟩]
    rfl
theorem law19 (n : List TypeId) (f : Nat) (law : ∀ m avs, ArgsOf Tryd.prog n avs → callP (E19 m) f avs = some (.v (.bool true))) (W : World) (hl : laidMetH Tryd.prog laid19 W) (hs : W.ShapedOpen Tryd.prog) :
    ∃ E : Prog, GRo E.glob ∧ PrimOK Tryd.prog E ∧ PrimSc E ∧ (∀ f fd, E.fn f = some fd → FnChk Tryd.prog f fd) ∧ GlobR (World.ctx W) E.glob ∧ ∀ avs, ArgsOf Tryd.prog n avs → callP E f avs = some (.v (.bool true)) := by
  obtain ⟨m, hg⟩ := glob19_ok hl hs
  exact ⟨E19 m, gro19 m, prim19_ok m, prim19_sc m, fns_ok, hg, law m⟩
theorem law_wireLines (m : Int) (avs : List AV) (h : ArgsOf Tryd.prog [23, 25, 9, 4] avs) : callP (E19 m) f_usufructlaw19_WireLines avs = some (.v (.bool true)) := by
  simp only [ArgsOf] at h
  obtain ⟨a, _, rfl, ha, b, _, rfl, hb, c, _, rfl, hc, d, _, rfl, hd, rfl⟩ := h
  obtain ⟨c1, rfl, h1⟩ := arg_cmd ha
  obtain ⟨r, rfl⟩ := arg_rep hb
  obtain ⟨s, rfl, _⟩ := arg_string hc
  obtain ⟨g, rfl⟩ := arg_bool hd
  exact fn_lawLines (std19 m) (itok19 m) (atok19 m) (spb19 m) (vok19 m) (sps19 m) (jok19 m) (awake19P m) c1 r s g
theorem law_wireAnswers (m : Int) (avs : List AV) (h : ArgsOf Tryd.prog [23, 4] avs) : callP (E19 m) f_usufructlaw19_WireAnswers avs = some (.v (.bool true)) := by
  simp only [ArgsOf] at h
  obtain ⟨a, _, rfl, ha, d, _, rfl, hd, rfl⟩ := h
  obtain ⟨c1, rfl, h1⟩ := arg_cmd ha
  obtain ⟨g, rfl⟩ := arg_bool hd
  exact fn_lawAnswers (std19 m) (itok19 m) (atok19 m) (spb19 m) (vok19 m) (sps19 m) (jok19 m) (awake19P m) c1 g
end Go.Proofs.YtampinmionpmhaaDoor.Ev
