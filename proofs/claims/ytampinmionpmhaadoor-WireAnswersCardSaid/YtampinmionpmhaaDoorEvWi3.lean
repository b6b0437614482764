/-
  Lines of commands and replies: what is read of a line.
-/
import Derived.Test.YtampinmionpmhaaDoorEvWi2
import Derived.Test.YtampinmionpmhaaDoorEvPcs
set_option linter.unusedVariables false
set_option linter.unusedSimpArgs false
namespace Go.Proofs.YtampinmionpmhaaDoor.Ev
attribute [local congr] bind_congr_head
attribute [local go_sem] opd_t opd_c opd_g opd_f opds_nil opds_cons get_cons put_some put_none keep_nil keepC_s keepC_n keep_cons runs_nil runs_cons run_op run_opr run_call run_gand run_gor run_gif seqK_norm seqK_exit seqK_ret blkK_norm blkK_exit blkK_ret runL_skip runL_exit runL_ret runL_items runL_seq runL_cond runL_block runL_loop fin_bind finK_norm finK_ret rvs_nil rvs_cons rv_tmp rv_cell tupOf_one tupOf_nil tupOf_two ev_mov ev_pick ev_alloc ev_box ev_build parts_nil parts_cons fills_nil fills_cons ev_bsl ev_bslo ev_load ev_store ev_nilck ev_bin ev_binb ev_aeq ev_un ev_i2i ev_i2t ev_isnilI nilIF ev_s2b ev_ext ev_fld ev_idxs ev_fa ev_ias ev_len ev_lens ev_s2s ev_mkf ev_rng ev_nxt ev_app bOf_s pvOf_s agOf_s tpOf_s iOf_s sOf_s ite_bind Option.bind_some Option.bind_none if_true if_false ite_true ite_false argEnv_nil argEnv_cons len_av elems_av ias_av cells_av tuple_av faF ldAt liveRef aggOf nilckF binV binI binS binB unV Bool.not_true Bool.not_false List.length_nil List.length_cons List.nil_append List.cons_append List.append_nil List.getElem?_cons_zero List.getElem?_cons_succ List.drop_zero List.drop_succ_cons List.drop_nil List.take_zero List.take_succ_cons List.take_nil List.set_cons_zero List.set_cons_succ compact_same compact_new closedB nodupB envIds ids0 upto visit pos sel AV.ids idss idsss Ob.ids AV.ren rens renss Ob.ren renEnv AV.snap snaps stAt okSt putCells List.all_nil List.all_cons List.contains_nil List.contains_cons Bool.and_true Bool.true_and Bool.and_false Bool.false_and Bool.or_true Bool.true_or Bool.or_false Bool.false_or decide_eq_true_eq decide_true decide_false beq_iff_eq bne_iff_ne beq_self_eq_true Bool.not_eq_true' Bool.false_eq_true eq_self and_self and_true true_and and_false false_and or_true true_or or_false false_or not_true_eq_false not_false_eq_true ne_eq Nat.zero_add Nat.add_zero Nat.le_refl Nat.not_lt_zero Nat.lt_irrefl Nat.zero_le Int.toNat_natCast gt_iff_lt ge_iff_le Int.lt_irrefl Int.natCast_nonneg txt_eq get_nil appF belows AV.under AV.flat flats List.length_map List.map_append List.map_cons List.map_nil List.length_append take_map_all List.flatten_cons List.flatten_nil bld_nil imp_false false_imp_iff false_implies true_implies implies_true decide_eq_false_iff_not Nat.one_mul Nat.mul_one idsss_app renss_app belowss_app ev_mn ev_mx ev_isnils ev_sls ev_slx evo_none evo_some vals minV maxV minF maxF backId List.getElem?_nil putAll Option.all_none Option.all_some Option.isSome_some intOf aszI compactV_same compactV_new callP_any callQ_eq callN_any boxQ AV.id? ids_avR ren_av under_av snap_av renss_mapf belowss_mapf idsss_mapf isnilsF List.length_eq_zero_iff int_beq int_bne decide_not slx_av Int.toNat_zero
structure CmdT where
  saga : Int
  step : Int
  undo : Bool
  tr : Int
  party : ByteArray
  key : ByteArray
  deriving DecidableEq
structure RepT where
  saga : Int
  step : Int
  undo : Bool
  tr : Int
  good : Bool
  deriving DecidableEq
def CmdT.cells (c : CmdT) : List AV := [vi c.saga, vi c.step, vb c.undo, vi c.tr, vs c.party, vs c.key]
def RepT.cells (c : RepT) : List AV := [vi c.saga, vi c.step, vb c.undo, vi c.tr, vb c.good]
def c0 : CmdT := ⟨0, 0, false, 0, ⟨#[]⟩, ⟨#[]⟩⟩
def r0 : RepT := ⟨0, 0, false, 0, false⟩
def wSend : List UInt8 := [115, 101, 110, 100]
def wReply : List UInt8 := [114, 101, 112, 108, 121]
def wGood : List UInt8 := [103, 111, 111, 100]
def wBad : List UInt8 := [98, 97, 100]
def wUndo : List UInt8 := [117, 110, 100, 111]
def wDo : List UInt8 := [100, 111]
theorem cv_v (x : Value) : AV.cells (.v x) = [.v x] := rfl
theorem cv_fn (f : Nat) (x : List AV) : AV.cells (.fn f x) = [.fn f x] := rfl
theorem cv_ref (a b c d : Nat) : AV.cells (.ref a b c d) = [.ref a b c d] := rfl
theorem cv_agg (l : List AV) : AV.cells (.agg l) = l := rfl
theorem tv_v (x : Value) : AV.tuple (.v x) = false := rfl
theorem tv_fn (f : Nat) (x : List AV) : AV.tuple (.fn f x) = false := rfl
theorem tv_ref (a b c d : Nat) : AV.tuple (.ref a b c d) = false := rfl
theorem tv_agg (l : List AV) : AV.tuple (.agg l) = false := rfl
abbrev SPB (E : Prog) : Prop := ∀ s : List UInt8, s.length < 4294967281 → callP E f_strings_Split [vs (BA s), vs ⟨#[32]⟩] = some ((Sl.mk (pcs s)).av 1 strL)
theorem fn_words {E : Prog} (hE : Std E fns) (hsp : SPB E) (s : List UInt8) (n : Int) (hl : s.length < 4294967281) :
    callL E f_wire_words [vs (BA s), vi n] [] [] = some (.ref 0 0 0 0, tkS (!decide (((pcs s).length : Int) = n)) 0 (pcs s)) := by
  have h := hsp s hl
  have hl : (Sl.mk (pcs s)).list = pcs s := rfl
  rw [hE.runN rfl rfl]
  by_cases c : ((pcs s).length : Int) = n
  · have c' := eq_true c
    rw [decide_eq_true c]
    simp -implicitDefEqProofs only [go_sem, reduceIte, reduceCtorEq, Nat.reduceEqDiff, Nat.reduceAdd, Nat.reduceSub, Nat.reduceLT, Nat.reduceLeDiff, Nat.reduceBEq, Nat.reduceMul, Nat.reduceBNe, Int.reduceEq, Int.reduceLT, Int.reduceLE, Int.reduceNe, Int.reduceToNat, ir_wire_words, h, hl, c', ro_strL, cv_v, cv_fn, cv_ref, cv_agg, tv_v, tv_fn, tv_ref, tv_agg]; rfl
  · have c' := eq_false c
    rw [decide_eq_false c]
    simp -implicitDefEqProofs only [go_sem, reduceIte, reduceCtorEq, Nat.reduceEqDiff, Nat.reduceAdd, Nat.reduceSub, Nat.reduceLT, Nat.reduceLeDiff, Nat.reduceBEq, Nat.reduceMul, Nat.reduceBNe, Int.reduceEq, Int.reduceLT, Int.reduceLE, Int.reduceNe, Int.reduceToNat, ir_wire_words, h, hl, c', ro_strL, cv_v, cv_fn, cv_ref, cv_agg, tv_v, tv_fn, tv_ref, tv_agg]; rfl
theorem st_must {E : Prog} (hE : Std E fns) (i j : Nat) (a b : Int) (hij : j = i + 1) (ha : a = i) (hb : b = j) (ws : List (List UInt8)) (hi : i < 1000) (hw : ws.length < 1000000) (w : List UInt8) (bad : Bool) :
    callL E f_wire_taker_must [.ref 0 0 0 0, vs (BA w)] [] [.box [.fn f_wire_words_1 [.ref 1 0 0 0, .ref 2 0 0 0], vb bad], .box [vi a], .box [(Sl.mk ws).av 1 strL]] = some (.tup [], [.box [.fn f_wire_words_1 [.ref 1 0 0 0, .ref 2 0 0 0], vb (!decide (ws.getD i [] = w) || bad)], .box [vi b], .box [(Sl.mk ws).av 1 strL]]) := by
  subst hij; subst ha; subst hb
  exact fn_must hE bad i ws hi hw w
theorem st_number {E : Prog} (hE : Std E fns) (hi' : ITOK E) (hat : ATOK E) (i j : Nat) (a b : Int) (hij : j = i + 1) (ha : a = i) (hb : b = j) (ws : List (List UInt8)) (hi : i < 1000) (hw : ws.length < 1000000) (hl : ∀ w, w ∈ ws → w.length ≤ 1000000) (bad : Bool) :
    callL E f_wire_taker_number [.ref 0 0 0 0] [] [.box [.fn f_wire_words_1 [.ref 1 0 0 0, .ref 2 0 0 0], vb bad], .box [vi a], .box [(Sl.mk ws).av 1 strL]] = some (vi (numN (ws.getD i [])), [.box [.fn f_wire_words_1 [.ref 1 0 0 0, .ref 2 0 0 0], vb (bad || !numK (ws.getD i []))], .box [vi b], .box [(Sl.mk ws).av 1 strL]]) := by
  subst hij; subst ha; subst hb
  exact fn_tnumber hE hi' hat bad i ws hi hw hl
theorem st_either {E : Prog} (hE : Std E fns) (i j : Nat) (a b : Int) (hij : j = i + 1) (ha : a = i) (hb : b = j) (ws : List (List UInt8)) (hi : i < 1000) (hw : ws.length < 1000000) (x y : List UInt8) (bad : Bool) :
    callL E f_wire_taker_either [.ref 0 0 0 0, vs (BA x), vs (BA y)] [] [.box [.fn f_wire_words_1 [.ref 1 0 0 0, .ref 2 0 0 0], vb bad], .box [vi a], .box [(Sl.mk ws).av 1 strL]] = some (vb (decide (ws.getD i [] = x)), [.box [.fn f_wire_words_1 [.ref 1 0 0 0, .ref 2 0 0 0], vb (bad || (!decide (ws.getD i [] = x) && !decide (ws.getD i [] = y)))], .box [vi b], .box [(Sl.mk ws).av 1 strL]]) := by
  subst hij; subst ha; subst hb
  exact fn_either hE bad i ws hi hw x y
theorem st_next {E : Prog} (hE : Std E fns) (i j : Nat) (a b : Int) (hij : j = i + 1) (ha : a = i) (hb : b = j) (ws : List (List UInt8)) (hi : i < 1000) (hw : ws.length < 1000000) :
    callL E f_wire_words_1 [.ref 0 0 0 0, .ref 1 0 0 0] [] [.box [vi a], .box [(Sl.mk ws).av 1 strL]] = some (vs (BA (ws.getD i [])), [.box [vi b], .box [(Sl.mk ws).av 1 strL]]) := by
  subst hij; subst ha; subst hb
  exact fn_next hE i ws hi hw
/-! ### what is read -/
def badH (w : List UInt8) (n : Nat) (ws : List (List UInt8)) : Bool :=
  ((((!decide (ws.getD 0 [] = w) || !decide ((ws.length : Int) = (n : Int))) || !numK (ws.getD 1 [])) || !numK (ws.getD 2 [])) || (!decide (ws.getD 3 [] = wUndo) && !decide (ws.getD 3 [] = wDo))) || !numK (ws.getD 4 [])
def badR (ws : List (List UInt8)) : Bool := badH wReply 6 ws || (!decide (ws.getD 5 [] = wGood) && !decide (ws.getD 5 [] = wBad))
def repW (ws : List (List UInt8)) : RepT := ⟨numN (ws.getD 1 []), numN (ws.getD 2 []), decide (ws.getD 3 [] = wUndo), numN (ws.getD 4 []), decide (ws.getD 5 [] = wGood)⟩
def cmdW (ws : List (List UInt8)) : CmdT := ⟨numN (ws.getD 1 []), numN (ws.getD 2 []), decide (ws.getD 3 [] = wUndo), numN (ws.getD 4 []), BA (ws.getD 5 []), BA (ws.getD 6 [])⟩
theorem pcs_len : ∀ s : List UInt8, (pcs s).length ≤ s.length + 1
  | [] => by simp [pcs]
  | c :: l => by
    have ih := pcs_len l
    have hn := pcs_ne l
    rw [pcs]
    split
    · simp; omega
    · cases h : pcs l with
      | nil => exact absurd h hn
      | cons a ps => rw [h] at ih; simp at ih ⊢; omega
theorem pcs_le : ∀ s : List UInt8, ∀ p, p ∈ pcs s → p.length ≤ s.length
  | [], p, h => by
    rw [pcs, List.mem_singleton] at h
    rw [h]; simp
  | c :: l, p, h => by
    have ih := pcs_le l
    have hn := pcs_ne l
    rw [pcs] at h
    rw [List.length_cons]
    split at h
    · rcases List.mem_cons.1 h with rfl | h
      · simp
      · have := ih p h; omega
    · cases hp : pcs l with
      | nil => exact absurd hp hn
      | cons a ps =>
        rw [hp] at h ih
        rcases List.mem_cons.1 h with rfl | h
        · have := ih a (by simp); simp; omega
        · have := ih p (List.mem_cons_of_mem _ h); omega
theorem fn_readReply {E : Prog} (hE : Std E fns) (hi : ITOK E) (hat : ATOK E) (hsp : SPB E) (s : List UInt8) (hl : s.length ≤ 900000) :
    callP E f_wire_ReadReply [vs (BA s)] = some (.tup [.agg (if badR (pcs s) = true then r0 else repW (pcs s)).cells, vb (!badR (pcs s))]) := by
  have hw := fn_words hE hsp s 6 (by omega)
  have h1 := pcs_len s
  have h2 : (pcs s).length < 1000000 := by omega
  have h3 : ∀ w, w ∈ pcs s → w.length ≤ 1000000 := fun w m => by have := pcs_le s w m; omega
  generalize hz : pcs s = ws at *
  have a0 := st_must hE 0 1 0 1 rfl rfl rfl ws (by decide) h2 wReply
  have a1 := st_number hE hi hat 1 2 1 2 rfl rfl rfl ws (by decide) h2 h3
  have a2 := st_number hE hi hat 2 3 2 3 rfl rfl rfl ws (by decide) h2 h3
  have a3 := st_either hE 3 4 3 4 rfl rfl rfl ws (by decide) h2 wUndo wDo
  have a4 := st_number hE hi hat 4 5 4 5 rfl rfl rfl ws (by decide) h2 h3
  have a5 := st_either hE 5 6 5 6 rfl rfl rfl ws (by decide) h2 wGood wBad
  have hb : badR ws = (((((((!decide (ws.getD 0 [] = wReply) || !decide ((ws.length : Int) = 6)) || !numK (ws.getD 1 [])) || !numK (ws.getD 2 [])) || (!decide (ws.getD 3 [] = wUndo) && !decide (ws.getD 3 [] = wDo))) || !numK (ws.getD 4 [])) || (!decide (ws.getD 5 [] = wGood) && !decide (ws.getD 5 [] = wBad)))) := rfl
  rw [hE.run rfl rfl]
  unfold repW
  generalize hz0 : ws.getD 0 [] = w0 at *
  generalize hz1 : ws.getD 1 [] = w1 at *
  generalize hz2 : ws.getD 2 [] = w2 at *
  generalize hz3 : ws.getD 3 [] = w3 at *
  generalize hz4 : ws.getD 4 [] = w4 at *
  generalize hz5 : ws.getD 5 [] = w5 at *
  simp only [BA, wReply, wUndo, wDo, wGood, wBad] at a0 a3 a5 hb
  rw [hb]
  simp only [tkS, Int.natCast_zero] at hw
  simp -implicitDefEqProofs only [go_sem, reduceIte, reduceCtorEq, Nat.reduceEqDiff, Nat.reduceAdd, Nat.reduceSub, Nat.reduceLT, Nat.reduceLeDiff, Nat.reduceBEq, Nat.reduceMul, Nat.reduceBNe, Int.reduceEq, Int.reduceLT, Int.reduceLE, Int.reduceNe, Int.reduceToNat, ir_wire_ReadReply, hw, a0, a1, a2, a3, a4, a5, ro_strL, cv_v, cv_fn, cv_ref, cv_agg, tv_v, tv_fn, tv_ref, tv_agg]
  rw [← hb]
  cases badR ws <;> rfl
/-! ### what is right -/
def goodR (r : RepT) : Bool := fitI r.saga && (fitI r.step && fitI r.tr)
def goodC (c : CmdT) : Bool := fitI c.saga && (fitI c.step && fitI c.tr) && labelGood c.party && (match cutS c.key.data.toList with | some (n, _, u) => decide (n = c.saga) && decide (u = c.undo) | none => false)
abbrev VOK (E : Prog) : Prop := ∀ s : ByteArray, s.size < 9223372036854775807 → callP E f_utf8_ValidString [vs s] = some (vb (Lib.validD s.data.toList))
abbrev SPS (E : Prog) : Prop := ∀ s : ByteArray, s.size < 4294967281 → callP E f_strings_Split [vs s, vs ⟨#[47]⟩] = some (.sl 1 ((parts s.data.toList).map fun b => [vs (BA b)]))
theorem q3r (a b c : Value) : ross [[.v a], [.v b], [.v c]] = true := rfl
theorem q3b (a b c : Value) (n : Nat) : belowss n [[.v a], [.v b], [.v c]] = true := rfl
theorem q3i (a b c : Value) : idsss [[.v a], [.v b], [.v c]] = [] := rfl
theorem fn_goodR {E : Prog} (hE : Std E fns) (r : RepT) : callP E f_wire_GoodReply [.agg r.cells] = some (vb (goodR r)) := by
  have h := fn_fits3 hE r.saga r.step r.tr
  rw [hE.run rfl rfl]
  simp -implicitDefEqProofs only [go_sem, reduceIte, reduceCtorEq, Nat.reduceEqDiff, Nat.reduceAdd, Nat.reduceSub, Nat.reduceLT, Nat.reduceLeDiff, Nat.reduceBEq, Nat.reduceMul, Nat.reduceBNe, Int.reduceEq, Int.reduceLT, Int.reduceLE, Int.reduceNe, Int.reduceToNat, ir_wire_GoodReply, RepT.cells, h, goodR, q3r, q3b, q3i, cv_v, cv_fn, cv_ref, cv_agg, tv_v, tv_fn, tv_ref, tv_agg]
theorem fn_goodC {E : Prog} (hE : Std E fns) (hv : VOK E) (hss : SPS E) (c : CmdT) (hk : c.key.size ≤ 400) (hp : c.party.size < 9223372036854775807) : callP E f_wire_GoodCommand [.agg c.cells] = some (vb (goodC c)) := by
  have h := fn_fits3 hE c.saga c.step c.tr
  have h2 := fn_labelGood hE hv c.party (by omega)
  have h3 := fn_cut hE hv hss c.key.data.toList hk
  rw [ba_of] at h3
  unfold goodC
  generalize hq : (fitI c.saga && (fitI c.step && fitI c.tr)) = a at h ⊢
  generalize labelGood c.party = b at h2 ⊢
  cases hc : cutS c.key.data.toList with
  | none =>
    rw [hc] at h3
    simp only [cutC] at h3
    rw [hE.run rfl rfl]
    cases a
    · simp -implicitDefEqProofs only [go_sem, reduceIte, reduceCtorEq, Nat.reduceEqDiff, Nat.reduceAdd, Nat.reduceSub, Nat.reduceLT, Nat.reduceLeDiff, Nat.reduceBEq, Nat.reduceMul, Nat.reduceBNe, Int.reduceEq, Int.reduceLT, Int.reduceLE, Int.reduceNe, Int.reduceToNat, ir_wire_GoodCommand, CmdT.cells, h, h3, q3r, q3b, q3i, cv_v, cv_fn, cv_ref, cv_agg, tv_v, tv_fn, tv_ref, tv_agg]
    · cases b
      · simp -implicitDefEqProofs only [go_sem, reduceIte, reduceCtorEq, Nat.reduceEqDiff, Nat.reduceAdd, Nat.reduceSub, Nat.reduceLT, Nat.reduceLeDiff, Nat.reduceBEq, Nat.reduceMul, Nat.reduceBNe, Int.reduceEq, Int.reduceLT, Int.reduceLE, Int.reduceNe, Int.reduceToNat, ir_wire_GoodCommand, CmdT.cells, h, h2, h3, q3r, q3b, q3i, cv_v, cv_fn, cv_ref, cv_agg, tv_v, tv_fn, tv_ref, tv_agg]
      · simp -implicitDefEqProofs only [go_sem, reduceIte, reduceCtorEq, Nat.reduceEqDiff, Nat.reduceAdd, Nat.reduceSub, Nat.reduceLT, Nat.reduceLeDiff, Nat.reduceBEq, Nat.reduceMul, Nat.reduceBNe, Int.reduceEq, Int.reduceLT, Int.reduceLE, Int.reduceNe, Int.reduceToNat, ir_wire_GoodCommand, CmdT.cells, h, h2, h3, q3r, q3b, q3i, cv_v, cv_fn, cv_ref, cv_agg, tv_v, tv_fn, tv_ref, tv_agg]
  | some q =>
    obtain ⟨n, nm, u⟩ := q
    rw [hc] at h3
    simp only [cutC] at h3
    rw [hE.run rfl rfl]
    dsimp only
    cases a
    · simp -implicitDefEqProofs only [go_sem, reduceIte, reduceCtorEq, Nat.reduceEqDiff, Nat.reduceAdd, Nat.reduceSub, Nat.reduceLT, Nat.reduceLeDiff, Nat.reduceBEq, Nat.reduceMul, Nat.reduceBNe, Int.reduceEq, Int.reduceLT, Int.reduceLE, Int.reduceNe, Int.reduceToNat, ir_wire_GoodCommand, CmdT.cells, h, h3, q3r, q3b, q3i, cv_v, cv_fn, cv_ref, cv_agg, tv_v, tv_fn, tv_ref, tv_agg]
    · cases b
      · simp -implicitDefEqProofs only [go_sem, reduceIte, reduceCtorEq, Nat.reduceEqDiff, Nat.reduceAdd, Nat.reduceSub, Nat.reduceLT, Nat.reduceLeDiff, Nat.reduceBEq, Nat.reduceMul, Nat.reduceBNe, Int.reduceEq, Int.reduceLT, Int.reduceLE, Int.reduceNe, Int.reduceToNat, ir_wire_GoodCommand, CmdT.cells, h, h2, h3, q3r, q3b, q3i, cv_v, cv_fn, cv_ref, cv_agg, tv_v, tv_fn, tv_ref, tv_agg]
      · by_cases q : n = c.saga
        · have q1 := eq_true q
          rw [decide_eq_true q]
          simp -implicitDefEqProofs only [go_sem, reduceIte, reduceCtorEq, Nat.reduceEqDiff, Nat.reduceAdd, Nat.reduceSub, Nat.reduceLT, Nat.reduceLeDiff, Nat.reduceBEq, Nat.reduceMul, Nat.reduceBNe, Int.reduceEq, Int.reduceLT, Int.reduceLE, Int.reduceNe, Int.reduceToNat, ir_wire_GoodCommand, CmdT.cells, h, h2, h3, q1, q3r, q3b, q3i, cv_v, cv_fn, cv_ref, cv_agg, tv_v, tv_fn, tv_ref, tv_agg]
          cases u <;> cases c.undo <;> rfl
        · have q1 := eq_false q
          rw [decide_eq_false q]
          simp -implicitDefEqProofs only [go_sem, reduceIte, reduceCtorEq, Nat.reduceEqDiff, Nat.reduceAdd, Nat.reduceSub, Nat.reduceLT, Nat.reduceLeDiff, Nat.reduceBEq, Nat.reduceMul, Nat.reduceBNe, Int.reduceEq, Int.reduceLT, Int.reduceLE, Int.reduceNe, Int.reduceToNat, ir_wire_GoodCommand, CmdT.cells, h, h2, h3, q1, q3r, q3b, q3i, cv_v, cv_fn, cv_ref, cv_agg, tv_v, tv_fn, tv_ref, tv_agg]
end Go.Proofs.YtampinmionpmhaaDoor.Ev
