/-
  Lines of commands and replies: the taker of words.
-/
import Derived.Test.YtampinmionpmhaaDoorEvWi1
set_option linter.unusedVariables false
set_option linter.unusedSimpArgs false
namespace Go.Proofs.YtampinmionpmhaaDoor.Ev
attribute [local congr] bind_congr_head
attribute [local go_sem] opd_t opd_c opd_g opd_f opds_nil opds_cons get_cons put_some put_none keep_nil keepC_s keepC_n keep_cons runs_nil runs_cons run_op run_opr run_call run_gand run_gor run_gif seqK_norm seqK_exit seqK_ret blkK_norm blkK_exit blkK_ret runL_skip runL_exit runL_ret runL_items runL_seq runL_cond runL_block runL_loop fin_bind finK_norm finK_ret rvs_nil rvs_cons rv_tmp rv_cell tupOf_one tupOf_nil tupOf_two ev_mov ev_pick ev_alloc ev_box ev_build parts_nil parts_cons fills_nil fills_cons ev_bsl ev_bslo ev_load ev_store ev_nilck ev_bin ev_binb ev_aeq ev_un ev_i2i ev_i2t ev_isnilI nilIF ev_s2b ev_ext ev_fld ev_idxs ev_fa ev_ias ev_len ev_lens ev_s2s ev_mkf ev_rng ev_nxt ev_app bOf_s pvOf_s agOf_s tpOf_s iOf_s sOf_s ite_bind Option.bind_some Option.bind_none if_true if_false ite_true ite_false argEnv_nil argEnv_cons len_av elems_av ias_av cells_av tuple_av AV.tuple AV.cells faF ldAt liveRef aggOf nilckF binV binI binS binB unV Bool.not_true Bool.not_false List.length_nil List.length_cons List.nil_append List.cons_append List.append_nil List.getElem?_cons_zero List.getElem?_cons_succ List.drop_zero List.drop_succ_cons List.drop_nil List.take_zero List.take_succ_cons List.take_nil List.set_cons_zero List.set_cons_succ compact_same compact_new closedB nodupB envIds ids0 upto visit pos sel AV.ids idss idsss Ob.ids AV.ren rens renss Ob.ren renEnv AV.snap snaps stAt okSt putCells List.all_nil List.all_cons List.contains_nil List.contains_cons Bool.and_true Bool.true_and Bool.and_false Bool.false_and Bool.or_true Bool.true_or Bool.or_false Bool.false_or decide_eq_true_eq decide_true decide_false beq_iff_eq bne_iff_ne beq_self_eq_true Bool.not_eq_true' Bool.false_eq_true eq_self and_self and_true true_and and_false false_and or_true true_or or_false false_or not_true_eq_false not_false_eq_true ne_eq Nat.zero_add Nat.add_zero Nat.le_refl Nat.not_lt_zero Nat.lt_irrefl Nat.zero_le Int.toNat_natCast gt_iff_lt ge_iff_le Int.lt_irrefl Int.natCast_nonneg txt_eq get_nil appF elems belows AV.under AV.flat flats List.length_map List.map_append List.map_cons List.map_nil List.length_append take_map_all List.flatten_cons List.flatten_nil bld_nil imp_false false_imp_iff false_implies true_implies implies_true decide_eq_false_iff_not Nat.one_mul Nat.mul_one idsss_app renss_app belowss_app ev_mn ev_mx ev_isnils ev_sls ev_slx evo_none evo_some vals minV maxV minF maxF backId List.getElem?_nil putAll Option.all_none Option.all_some Option.isSome_some intOf aszI compactV_same compactV_new callP_any callQ_eq callN_any boxQ AV.id? ids_avR ren_av under_av snap_av renss_mapf belowss_mapf idsss_mapf isnilsF List.length_eq_zero_iff int_beq int_bne decide_not slx_av Int.toNat_zero
/-- The taker's objects: itself, the place, the words. -/
abbrev tkS (bad : Bool) (i : Nat) (ws : List (List UInt8)) : Store := [.box [.fn f_wire_words_1 [.ref 1 0 0 0, .ref 2 0 0 0], vb bad], .box [vi i], .box [(Sl.mk ws).av 1 strL]]
theorem fn_next {E : Prog} (hE : Std E fns) (i : Nat) (ws : List (List UInt8)) (hi : i < 1000) (hw : ws.length < 1000000) :
    callL E f_wire_words_1 [.ref 0 0 0 0, .ref 1 0 0 0] [] [.box [vi i], .box [(Sl.mk ws).av 1 strL]] = some (vs (BA (ws.getD i [])), [.box [vi ((i + 1 : Nat) : Int)], .box [(Sl.mk ws).av 1 strL]]) := by
  have h6 := wrap_succ (i := i) (by omega)
  have h7 : IntKind.i64.wrap (((i + 1 : Nat) : Int) - 1) = (i : Int) := by rw [IntWalk.i64_in _ (by omega)]; omega
  have hl : (Sl.mk ws).list = ws := rfl
  rw [hE.runN rfl rfl]
  by_cases c : i < ws.length
  · have c1 : ((ws.length : Int) < ((i + 1 : Nat) : Int)) = False := eq_false (by omega)
    have h1 : ws[i]? = some (ws.getD i []) := by rw [List.getD_eq_getElem?_getD, List.getElem?_eq_getElem c]; rfl
    have h2 : (Sl.mk ws).list[i]? = some (ws.getD i []) := h1
    generalize ws.getD i [] = w at *
    simp -implicitDefEqProofs only [go_sem, reduceIte, reduceCtorEq, Nat.reduceEqDiff, Nat.reduceAdd, Nat.reduceSub, Nat.reduceLT, Nat.reduceLeDiff, Nat.reduceBEq, Nat.reduceMul, Nat.reduceBNe, Int.reduceEq, Int.reduceLT, Int.reduceLE, Int.reduceNe, Int.reduceToNat, ir_wire_words_1, h6, h7, hl, c1, h1, h2, strL, ro_strL]
  · have c1 : ((ws.length : Int) < ((i + 1 : Nat) : Int)) = True := eq_true (by omega)
    have h1 : ws.getD i [] = [] := by rw [List.getD_eq_getElem?_getD, List.getElem?_eq_none (by omega)]; rfl
    rw [h1]
    simp -implicitDefEqProofs only [go_sem, reduceIte, reduceCtorEq, Nat.reduceEqDiff, Nat.reduceAdd, Nat.reduceSub, Nat.reduceLT, Nat.reduceLeDiff, Nat.reduceBEq, Nat.reduceMul, Nat.reduceBNe, Int.reduceEq, Int.reduceLT, Int.reduceLE, Int.reduceNe, Int.reduceToNat, ir_wire_words_1, h6, h7, hl, c1, strL, ro_strL]
    rfl
theorem fn_must {E : Prog} (hE : Std E fns) (bad : Bool) (i : Nat) (ws : List (List UInt8)) (hi : i < 1000) (hw : ws.length < 1000000) (w : List UInt8) :
    callL E f_wire_taker_must [.ref 0 0 0 0, vs (BA w)] [] (tkS bad i ws) = some (.tup [], tkS (!decide (ws.getD i [] = w) || bad) (i + 1) ws) := by
  have h1 := fn_next hE i ws hi hw
  have e : (BA (ws.getD i []) = BA w) = (ws.getD i [] = w) := propext ba_inj
  generalize ws.getD i [] = x at *
  rw [hE.runN rfl rfl]
  by_cases c : x = w
  · have c' : (BA x = BA w) = True := e.trans (eq_true c)
    rw [decide_eq_true c]
    simp -implicitDefEqProofs only [go_sem, reduceIte, reduceCtorEq, Nat.reduceEqDiff, Nat.reduceAdd, Nat.reduceSub, Nat.reduceLT, Nat.reduceLeDiff, Nat.reduceBEq, Nat.reduceMul, Nat.reduceBNe, Int.reduceEq, Int.reduceLT, Int.reduceLE, Int.reduceNe, Int.reduceToNat, ir_wire_taker_must, tkS, h1, c', ro_strL]
  · have c' : (BA x = BA w) = False := e.trans (eq_false c)
    rw [decide_eq_false c]
    simp -implicitDefEqProofs only [go_sem, reduceIte, reduceCtorEq, Nat.reduceEqDiff, Nat.reduceAdd, Nat.reduceSub, Nat.reduceLT, Nat.reduceLeDiff, Nat.reduceBEq, Nat.reduceMul, Nat.reduceBNe, Int.reduceEq, Int.reduceLT, Int.reduceLE, Int.reduceNe, Int.reduceToNat, ir_wire_taker_must, tkS, h1, c', ro_strL]
theorem fn_tnumber {E : Prog} (hE : Std E fns) (hi' : ITOK E) (hat : ATOK E) (bad : Bool) (i : Nat) (ws : List (List UInt8)) (hi : i < 1000) (hw : ws.length < 1000000) (hl : ∀ w, w ∈ ws → w.length ≤ 1000000) :
    callL E f_wire_taker_number [.ref 0 0 0 0] [] (tkS bad i ws) = some (vi (numN (ws.getD i [])), tkS (bad || !numK (ws.getD i [])) (i + 1) ws) := by
  have h1 := fn_next hE i ws hi hw
  have hx : (ws.getD i []).length ≤ 1000000 := by
    rw [List.getD_eq_getElem?_getD]
    by_cases c : i < ws.length
    · rw [List.getElem?_eq_getElem c]; exact hl _ (List.getElem_mem c)
    · rw [List.getElem?_eq_none (by omega)]; simp
  have h2 := fn_wnumber hE hi' hat (ws.getD i []) (by omega)
  generalize ws.getD i [] = x at *
  rw [hE.runN rfl rfl]
  cases bad
  · simp -implicitDefEqProofs only [go_sem, reduceIte, reduceCtorEq, Nat.reduceEqDiff, Nat.reduceAdd, Nat.reduceSub, Nat.reduceLT, Nat.reduceLeDiff, Nat.reduceBEq, Nat.reduceMul, Nat.reduceBNe, Int.reduceEq, Int.reduceLT, Int.reduceLE, Int.reduceNe, Int.reduceToNat, ir_wire_taker_number, tkS, h1, h2, ro_strL]
  · simp -implicitDefEqProofs only [go_sem, reduceIte, reduceCtorEq, Nat.reduceEqDiff, Nat.reduceAdd, Nat.reduceSub, Nat.reduceLT, Nat.reduceLeDiff, Nat.reduceBEq, Nat.reduceMul, Nat.reduceBNe, Int.reduceEq, Int.reduceLT, Int.reduceLE, Int.reduceNe, Int.reduceToNat, ir_wire_taker_number, tkS, h1, h2, ro_strL]
theorem fn_either {E : Prog} (hE : Std E fns) (bad : Bool) (i : Nat) (ws : List (List UInt8)) (hi : i < 1000) (hw : ws.length < 1000000) (a b : List UInt8) :
    callL E f_wire_taker_either [.ref 0 0 0 0, vs (BA a), vs (BA b)] [] (tkS bad i ws) = some (vb (decide (ws.getD i [] = a)), tkS (bad || (!decide (ws.getD i [] = a) && !decide (ws.getD i [] = b))) (i + 1) ws) := by
  have h1 := fn_next hE i ws hi hw
  have e : ∀ w, (BA (ws.getD i []) = BA w) = (ws.getD i [] = w) := fun w => propext ba_inj
  generalize ws.getD i [] = x at *
  rw [hE.runN rfl rfl]
  by_cases c : x = a
  · have c' : (BA x = BA a) = True := (e a).trans (eq_true c)
    rw [decide_eq_true c]
    cases bad <;> simp -implicitDefEqProofs only [go_sem, reduceIte, reduceCtorEq, Nat.reduceEqDiff, Nat.reduceAdd, Nat.reduceSub, Nat.reduceLT, Nat.reduceLeDiff, Nat.reduceBEq, Nat.reduceMul, Nat.reduceBNe, Int.reduceEq, Int.reduceLT, Int.reduceLE, Int.reduceNe, Int.reduceToNat, ir_wire_taker_either, tkS, h1, c', ro_strL]
  · have c' : (BA x = BA a) = False := (e a).trans (eq_false c)
    rw [decide_eq_false c]
    by_cases d : x = b
    · have d' : (BA x = BA b) = True := (e b).trans (eq_true d)
      rw [decide_eq_true d]
      cases bad <;> simp -implicitDefEqProofs only [go_sem, reduceIte, reduceCtorEq, Nat.reduceEqDiff, Nat.reduceAdd, Nat.reduceSub, Nat.reduceLT, Nat.reduceLeDiff, Nat.reduceBEq, Nat.reduceMul, Nat.reduceBNe, Int.reduceEq, Int.reduceLT, Int.reduceLE, Int.reduceNe, Int.reduceToNat, ir_wire_taker_either, tkS, h1, c', d', ro_strL]
    · have d' : (BA x = BA b) = False := (e b).trans (eq_false d)
      rw [decide_eq_false d]
      cases bad <;> simp -implicitDefEqProofs only [go_sem, reduceIte, reduceCtorEq, Nat.reduceEqDiff, Nat.reduceAdd, Nat.reduceSub, Nat.reduceLT, Nat.reduceLeDiff, Nat.reduceBEq, Nat.reduceMul, Nat.reduceBNe, Int.reduceEq, Int.reduceLT, Int.reduceLE, Int.reduceNe, Int.reduceToNat, ir_wire_taker_either, tkS, h1, c', d', ro_strL]
end Go.Proofs.YtampinmionpmhaaDoor.Ev
