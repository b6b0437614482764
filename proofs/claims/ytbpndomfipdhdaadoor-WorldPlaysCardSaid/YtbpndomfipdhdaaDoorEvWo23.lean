/-
  A world: the same as the document's.
-/
import Derived.Test.YtbpndomfipdhdaaDoorEvWo22
set_option linter.unusedVariables false
set_option linter.unusedSimpArgs false
namespace Go.Proofs.YtbpndomfipdhdaaDoor.Ev
attribute [local congr] bind_congr_head
attribute [local go_sem] opd_t opd_c opd_g opd_f opds_nil opds_cons get_cons put_some put_none keep_nil keepC_s keepC_n keep_cons runs_nil runs_cons run_op run_opr run_call run_gand run_gor run_gif seqK_norm seqK_exit seqK_ret blkK_norm blkK_exit blkK_ret runL_skip runL_exit runL_ret runL_items runL_seq runL_cond runL_block runL_loop fin_bind finK_norm finK_ret rvs_nil rvs_cons rv_tmp rv_cell tupOf_one tupOf_nil tupOf_two ev_mov ev_pick ev_alloc ev_box ev_build parts_nil parts_cons fills_nil fills_cons ev_bsl ev_bslo ev_load ev_store ev_nilck ev_bin ev_binb ev_aeq ev_un ev_i2i ev_i2t ev_isnilI nilIF ev_s2b ev_ext ev_fld ev_idxs ev_fa ev_ias ev_len ev_lens ev_s2s ev_mkf ev_rng ev_nxt ev_app bOf_s pvOf_s agOf_s tpOf_s iOf_s sOf_s ite_bind Option.bind_some Option.bind_none if_true if_false ite_true ite_false argEnv_nil argEnv_cons len_av elems_av ias_av cells_av tuple_av AV.tuple AV.cells faF ldAt liveRef aggOf nilckF binV binI binS binB unV Bool.not_true Bool.not_false List.length_nil List.length_cons List.nil_append List.cons_append List.append_nil List.getElem?_cons_zero List.getElem?_cons_succ List.drop_zero List.drop_succ_cons List.drop_nil List.take_zero List.take_succ_cons List.take_nil List.set_cons_zero List.set_cons_succ compact_same compact_new closedB nodupB envIds ids0 upto visit pos sel AV.ids idss idsss Ob.ids AV.ren rens renss Ob.ren renEnv AV.snap snaps stAt okSt putCells List.all_nil List.all_cons List.contains_nil List.contains_cons Bool.and_true Bool.true_and Bool.and_false Bool.false_and Bool.or_true Bool.true_or Bool.or_false Bool.false_or decide_eq_true_eq decide_true decide_false beq_iff_eq bne_iff_ne beq_self_eq_true Bool.not_eq_true' Bool.false_eq_true eq_self and_self and_true true_and and_false false_and or_true true_or or_false false_or not_true_eq_false not_false_eq_true ne_eq Nat.zero_add Nat.add_zero Nat.le_refl Nat.not_lt_zero Nat.lt_irrefl Nat.zero_le Int.toNat_natCast gt_iff_lt ge_iff_le Int.lt_irrefl Int.natCast_nonneg txt_eq get_nil appF elems belows AV.under AV.flat flats List.length_map List.map_append List.map_cons List.map_nil List.length_append take_map_all List.flatten_cons List.flatten_nil bld_nil imp_false false_imp_iff false_implies true_implies implies_true decide_eq_false_iff_not Nat.one_mul Nat.mul_one idsss_app renss_app belowss_app ev_mn ev_mx ev_isnils ev_sls ev_slx evo_none evo_some vals minV maxV minF maxF backId List.getElem?_nil putAll Option.all_none Option.all_some Option.isSome_some intOf aszI compactV_same compactV_new callP_any callQ_eq boxQ AV.id? ids_avR ren_av under_av snap_av renss_mapf belowss_mapf idsss_mapf isnilsF List.length_eq_zero_iff int_beq int_bne decide_not slx_av Int.toNat_zero ev_mkm ev_lk ev_mup ev_mdl ev_lenm ev_isnilm mpOf_s mapAt_s mapOf_nil mapOf_mp isnilm_nil isnilm_mp lkR Option.getD_some Option.getD_none Option.isSome_none Prim.rdo ev_snp snp_own snp_v exQ_nil exQ_cons exA_ref same_nil same_box same_row same_map sameL_nil sameL_cons sameA_int sameA_bool sameA_str sameA_slice sameA_map sameA_ptr sameA_own sameA_ref sameA_mp callB_eq
variable {E : Prog}
theorem same_L2 (x : XW) (c : List CmdT) (hc : x.c.list = c) (hb : c.length ≤ 100000) (n : Nat) (st : Store) (hst : st[n]? = some (.box x.cells)) (n0 : Nat) (hn0 : n0 = st.length) (cs : Sl CmdT) (hcs : cs.list = c) (rs : Sl RepT) (ks : Sl ByteArray) {L : Env × Store → Option (Sig × Env × Store)}
    (hL : ∀ e s, L (e, s) = (IR.runL E.glob (callL E) [] ir_usufructlaw21_same_L2 e s).bind (seqK fun e s => L (compact [] n0 [0, 3, 5, 6, 7, 8] e s))) :
    ∀ (m i : Nat), i + m = c.length → L ([(0, .ref 0 0 0 0), (3, .ref n 0 0 0), (5, cs.av 6 CmdT.cells), (6, rs.av 5 RepT.cells), (7, ks.av 1 nmC), (8, vi i)], st) = some (.exit 0, [(0, .ref 0 0 0 0), (3, .ref n 0 0 0), (6, rs.av 5 RepT.cells), (7, ks.av 1 nmC)], st)
  | 0, i, h => by
    have c1 : ¬ (i : Int) < (c.length : Int) := by omega
    rw [hL]
    simp -implicitDefEqProofs only [go_sem, reduceIte, reduceCtorEq, Nat.reduceEqDiff, Nat.reduceAdd, Nat.reduceSub, Nat.reduceLT, Nat.reduceLeDiff, Nat.reduceBEq, Nat.reduceMul, Nat.reduceBNe, Int.reduceEq, Int.reduceLT, Int.reduceLE, Int.reduceNe, Int.reduceToNat, ir_usufructlaw21_same_L2, hcs, c1]
  | m + 1, i, h => by
    have c1 : (i : Int) < (c.length : Int) := by omega
    have h6 := wrap_succ (i := i) (by omega)
    have hi : c[i]? = some c[i] := List.getElem?_eq_getElem (by omega)
    have ih := same_L2 x c hc hb n st hst n0 hn0 cs hcs rs ks hL m (i + 1) (by omega)
    have hn1 : st.length ≤ n0 := by omega
    subst hn0
    generalize c[i] = y at hi
    simp only [XW.cells] at hst
    rw [hL]
    simp -implicitDefEqProofs only [go_sem, reduceIte, reduceCtorEq, Nat.reduceEqDiff, Nat.reduceAdd, Nat.reduceSub, Nat.reduceLT, Nat.reduceLeDiff, Nat.reduceBEq, Nat.reduceMul, Nat.reduceBNe, Int.reduceEq, Int.reduceLT, Int.reduceLE, Int.reduceNe, Int.reduceToNat, ir_usufructlaw21_same_L2, hcs, hc, c1, h6, hi, hst, hn1, CmdT.cells, eqL, eqV, ro_cmd, ro_rep, ro_nm, ih]
theorem same_L1 (x : XW) (c : List RepT) (hc : x.r.list = c) (hb : c.length ≤ 100000) (n : Nat) (st : Store) (hst : st[n]? = some (.box x.cells)) (n0 : Nat) (hn0 : n0 = st.length) (rs : Sl RepT) (hcs : rs.list = c) (ks : Sl ByteArray) {L : Env × Store → Option (Sig × Env × Store)}
    (hL : ∀ e s, L (e, s) = (IR.runL E.glob (callL E) [] ir_usufructlaw21_same_L1 e s).bind (seqK fun e s => L (compact [] n0 [0, 3, 6, 7, 9] e s))) :
    ∀ (m i : Nat), i + m = c.length → L ([(0, .ref 0 0 0 0), (3, .ref n 0 0 0), (6, rs.av 5 RepT.cells), (7, ks.av 1 nmC), (9, vi i)], st) = some (.exit 2, [(0, .ref 0 0 0 0), (3, .ref n 0 0 0), (7, ks.av 1 nmC)], st)
  | 0, i, h => by
    have c1 : ¬ (i : Int) < (c.length : Int) := by omega
    rw [hL]
    simp -implicitDefEqProofs only [go_sem, reduceIte, reduceCtorEq, Nat.reduceEqDiff, Nat.reduceAdd, Nat.reduceSub, Nat.reduceLT, Nat.reduceLeDiff, Nat.reduceBEq, Nat.reduceMul, Nat.reduceBNe, Int.reduceEq, Int.reduceLT, Int.reduceLE, Int.reduceNe, Int.reduceToNat, ir_usufructlaw21_same_L1, hcs, c1]
  | m + 1, i, h => by
    have c1 : (i : Int) < (c.length : Int) := by omega
    have h6 := wrap_succ (i := i) (by omega)
    have hi : c[i]? = some c[i] := List.getElem?_eq_getElem (by omega)
    have ih := same_L1 x c hc hb n st hst n0 hn0 rs hcs ks hL m (i + 1) (by omega)
    have hn1 : st.length ≤ n0 := by omega
    subst hn0
    generalize c[i] = y at hi
    simp only [XW.cells] at hst
    rw [hL]
    simp -implicitDefEqProofs only [go_sem, reduceIte, reduceCtorEq, Nat.reduceEqDiff, Nat.reduceAdd, Nat.reduceSub, Nat.reduceLT, Nat.reduceLeDiff, Nat.reduceBEq, Nat.reduceMul, Nat.reduceBNe, Int.reduceEq, Int.reduceLT, Int.reduceLE, Int.reduceNe, Int.reduceToNat, ir_usufructlaw21_same_L1, hcs, hc, c1, h6, hi, hst, hn1, RepT.cells, eqL, eqV, ro_cmd, ro_rep, ro_nm, ih]
theorem same_L0 (x : XW) (c : List ByteArray) (hc : x.k.list = c) (hb : c.length ≤ 100000) (n : Nat) (st : Store) (hst : st[n]? = some (.box x.cells)) (n0 : Nat) (hn0 : n0 = st.length) (ks : Sl ByteArray) (hcs : ks.list = c)
    (hD : ∀ s, callM (callL E) .N (.fn f_world_World_Done []) [.ref 0 0 0 0, vs s] [] st = some (vb (hasK s c), st)) {L : Env × Store → Option (Sig × Env × Store)}
    (hL : ∀ e s, L (e, s) = (IR.runL E.glob (callL E) [] ir_usufructlaw21_same_L0 e s).bind (seqK fun e s => L (compact [] n0 [0, 3, 7, 10] e s))) :
    ∀ (m i : Nat), i + m = c.length → L ([(0, .ref 0 0 0 0), (3, .ref n 0 0 0), (7, ks.av 1 nmC), (10, vi i)], st) = some (.exit 4, [], st)
  | 0, i, h => by
    have c1 : ¬ (i : Int) < (c.length : Int) := by omega
    rw [hL]
    simp -implicitDefEqProofs only [go_sem, reduceIte, reduceCtorEq, Nat.reduceEqDiff, Nat.reduceAdd, Nat.reduceSub, Nat.reduceLT, Nat.reduceLeDiff, Nat.reduceBEq, Nat.reduceMul, Nat.reduceBNe, Int.reduceEq, Int.reduceLT, Int.reduceLE, Int.reduceNe, Int.reduceToNat, ir_usufructlaw21_same_L0, hcs, c1]
  | m + 1, i, h => by
    have c1 : (i : Int) < (c.length : Int) := by omega
    have h6 := wrap_succ (i := i) (by omega)
    have hi : c[i]? = some c[i] := List.getElem?_eq_getElem (by omega)
    have ih := same_L0 x c hc hb n st hst n0 hn0 ks hcs hD hL m (i + 1) (by omega)
    have hn1 : st.length ≤ n0 := by omega
    subst hn0
    have hy : hasK c[i] c = true := hasK_iff.2 (List.getElem_mem (by omega))
    generalize c[i] = y at hi hy
    have hDy := hD y
    rw [hy] at hDy
    simp only [XW.cells] at hst
    rw [hL]
    simp -implicitDefEqProofs only [go_sem, reduceIte, reduceCtorEq, Nat.reduceEqDiff, Nat.reduceAdd, Nat.reduceSub, Nat.reduceLT, Nat.reduceLeDiff, Nat.reduceBEq, Nat.reduceMul, Nat.reduceBNe, Int.reduceEq, Int.reduceLT, Int.reduceLE, Int.reduceNe, Int.reduceToNat, ir_usufructlaw21_same_L0, hcs, hc, c1, h6, hi, hst, hn1, nmC, hDy, ro_cmd, ro_rep, ro_nm, ih]
end Go.Proofs.YtbpndomfipdhdaaDoor.Ev
