/-
  Picks: the law PickSagas, answered.
-/
import Derived.Test.YtgehbkdpodnajaaDoorEvPick13
set_option linter.unusedVariables false
set_option linter.unusedSimpArgs false
namespace Go.Proofs.YtgehbkdpodnajaaDoor.Ev
attribute [local congr] bind_congr_head
attribute [local go_sem] opd_t opd_c opd_g opd_f opds_nil opds_cons get_cons put_some put_none keep_nil keepC_s keepC_n keep_cons runs_nil runs_cons run_op run_opr run_call run_gand run_gor run_gif seqK_norm seqK_exit seqK_ret blkK_norm blkK_exit blkK_ret runL_skip runL_exit runL_ret runL_items runL_seq runL_cond runL_block runL_loop fin_bind finK_norm finK_ret rvs_nil rvs_cons rv_tmp rv_cell tupOf_one tupOf_nil tupOf_two ev_mov ev_pick ev_alloc ev_box ev_build parts_nil parts_cons fills_nil fills_cons ev_bsl ev_bslo ev_load ev_store ev_nilck ev_bin ev_binb ev_aeq ev_un ev_i2i ev_i2t ev_s2b ev_ext ev_fld ev_idxs ev_fa ev_ias ev_len ev_lens ev_s2s ev_mkf ev_rng ev_nxt ev_app bOf_s pvOf_s agOf_s tpOf_s iOf_s sOf_s ite_bind Option.bind_some Option.bind_none if_true if_false ite_true ite_false argEnv_nil argEnv_cons len_av elems_av ias_av cells_av tuple_av faF ldAt liveRef aggOf nilckF binV binI binS binB unV Bool.not_true Bool.not_false List.length_nil List.length_cons List.nil_append List.cons_append List.append_nil List.getElem?_cons_zero List.getElem?_cons_succ List.drop_zero List.drop_succ_cons List.drop_nil List.take_zero List.take_succ_cons List.take_nil List.set_cons_zero List.set_cons_succ compact_same compact_new closedB nodupB envIds ids0 upto visit pos sel AV.ids idss idsss Ob.ids AV.ren rens renss Ob.ren renEnv AV.snap snaps stAt okSt putCells List.all_nil List.all_cons List.contains_nil List.contains_cons Bool.and_true Bool.true_and Bool.and_false Bool.false_and Bool.or_true Bool.true_or Bool.or_false Bool.false_or decide_eq_true_eq decide_true decide_false beq_iff_eq bne_iff_ne beq_self_eq_true Bool.not_eq_true' Bool.false_eq_true eq_self and_self and_true true_and and_false false_and or_true true_or or_false false_or not_true_eq_false not_false_eq_true ne_eq Nat.zero_add Nat.add_zero Nat.le_refl Nat.not_lt_zero Nat.lt_irrefl Nat.zero_le Int.toNat_natCast gt_iff_lt ge_iff_le Int.lt_irrefl Int.natCast_nonneg txt_eq get_nil appF elems belows AV.under AV.flat flats List.length_map List.map_append List.map_cons List.map_nil List.length_append take_map_all List.flatten_cons List.flatten_nil bld_nil imp_false false_imp_iff false_implies true_implies implies_true decide_eq_false_iff_not Nat.one_mul Nat.mul_one idsss_app renss_app belowss_app ev_mn ev_mx ev_isnils ev_sls ev_slx evo_none evo_some vals minV maxV minF maxF backId List.getElem?_nil putAll Option.all_none Option.all_some Option.isSome_some intOf aszI compactV_same compactV_new callP_any callQ_eq callN_any boxQ AV.id? ids_avR ren_av under_av snap_av renss_mapf belowss_mapf idsss_mapf isnilsF List.length_eq_zero_iff int_beq int_bne decide_not slx_av Int.toNat_zero
theorem lenAV_nil (st : Store) : lenAV st (.v (.slice none 0 0)) = some 0 := rfl
set_option maxHeartbeats 8000000 in
theorem fn_lawPickSagas {E : Prog} (hE : Std E fns) (hv : VOK E)
    (haw : callP E f_usufructlaw36_awake [] = some (vb true)) (l : Sl SagaT) (ts : Sl TermT) : callP E f_usufructlaw36_PickSagas [l.av 9 SagaT.cells, ts.av 5 TermT.cells] = some (vb true) := by
  have h1 := fn_short hE ts
  rw [hE.run rfl rfl]
  cases hs1 : shortS ts
  · rw [hs1] at h1
    simp only [go_sem, reduceIte, reduceCtorEq, Nat.reduceEqDiff, Nat.reduceAdd, Nat.reduceSub, Nat.reduceLT, Nat.reduceLeDiff, Nat.reduceBEq, Nat.reduceMul, Nat.reduceBNe, Int.reduceEq, Int.reduceLT, Int.reduceLE, Int.reduceNe, Int.reduceToNat, cells_av, tuple_av, cellsL1, cellsL2, tupleL1, tupleL2, ir_usufructlaw36_PickSagas, haw, h1, ro_term, ro_saga]
  rw [hs1] at h1
  have hsl : ts.list.length ≤ 40 ∧ LOK ts.list := by
    simp only [shortS, Bool.and_eq_true, decide_eq_true_eq, Bool.not_eq_true'] at hs1
    refine ⟨hs1.1, fun t ht => ?_⟩
    have h2 := List.any_eq_false.1 hs1.2 t ht
    simp only [longT, Bool.or_eq_true, decide_eq_true_eq, not_or] at h2
    omega
  obtain ⟨hlen, hlok⟩ := hsl
  have hl : ts.list.length < 9223372036854775807 := by omega
  by_cases c2 : l.list.length > 20
  · simp only [go_sem, reduceIte, reduceCtorEq, Nat.reduceEqDiff, Nat.reduceAdd, Nat.reduceSub, Nat.reduceLT, Nat.reduceLeDiff, Nat.reduceBEq, Nat.reduceMul, Nat.reduceBNe, Int.reduceEq, Int.reduceLT, Int.reduceLE, Int.reduceNe, Int.reduceToNat, cells_av, tuple_av, cellsL1, cellsL2, tupleL1, tupleL2, ir_usufructlaw36_PickSagas, haw, h1, ro_term, ro_saga, show (20 : Int) < l.list.length by omega]
  have c2' : ¬ (20 : Int) < l.list.length := by omega
  have h3 := fn_refGoods hE ts hl hlok
  have s0 := fn_pickSagas hE hv .nil l 0 ts hl hlok (by omega)
  have s1 := fn_pickCount hE hv l 0 ts hl hlok (by omega)
  cases hg : goodsB ts.list
  · rw [hg] at h3
    have e0 : sagasS l.list ts.list = [] := if_neg (by rw [hg]; decide)
    rw [e0] at s0 s1
    simp only [List.foldl_nil, c60, C6.cells, slOf] at s0 s1
    simp only [go_sem, reduceIte, reduceCtorEq, Nat.reduceEqDiff, Nat.reduceAdd, Nat.reduceSub, Nat.reduceLT, Nat.reduceLeDiff, Nat.reduceBEq, Nat.reduceMul, Nat.reduceBNe, Int.reduceEq, Int.reduceLT, Int.reduceLE, Int.reduceNe, Int.reduceToNat, cells_av, tuple_av, cellsL1, cellsL2, tupleL1, tupleL2, ir_usufructlaw36_PickSagas, haw, h1, h3, s0, s1, eqL, eqV, ro_term, ro_saga, c2', av_nil, lenAV_nil, Int.natCast_zero]
  rw [hg] at h3
  have e0 : sagasS l.list ts.list = l.list.filter (allB ts.list) := if_pos hg
  rw [e0] at s0 s1
  have q0 := List.length_filter_le (allB ts.list) l.list
  have hp := ps_loop hE l (slOf (l.list.filter (allB ts.list))) ts ((l.list.filter (allB ts.list)).foldl bump c60) ((l.list.filter (allB ts.list)).foldl bump c60) (by omega) hlen hlok
    (loopL_eq (IR.runL E.glob (callL E) [] ir_usufructlaw36_PickSagas_L1) (compact [] 3 [0, 1, 6, 7, 8, 9, 10])) (by rw [slOf_list]; omega) l.list 0 0 c60 rfl (by omega) (by rw [slOf_list]; rfl) (by omega) rfl
  generalize hN : (l.list.filter (allB ts.list)).foldl bump c60 = N at *
  obtain ⟨a0, a1, a2, a3, a4, a5⟩ := N
  simp only [Int.natCast_zero, c60, stPS, C6.cells, slOf_list] at hp s1
  rcases hp with ⟨⟨b0, b1, b2, b3, b4, b5⟩, hp⟩ | hp
  · simp only [go_sem, reduceIte, reduceCtorEq, Nat.reduceEqDiff, Nat.reduceAdd, Nat.reduceSub, Nat.reduceLT, Nat.reduceLeDiff, Nat.reduceBEq, Nat.reduceMul, Nat.reduceBNe, Int.reduceEq, Int.reduceLT, Int.reduceLE, Int.reduceNe, Int.reduceToNat, cells_av, tuple_av, cellsL1, cellsL2, tupleL1, tupleL2, ir_usufructlaw36_PickSagas, haw, h1, h3, s0, s1, eqL, eqV, ro_term, ro_saga, c2', hp, slOf_list]
  · simp only [go_sem, reduceIte, reduceCtorEq, Nat.reduceEqDiff, Nat.reduceAdd, Nat.reduceSub, Nat.reduceLT, Nat.reduceLeDiff, Nat.reduceBEq, Nat.reduceMul, Nat.reduceBNe, Int.reduceEq, Int.reduceLT, Int.reduceLE, Int.reduceNe, Int.reduceToNat, cells_av, tuple_av, cellsL1, cellsL2, tupleL1, tupleL2, ir_usufructlaw36_PickSagas, haw, h1, h3, s0, s1, eqL, eqV, ro_term, ro_saga, c2', hp, slOf_list]
end Go.Proofs.YtgehbkdpodnajaaDoor.Ev
