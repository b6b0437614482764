/-
  Archives: the document's adding and merging.
-/
import Derived.Test.YtklggglkdfnpkaaDoorEvAr6
set_option linter.unusedVariables false
set_option linter.unusedSimpArgs false
namespace Go.Proofs.YtklggglkdfnpkaaDoor.Ev
attribute [local congr] bind_congr_head
attribute [local go_sem] opd_t opd_c opd_g opd_f opds_nil opds_cons get_cons put_some put_none keep_nil keepC_s keepC_n keep_cons runs_nil runs_cons run_op run_opr run_call run_gand run_gor run_gif seqK_norm seqK_exit seqK_ret blkK_norm blkK_exit blkK_ret runL_skip runL_exit runL_ret runL_items runL_seq runL_cond runL_block runL_loop fin_bind finK_norm finK_ret rvs_nil rvs_cons rv_tmp rv_cell tupOf_one tupOf_nil tupOf_two ev_mov ev_pick ev_alloc ev_box ev_build parts_nil parts_cons fills_nil fills_cons ev_bsl ev_bslo ev_load ev_store ev_nilck ev_bin ev_binb ev_aeq ev_un ev_i2i ev_i2t ev_isnilI nilIF ev_s2b ev_ext ev_fld ev_idxs ev_fa ev_ias ev_len ev_lens ev_s2s ev_mkf ev_rng ev_nxt ev_app bOf_s pvOf_s agOf_s tpOf_s iOf_s sOf_s ite_bind Option.bind_some Option.bind_none if_true if_false ite_true ite_false argEnv_nil argEnv_cons len_av elems_av ias_av cells_av tuple_av AV.tuple AV.cells faF ldAt liveRef aggOf nilckF binV binI binS binB unV Bool.not_true Bool.not_false List.length_nil List.length_cons List.nil_append List.cons_append List.append_nil List.getElem?_cons_zero List.getElem?_cons_succ List.drop_zero List.drop_succ_cons List.drop_nil List.take_zero List.take_succ_cons List.take_nil List.set_cons_zero List.set_cons_succ compact_same compact_new closedB nodupB envIds ids0 upto visit pos sel AV.ids idss idsss Ob.ids AV.ren rens renss Ob.ren renEnv AV.snap snaps stAt okSt putCells List.all_nil List.all_cons List.contains_nil List.contains_cons Bool.and_true Bool.true_and Bool.and_false Bool.false_and Bool.or_true Bool.true_or Bool.or_false Bool.false_or decide_eq_true_eq decide_true decide_false beq_iff_eq bne_iff_ne beq_self_eq_true Bool.not_eq_true' Bool.false_eq_true eq_self and_self and_true true_and and_false false_and or_true true_or or_false false_or not_true_eq_false not_false_eq_true ne_eq Nat.zero_add Nat.add_zero Nat.le_refl Nat.not_lt_zero Nat.lt_irrefl Nat.zero_le Int.toNat_natCast gt_iff_lt ge_iff_le Int.lt_irrefl Int.natCast_nonneg txt_eq get_nil appF belows AV.under AV.flat flats List.length_map List.map_append List.map_cons List.map_nil List.length_append take_map_all List.flatten_cons List.flatten_nil bld_nil imp_false false_imp_iff false_implies true_implies implies_true decide_eq_false_iff_not Nat.one_mul Nat.mul_one idsss_app renss_app belowss_app ev_mn ev_mx ev_isnils ev_sls ev_slx evo_none evo_some vals minV maxV minF maxF backId List.getElem?_nil putAll Option.all_none Option.all_some Option.isSome_some intOf aszI compactV_same compactV_new callP_any callQ_eq callN_any AV.id? ids_avR ren_av under_av snap_av renss_mapf belowss_mapf idsss_mapf isnilsF List.length_eq_zero_iff int_beq int_bne decide_not slx_av Int.toNat_zero ev_mkm ev_lk ev_mup ev_mdl ev_lenm ev_isnilm mpOf_s mapAt_s mapOf_nil mapOf_mp isnilm_nil isnilm_mp lkR Option.getD_some Option.getD_none Option.isSome_none Prim.rdo ev_snp snp_own snp_v
theorem thereS_nil (n : Int) : thereS n [] = false := rfl
theorem thereS_cons (n : Int) (x : RowT) (l : List RowT) : thereS n (x :: l) = (decide (x.sg = n) || thereS n l) := rfl
theorem lenA_own (st : Store) (id gen off len : Nat) : lenAV st (.own id gen off len) = (match st[id]? with | some (.row _ g _ _) => if g = gen then some len else none | _ => none) := rfl
theorem elemsA_own (st : Store) (id gen off len : Nat) : elems st (.own id gen off len) = (match st[id]? with | some (.row _ g xs _) => if g = gen then some ((xs.drop off).take len) else none | _ => none) := rfl
theorem refAdd_loop {G : Nat → Option (List AV)} {raw : Raw} {L : Env × Store → Option (Sig × Env × Store)} (l : Sl RowT) (hl : l.list.length ≤ 1000) (r : RowT)
    (hL : ∀ e st, L (e, st) = (IR.runL G raw [] ir_usufructref31_Add_L0 e st).bind (seqK fun e st => L (compact [] 1 [0, 3, 6] e st))) :
    ∀ (rest : List RowT) (i : Nat), l.list.drop i = rest → i ≤ l.list.length →
    L ([(0, rv l), (3, .ref 0 0 0 0), (6, vi i)], [.box r.cells]) = if thereS r.sg rest = true then some (.ret, [(4, .v (.slice none 0 0)), (5, vi 6)], [.box r.cells]) else some (.exit 0, [(0, rv l), (3, .ref 0 0 0 0)], [.box r.cells])
  | [], i, h, hi => by
    have h1 := drop_nil' h hi
    rw [hL]
    simp -implicitDefEqProofs only [go_sem, reduceIte, reduceCtorEq, Nat.reduceEqDiff, Nat.reduceAdd, Nat.reduceSub, Nat.reduceLT, Nat.reduceLeDiff, Nat.reduceBEq, Nat.reduceMul, Nat.reduceBNe, Int.reduceEq, Int.reduceLT, Int.reduceLE, Int.reduceNe, Int.reduceToNat, ir_usufructref31_Add_L0, h1, thereS_nil]
  | x :: rest, i, h, hi => by
    obtain ⟨h1, h2, h3, h4, h5⟩ := drop_cons h
    have h6 := wrap_succ (i := i) (by omega)
    have ih := refAdd_loop l hl r hL rest (i + 1) h2 h4
    simp only [RowT.cells] at ih
    rw [hL]
    by_cases c : x.sg = r.sg
    · simp -implicitDefEqProofs only [go_sem, reduceIte, reduceCtorEq, Nat.reduceEqDiff, Nat.reduceAdd, Nat.reduceSub, Nat.reduceLT, Nat.reduceLeDiff, Nat.reduceBEq, Nat.reduceMul, Nat.reduceBNe, Int.reduceEq, Int.reduceLT, Int.reduceLE, Int.reduceNe, Int.reduceToNat, ir_usufructref31_Add_L0, h1, h3, h6, RowT.cells, ro_row, thereS_cons, c]
    · simp -implicitDefEqProofs only [go_sem, reduceIte, reduceCtorEq, Nat.reduceEqDiff, Nat.reduceAdd, Nat.reduceSub, Nat.reduceLT, Nat.reduceLeDiff, Nat.reduceBEq, Nat.reduceMul, Nat.reduceBNe, Int.reduceEq, Int.reduceLT, Int.reduceLE, Int.reduceNe, Int.reduceToNat, ir_usufructref31_Add_L0, h1, h3, h6, RowT.cells, ro_row, thereS_cons, c, ih]
theorem fn_refAdd {E : Prog} (hE : Std E fns) (l : Sl RowT) (hl : l.list.length ≤ 1000) (hs : ∀ r, r ∈ l.list → r.de.size < 2305843009213693952) (r : RowT) (hr : r.de.size < 2305843009213693952) :
    callP E f_usufructref31_Add [rv l, .agg r.cells] = some (.tup [rv (addS l.list r).1, vi (addS l.list r).2]) := by
  have h1 := fn_refGood31 hE l hl hs
  have h2 := fn_refRight hE r hr
  have h3 := refAdd_loop l hl r (loopL_eq (IR.runL E.glob (callL E) [] ir_usufructref31_Add_L0) (compact [] 1 [0, 3, 6])) l.list 0 rfl (by omega)
  have h4 := fn_put hE l hl r
  simp only [Int.natCast_zero, RowT.cells] at h3
  simp only [RowT.cells] at h2 h4
  rw [hE.run rfl rfl]
  unfold addS
  cases hg : goodR none l.list
  · rw [hg] at h1
    simp -implicitDefEqProofs only [go_sem, reduceIte, reduceCtorEq, Nat.reduceEqDiff, Nat.reduceAdd, Nat.reduceSub, Nat.reduceLT, Nat.reduceLeDiff, Nat.reduceBEq, Nat.reduceMul, Nat.reduceBNe, Int.reduceEq, Int.reduceLT, Int.reduceLE, Int.reduceNe, Int.reduceToNat, ir_usufructref31_Add, RowT.cells, h1, ro_row, tupOf, avN]
  · rw [hg] at h1
    cases hr : rightB r
    · rw [hr] at h2
      simp -implicitDefEqProofs only [go_sem, reduceIte, reduceCtorEq, Nat.reduceEqDiff, Nat.reduceAdd, Nat.reduceSub, Nat.reduceLT, Nat.reduceLeDiff, Nat.reduceBEq, Nat.reduceMul, Nat.reduceBNe, Int.reduceEq, Int.reduceLT, Int.reduceLE, Int.reduceNe, Int.reduceToNat, ir_usufructref31_Add, RowT.cells, h1, h2, ro_row, tupOf, avN]
    · rw [hr] at h2
      cases ht : thereS r.sg l.list
      · rw [ht] at h3
        simp only [Bool.false_eq_true, if_false] at h3
        simp -implicitDefEqProofs only [go_sem, reduceIte, reduceCtorEq, Nat.reduceEqDiff, Nat.reduceAdd, Nat.reduceSub, Nat.reduceLT, Nat.reduceLeDiff, Nat.reduceBEq, Nat.reduceMul, Nat.reduceBNe, Int.reduceEq, Int.reduceLT, Int.reduceLE, Int.reduceNe, Int.reduceToNat, ir_usufructref31_Add, RowT.cells, h1, h2, h3, h4, ro_row, tupOf]
      · rw [ht] at h3
        simp only [if_true] at h3
        simp -implicitDefEqProofs only [go_sem, reduceIte, reduceCtorEq, Nat.reduceEqDiff, Nat.reduceAdd, Nat.reduceSub, Nat.reduceLT, Nat.reduceLeDiff, Nat.reduceBEq, Nat.reduceMul, Nat.reduceBNe, Int.reduceEq, Int.reduceLT, Int.reduceLE, Int.reduceNe, Int.reduceToNat, ir_usufructref31_Add, RowT.cells, h1, h2, h3, ro_row, tupOf, avN]
end Go.Proofs.YtklggglkdfnpkaaDoor.Ev
