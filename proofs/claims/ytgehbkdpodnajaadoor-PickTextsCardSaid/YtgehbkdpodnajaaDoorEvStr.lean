/-
  Rows of texts: slices.Index, slices.Contains.
-/
import Derived.Test.YtgehbkdpodnajaaDoorEvSl
import Derived.Test.YtgehbkdpodnajaaDoorEvIR
set_option linter.unusedVariables false
set_option linter.unusedSimpArgs false
namespace Go.Proofs.YtgehbkdpodnajaaDoor.Ev
attribute [local congr] bind_congr_head
attribute [local go_sem] opd_t opd_c opd_g opd_f opds_nil opds_cons get_cons put_some put_none keep_nil keepC_s keepC_n keep_cons runs_nil runs_cons run_op run_opr run_call run_gand run_gor run_gif seqK_norm seqK_exit seqK_ret blkK_norm blkK_exit blkK_ret runL_skip runL_exit runL_ret runL_items runL_seq runL_cond runL_block runL_loop fin_bind finK_norm finK_ret rvs_nil rvs_cons rv_tmp rv_cell tupOf_one tupOf_nil tupOf_two ev_mov ev_pick ev_alloc ev_box ev_build parts_nil parts_cons fills_nil fills_cons ev_bsl ev_bslo ev_load ev_store ev_nilck ev_bin ev_binb ev_aeq ev_un ev_i2i ev_i2t ev_s2b ev_ext ev_fld ev_idxs ev_fa ev_ias ev_len ev_lens ev_s2s ev_mkf ev_rng ev_nxt ev_app bOf_s pvOf_s agOf_s tpOf_s iOf_s sOf_s ite_bind Option.bind_some Option.bind_none if_true if_false ite_true ite_false argEnv_nil argEnv_cons len_av elems_av ias_av cells_av tuple_av AV.tuple AV.cells faF ldAt liveRef aggOf nilckF binV binI binS binB unV Bool.not_true Bool.not_false List.length_nil List.length_cons List.nil_append List.cons_append List.append_nil List.getElem?_cons_zero List.getElem?_cons_succ List.drop_zero List.drop_succ_cons List.drop_nil List.take_zero List.take_succ_cons List.take_nil List.set_cons_zero List.set_cons_succ compact_same compact_new closedB nodupB envIds ids0 upto visit pos sel AV.ids idss idsss Ob.ids AV.ren rens renss Ob.ren renEnv AV.snap snaps stAt okSt putCells List.all_nil List.all_cons List.contains_nil List.contains_cons Bool.and_true Bool.true_and Bool.and_false Bool.false_and Bool.or_true Bool.true_or Bool.or_false Bool.false_or decide_eq_true_eq decide_true decide_false beq_iff_eq bne_iff_ne beq_self_eq_true Bool.not_eq_true' Bool.false_eq_true eq_self and_self and_true true_and and_false false_and or_true true_or or_false false_or not_true_eq_false not_false_eq_true ne_eq Nat.zero_add Nat.add_zero Nat.le_refl Nat.not_lt_zero Nat.lt_irrefl Nat.zero_le Int.toNat_natCast gt_iff_lt ge_iff_le Int.lt_irrefl Int.natCast_nonneg txt_eq get_nil appF elems belows AV.under AV.flat flats List.length_map List.map_append List.map_cons List.map_nil List.length_append take_map_all List.flatten_cons List.flatten_nil bld_nil imp_false false_imp_iff false_implies true_implies implies_true decide_eq_false_iff_not Nat.one_mul Nat.mul_one idsss_app renss_app belowss_app ev_mn ev_mx ev_isnils ev_sls ev_slx evo_none evo_some vals minV maxV minF maxF backId List.getElem?_nil putAll Option.all_none Option.all_some Option.isSome_some intOf aszI compactV_same compactV_new callP_any callQ_eq callN_any boxQ AV.id? ids_avR ren_av under_av snap_av renss_mapf belowss_mapf idsss_mapf isnilsF List.length_eq_zero_iff int_beq int_bne decide_not slx_av Int.toNat_zero
def strC (b : ByteArray) : List AV := [vs b]
theorem str_ids (b : ByteArray) : idss (strC b) = [] := rfl
theorem ro_str : Ro strC := str_ids
theorem strs_ids (l : List ByteArray) : idsss (l.map strC) = [] := idsss_map str_ids l
theorem strs_ren {ρ : Nat → Nat} (l : List ByteArray) : renss ρ (l.map strC) = l.map strC := renss_of _ (strs_ids l)
theorem strs_ro (n : Nat) (l : List ByteArray) : belowss n (l.map strC) = true := belowss_of _ (strs_ids l)
theorem index_loop {G : Nat → Option (List AV)} {raw : Raw} {L : Env × Store → Option (Sig × Env × Store)} (l : Sl ByteArray) (v : ByteArray) (hl : l.list.length < 9223372036854775807)
    (hL : ∀ e st, L (e, st) = (IR.runL G raw [] ir_slices_Index_string_string_L0 e st).bind (seqK fun e st => L (compact [] 0 [0, 1, 7, 8] e st))) :
    ∀ (rest : List ByteArray) (i : Nat), l.list.drop i = rest → i ≤ l.list.length →
    ∃ n : Int, (0 ≤ n ↔ v ∈ rest) ∧ L ([(0, l.av 1 strC), (1, vs v), (7, vi l.list.length), (8, vi i)], []) = if v ∈ rest then some (.ret, [(4, vi n)], []) else some (.exit 0, [], [])
  | [], i, h, hi => by
    have h1 := drop_nil' h hi
    refine ⟨-1, by simp, ?_⟩
    rw [hL]
    simp only [go_sem, reduceIte, reduceCtorEq, Nat.reduceEqDiff, Nat.reduceAdd, Nat.reduceSub, Nat.reduceLT, Nat.reduceLeDiff, Nat.reduceBEq, Nat.reduceMul, Nat.reduceBNe, Int.reduceEq, Int.reduceLT, Int.reduceLE, Int.reduceNe, Int.reduceToNat, ir_slices_Index_string_string_L0, h1]
    simp
  | x :: rest, i, h, hi => by
    obtain ⟨h1, h2, h3, h4, h5⟩ := drop_cons h
    have h6 := wrap_succ (i := i) (by omega)
    obtain ⟨n, hn, ih⟩ := index_loop l v hl hL rest (i + 1) h2 h4
    by_cases c : v = x
    · subst c
      refine ⟨i, by simp, ?_⟩
      rw [hL]
      simp only [go_sem, reduceIte, reduceCtorEq, Nat.reduceEqDiff, Nat.reduceAdd, Nat.reduceSub, Nat.reduceLT, Nat.reduceLeDiff, Nat.reduceBEq, Nat.reduceMul, Nat.reduceBNe, Int.reduceEq, Int.reduceLT, Int.reduceLE, Int.reduceNe, Int.reduceToNat, ir_slices_Index_string_string_L0, h1, h3, strC, h6]
      simp
    · refine ⟨n, by simp [hn, c], ?_⟩
      rw [hL]
      simp only [go_sem, reduceIte, reduceCtorEq, Nat.reduceEqDiff, Nat.reduceAdd, Nat.reduceSub, Nat.reduceLT, Nat.reduceLeDiff, Nat.reduceBEq, Nat.reduceMul, Nat.reduceBNe, Int.reduceEq, Int.reduceLT, Int.reduceLE, Int.reduceNe, Int.reduceToNat, ir_slices_Index_string_string_L0, h1, h3, strC, h6, c, List.mem_cons]
      exact ih
theorem fn_index {E : Prog} (hE : Std E fns) (l : Sl ByteArray) (v : ByteArray) (hl : l.list.length < 9223372036854775807) :
    ∃ n : Int, (0 ≤ n ↔ v ∈ l.list) ∧ callP E f_slices_Index_string_string [l.av 1 strC, vs v] = some (vi n) := by
  rw [hE.run rfl rfl]
  simp only [go_sem, reduceIte, reduceCtorEq, Nat.reduceEqDiff, Nat.reduceAdd, Nat.reduceSub, Nat.reduceLT, Nat.reduceLeDiff, Nat.reduceBEq, Nat.reduceMul, Nat.reduceBNe, Int.reduceEq, Int.reduceLT, Int.reduceLE, Int.reduceNe, Int.reduceToNat, ir_slices_Index_string_string]
  obtain ⟨n, hn, ih⟩ := index_loop l v hl (loopL_eq (IR.runL E.glob (callL E) [] ir_slices_Index_string_string_L0) (compact [] 0 [0, 1, 7, 8])) l.list 0 rfl (by omega)
  simp only [Int.natCast_zero] at ih
  rw [ih]
  by_cases c : v ∈ l.list
  · exact ⟨n, hn, by simp only [go_sem, reduceIte, reduceCtorEq, Nat.reduceEqDiff, Nat.reduceAdd, Nat.reduceSub, Nat.reduceLT, Nat.reduceLeDiff, Nat.reduceBEq, Nat.reduceMul, Nat.reduceBNe, Int.reduceEq, Int.reduceLT, Int.reduceLE, Int.reduceNe, Int.reduceToNat, c]⟩
  · refine ⟨-1, by simp [c], ?_⟩
    simp only [go_sem, reduceIte, reduceCtorEq, Nat.reduceEqDiff, Nat.reduceAdd, Nat.reduceSub, Nat.reduceLT, Nat.reduceLeDiff, Nat.reduceBEq, Nat.reduceMul, Nat.reduceBNe, Int.reduceEq, Int.reduceLT, Int.reduceLE, Int.reduceNe, Int.reduceToNat, c]
theorem fn_contains {E : Prog} (hE : Std E fns) (l : Sl ByteArray) (v : ByteArray) (hl : l.list.length < 9223372036854775807) :
    callP E f_slices_Contains_string_string [l.av 1 strC, vs v] = some (vb (decide (v ∈ l.list))) := by
  obtain ⟨n, hn, h⟩ := fn_index hE l v hl
  rw [hE.run rfl rfl]
  simp only [go_sem, reduceIte, reduceCtorEq, Nat.reduceEqDiff, Nat.reduceAdd, Nat.reduceSub, Nat.reduceLT, Nat.reduceLeDiff, Nat.reduceBEq, Nat.reduceMul, Nat.reduceBNe, Int.reduceEq, Int.reduceLT, Int.reduceLE, Int.reduceNe, Int.reduceToNat, ir_slices_Contains_string_string, ro_str, h, hn]

end Go.Proofs.YtgehbkdpodnajaaDoor.Ev
