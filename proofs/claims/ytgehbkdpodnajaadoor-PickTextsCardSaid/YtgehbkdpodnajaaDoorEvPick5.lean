/-
  Picks: whether a term holds, by the document.
-/
import Derived.Test.YtgehbkdpodnajaaDoorEvPick
set_option linter.unusedVariables false
set_option linter.unusedSimpArgs false
namespace Go.Proofs.YtgehbkdpodnajaaDoor.Ev
attribute [local congr] bind_congr_head
attribute [local go_sem] opd_t opd_c opd_g opd_f opds_nil opds_cons get_cons put_some put_none keep_nil keepC_s keepC_n keep_cons runs_nil runs_cons run_op run_opr run_call run_gand run_gor run_gif seqK_norm seqK_exit seqK_ret blkK_norm blkK_exit blkK_ret runL_skip runL_exit runL_ret runL_items runL_seq runL_cond runL_block runL_loop fin_bind finK_norm finK_ret rvs_nil rvs_cons rv_tmp rv_cell tupOf_one tupOf_nil tupOf_two ev_mov ev_pick ev_alloc ev_box ev_build parts_nil parts_cons fills_nil fills_cons ev_bsl ev_bslo ev_load ev_store ev_nilck ev_bin ev_binb ev_aeq ev_un ev_i2i ev_i2t ev_s2b ev_ext ev_fld ev_idxs ev_fa ev_ias ev_len ev_lens ev_s2s ev_mkf ev_rng ev_nxt ev_app bOf_s pvOf_s agOf_s tpOf_s iOf_s sOf_s ite_bind Option.bind_some Option.bind_none if_true if_false ite_true ite_false argEnv_nil argEnv_cons len_av elems_av ias_av cells_av tuple_av AV.tuple AV.cells faF ldAt liveRef aggOf nilckF binV binI binS binB unV Bool.not_true Bool.not_false List.length_nil List.length_cons List.nil_append List.cons_append List.append_nil List.getElem?_cons_zero List.getElem?_cons_succ List.drop_zero List.drop_succ_cons List.drop_nil List.take_zero List.take_succ_cons List.take_nil List.set_cons_zero List.set_cons_succ compact_same compact_new closedB nodupB envIds ids0 upto visit pos sel AV.ids idss idsss Ob.ids AV.ren rens renss Ob.ren renEnv AV.snap snaps stAt okSt putCells List.all_nil List.all_cons List.contains_nil List.contains_cons Bool.and_true Bool.true_and Bool.and_false Bool.false_and Bool.or_true Bool.true_or Bool.or_false Bool.false_or decide_eq_true_eq decide_true decide_false beq_iff_eq bne_iff_ne beq_self_eq_true Bool.not_eq_true' Bool.false_eq_true eq_self and_self and_true true_and and_false false_and or_true true_or or_false false_or not_true_eq_false not_false_eq_true ne_eq Nat.zero_add Nat.add_zero Nat.le_refl Nat.not_lt_zero Nat.lt_irrefl Nat.zero_le Int.toNat_natCast gt_iff_lt ge_iff_le Int.lt_irrefl Int.natCast_nonneg txt_eq get_nil appF elems belows AV.under AV.flat flats List.length_map List.map_append List.map_cons List.map_nil List.length_append take_map_all List.flatten_cons List.flatten_nil bld_nil imp_false false_imp_iff false_implies true_implies implies_true decide_eq_false_iff_not Nat.one_mul Nat.mul_one idsss_app renss_app belowss_app ev_mn ev_mx ev_isnils ev_sls ev_slx evo_none evo_some vals minV maxV minF maxF backId List.getElem?_nil putAll Option.all_none Option.all_some Option.isSome_some intOf aszI compactV_same compactV_new callP_any callQ_eq callN_any boxQ AV.id? ids_avR ren_av under_av snap_av renss_mapf belowss_mapf idsss_mapf isnilsF List.length_eq_zero_iff int_beq int_bne decide_not slx_av Int.toNat_zero
def goodK (t : TermT) : Nat → Bool
  | 6 => decide (t.sign = 0) && decide (t.n = 0) && labelGood t.s
  | 7 => decide (t.sign = 0) && decide (t.s = ⟨#[]⟩) && decide (0 ≤ t.n) && decide (t.n ≤ 5)
  | 8 => decide (t.sign = 0) && decide (t.s = ⟨#[]⟩) && (decide (t.n = 0) || decide (t.n = 1))
  | 9 => false
  | _ => decide (-1 ≤ t.sign) && decide (t.sign ≤ 1) && decide (t.s = ⟨#[]⟩) && decide (0 ≤ t.n) && decide (t.n ≤ 999999999999999)
theorem goodK_lt (t : TermT) {k : Nat} (h : k < 6) : goodK t k = (decide (-1 ≤ t.sign) && decide (t.sign ≤ 1) && decide (t.s = ⟨#[]⟩) && decide (0 ≤ t.n) && decide (t.n ≤ 999999999999999)) := by
  have : k = 0 ∨ k = 1 ∨ k = 2 ∨ k = 3 ∨ k = 4 ∨ k = 5 := by omega
  rcases this with rfl | rfl | rfl | rfl | rfl | rfl <;> rfl
/-- Is a term one that a pick can have? -/
def goodB (t : TermT) : Bool := goodK t (fieldK t.field)
set_option maxHeartbeats 4000000 in
theorem fn_pickGood {E : Prog} (hE : Std E fns) (hv : ∀ s : ByteArray, s.size < 9223372036854775807 → callP E f_utf8_ValidString [vs s] = some (vb (Lib.validD s.data.toList))) (t : TermT) (ht : t.s.size < 9223372036854775807) :
    callP E f_pick_good [.agg t.cells] = some (vb (goodB t)) := by
  have c := cmp_of t.field
  have hn := fn_numbers hE t.field
  have hl := fn_labelGood hE hv t.s ht
  rw [hE.run rfl rfl]
  unfold goodB
  generalize fieldK t.field = k at c hn ⊢
  have hk := c.le
  have : k = 6 ∨ k = 7 ∨ k = 8 ∨ k = 9 ∨ k < 6 := by omega
  rcases this with rfl | rfl | rfl | rfl | hk6
  · simp only [go_sem, reduceIte, reduceCtorEq, Nat.reduceEqDiff, Nat.reduceAdd, Nat.reduceSub, Nat.reduceLT, Nat.reduceLeDiff, Nat.reduceBEq, Nat.reduceMul, Nat.reduceBNe, Int.reduceEq, Int.reduceLT, Int.reduceLE, Int.reduceNe, Int.reduceToNat, ir_pick_good, TermT.cells, c.c0, c.c1, c.c2, c.c3, c.c4, c.c5, c.c6, c.c7, c.c8, hl, goodK]
    by_cases a1 : t.sign = 0 <;> by_cases a2 : t.n = 0 <;> simp [a1, a2]
  · simp only [go_sem, reduceIte, reduceCtorEq, Nat.reduceEqDiff, Nat.reduceAdd, Nat.reduceSub, Nat.reduceLT, Nat.reduceLeDiff, Nat.reduceBEq, Nat.reduceMul, Nat.reduceBNe, Int.reduceEq, Int.reduceLT, Int.reduceLE, Int.reduceNe, Int.reduceToNat, ir_pick_good, TermT.cells, c.c0, c.c1, c.c2, c.c3, c.c4, c.c5, c.c6, c.c7, c.c8, goodK]
    by_cases a1 : t.sign = 0 <;> by_cases a2 : t.s = ⟨#[]⟩ <;> by_cases a3 : 0 ≤ t.n <;> simp [a1, a2, a3]
  · simp only [go_sem, reduceIte, reduceCtorEq, Nat.reduceEqDiff, Nat.reduceAdd, Nat.reduceSub, Nat.reduceLT, Nat.reduceLeDiff, Nat.reduceBEq, Nat.reduceMul, Nat.reduceBNe, Int.reduceEq, Int.reduceLT, Int.reduceLE, Int.reduceNe, Int.reduceToNat, ir_pick_good, TermT.cells, c.c0, c.c1, c.c2, c.c3, c.c4, c.c5, c.c6, c.c7, c.c8, goodK]
    by_cases a1 : t.sign = 0 <;> by_cases a2 : t.s = ⟨#[]⟩ <;> by_cases a3 : t.n = 0 <;> simp [a1, a2, a3]
  · simp only [go_sem, reduceIte, reduceCtorEq, Nat.reduceEqDiff, Nat.reduceAdd, Nat.reduceSub, Nat.reduceLT, Nat.reduceLeDiff, Nat.reduceBEq, Nat.reduceMul, Nat.reduceBNe, Int.reduceEq, Int.reduceLT, Int.reduceLE, Int.reduceNe, Int.reduceToNat, ir_pick_good, TermT.cells, c.c0, c.c1, c.c2, c.c3, c.c4, c.c5, c.c6, c.c7, c.c8, hn, goodK]
  · have e6 : ¬ k = 6 := by omega
    have e7 : ¬ k = 7 := by omega
    have e8 : ¬ k = 8 := by omega
    rw [goodK_lt t hk6]
    simp only [go_sem, reduceIte, reduceCtorEq, Nat.reduceEqDiff, Nat.reduceAdd, Nat.reduceSub, Nat.reduceLT, Nat.reduceLeDiff, Nat.reduceBEq, Nat.reduceMul, Nat.reduceBNe, Int.reduceEq, Int.reduceLT, Int.reduceLE, Int.reduceNe, Int.reduceToNat, ir_pick_good, TermT.cells, c.c6, c.c7, c.c8, e6, e7, e8, hn, hk6]
    by_cases a1 : -1 ≤ t.sign <;> by_cases a2 : t.sign ≤ 1 <;> by_cases a3 : t.s = ⟨#[]⟩ <;> by_cases a4 : 0 ≤ t.n <;> simp [a1, a2, a3, a4]
end Go.Proofs.YtgehbkdpodnajaaDoor.Ev
set_option linter.unusedVariables false
set_option linter.unusedSimpArgs false
namespace Go.Proofs.YtgehbkdpodnajaaDoor.Ev
attribute [local congr] bind_congr_head
attribute [local go_sem] opd_t opd_c opd_g opd_f opds_nil opds_cons get_cons put_some put_none keep_nil keepC_s keepC_n keep_cons runs_nil runs_cons run_op run_opr run_call run_gand run_gor run_gif seqK_norm seqK_exit seqK_ret blkK_norm blkK_exit blkK_ret runL_skip runL_exit runL_ret runL_items runL_seq runL_cond runL_block runL_loop fin_bind finK_norm finK_ret rvs_nil rvs_cons rv_tmp rv_cell tupOf_one tupOf_nil tupOf_two ev_mov ev_pick ev_alloc ev_box ev_build parts_nil parts_cons fills_nil fills_cons ev_bsl ev_bslo ev_load ev_store ev_nilck ev_bin ev_binb ev_aeq ev_un ev_i2i ev_i2t ev_s2b ev_ext ev_fld ev_idxs ev_fa ev_ias ev_len ev_lens ev_s2s ev_mkf ev_rng ev_nxt ev_app bOf_s pvOf_s agOf_s tpOf_s iOf_s sOf_s ite_bind Option.bind_some Option.bind_none if_true if_false ite_true ite_false argEnv_nil argEnv_cons len_av elems_av ias_av cells_av tuple_av AV.tuple AV.cells faF ldAt liveRef aggOf nilckF binV binI binS binB unV Bool.not_true Bool.not_false List.length_nil List.length_cons List.nil_append List.cons_append List.append_nil List.getElem?_cons_zero List.getElem?_cons_succ List.drop_zero List.drop_succ_cons List.drop_nil List.take_zero List.take_succ_cons List.take_nil List.set_cons_zero List.set_cons_succ compact_same compact_new closedB nodupB envIds ids0 upto visit pos sel AV.ids idss idsss Ob.ids AV.ren rens renss Ob.ren renEnv AV.snap snaps stAt okSt putCells List.all_nil List.all_cons List.contains_nil List.contains_cons Bool.and_true Bool.true_and Bool.and_false Bool.false_and Bool.or_true Bool.true_or Bool.or_false Bool.false_or decide_eq_true_eq decide_true decide_false beq_iff_eq bne_iff_ne beq_self_eq_true Bool.not_eq_true' Bool.false_eq_true eq_self and_self and_true true_and and_false false_and or_true true_or or_false false_or not_true_eq_false not_false_eq_true ne_eq Nat.zero_add Nat.add_zero Nat.le_refl Nat.not_lt_zero Nat.lt_irrefl Nat.zero_le Int.toNat_natCast gt_iff_lt ge_iff_le Int.lt_irrefl Int.natCast_nonneg txt_eq get_nil appF elems belows AV.under AV.flat flats List.length_map List.map_append List.map_cons List.map_nil List.length_append take_map_all List.flatten_cons List.flatten_nil bld_nil imp_false false_imp_iff false_implies true_implies implies_true decide_eq_false_iff_not Nat.one_mul Nat.mul_one idsss_app renss_app belowss_app ev_mn ev_mx ev_isnils ev_sls ev_slx evo_none evo_some vals minV maxV minF maxF backId List.getElem?_nil putAll Option.all_none Option.all_some Option.isSome_some intOf aszI compactV_same compactV_new callP_any callQ_eq callN_any boxQ AV.id? ids_avR ren_av under_av snap_av renss_mapf belowss_mapf idsss_mapf isnilsF List.length_eq_zero_iff int_beq int_bne decide_not slx_av Int.toNat_zero
set_option maxHeartbeats 4000000 in
theorem fn_refTerm {E : Prog} (hE : Std E fns) (t : TermT) (ht : t.s.size < 2305843009213693952) : callP E f_usufructref36_Term [.agg t.cells] = some (vb (goodB t)) := by
  have c := cmp_of t.field
  have hn := fn_kind hE t.field
  have hl := fn_refGood hE t.s ht
  rw [hE.run rfl rfl]
  unfold goodB
  generalize fieldK t.field = k at c hn ⊢
  have hk := c.le
  have : k = 6 ∨ k = 7 ∨ k = 8 ∨ k = 9 ∨ k < 6 := by omega
  rcases this with rfl | rfl | rfl | rfl | hk6
  · have hn' : callP E f_usufructref36_kind [vs t.field] = some (vi 2) := hn
    simp only [go_sem, reduceIte, reduceCtorEq, Nat.reduceEqDiff, Nat.reduceAdd, Nat.reduceSub, Nat.reduceLT, Nat.reduceLeDiff, Nat.reduceBEq, Nat.reduceMul, Nat.reduceBNe, Int.reduceEq, Int.reduceLT, Int.reduceLE, Int.reduceNe, Int.reduceToNat, ir_usufructref36_Term, TermT.cells, c.c6, c.c7, hl, hn', goodK]
    by_cases a1 : t.sign = 0 <;> by_cases a2 : t.n = 0 <;> simp [a1, a2]
  · have hn' : callP E f_usufructref36_kind [vs t.field] = some (vi 2) := hn
    simp only [go_sem, reduceIte, reduceCtorEq, Nat.reduceEqDiff, Nat.reduceAdd, Nat.reduceSub, Nat.reduceLT, Nat.reduceLeDiff, Nat.reduceBEq, Nat.reduceMul, Nat.reduceBNe, Int.reduceEq, Int.reduceLT, Int.reduceLE, Int.reduceNe, Int.reduceToNat, ir_usufructref36_Term, TermT.cells, c.c6, c.c7, hn', goodK]
    by_cases a1 : t.sign = 0 <;> by_cases a2 : t.s = ⟨#[]⟩ <;> by_cases a3 : 0 ≤ t.n <;> simp [a1, a2, a3]
  · have hn' : callP E f_usufructref36_kind [vs t.field] = some (vi 2) := hn
    simp only [go_sem, reduceIte, reduceCtorEq, Nat.reduceEqDiff, Nat.reduceAdd, Nat.reduceSub, Nat.reduceLT, Nat.reduceLeDiff, Nat.reduceBEq, Nat.reduceMul, Nat.reduceBNe, Int.reduceEq, Int.reduceLT, Int.reduceLE, Int.reduceNe, Int.reduceToNat, ir_usufructref36_Term, TermT.cells, c.c6, c.c7, hn', goodK]
    by_cases a1 : t.sign = 0 <;> by_cases a2 : t.s = ⟨#[]⟩ <;> by_cases a3 : t.n = 0 <;> simp [a1, a2, a3]
  · have hn' : callP E f_usufructref36_kind [vs t.field] = some (vi 0) := hn
    simp only [go_sem, reduceIte, reduceCtorEq, Nat.reduceEqDiff, Nat.reduceAdd, Nat.reduceSub, Nat.reduceLT, Nat.reduceLeDiff, Nat.reduceBEq, Nat.reduceMul, Nat.reduceBNe, Int.reduceEq, Int.reduceLT, Int.reduceLE, Int.reduceNe, Int.reduceToNat, ir_usufructref36_Term, TermT.cells, hn', goodK]
  · have hn' : callP E f_usufructref36_kind [vs t.field] = some (vi 1) := by rw [hn, if_pos hk6]
    rw [goodK_lt t hk6]
    have hs : (decide (-1 ≤ t.sign) && decide (t.sign ≤ 1)) = (decide (t.sign = 0) || decide (t.sign = 1) || decide (t.sign = -1)) := by
      by_cases a1 : t.sign = 0
      · simp [a1]
      · by_cases a2 : t.sign = 1
        · simp [a2]
        · by_cases a3 : t.sign = -1
          · simp [a3]
          · rw [decide_eq_false a1, decide_eq_false a2, decide_eq_false a3]
            by_cases b1 : -1 ≤ t.sign
            · rw [decide_eq_false (show ¬ t.sign ≤ 1 by omega)]; simp
            · rw [decide_eq_false b1]; simp
    rw [hs]
    simp only [go_sem, reduceIte, reduceCtorEq, Nat.reduceEqDiff, Nat.reduceAdd, Nat.reduceSub, Nat.reduceLT, Nat.reduceLeDiff, Nat.reduceBEq, Nat.reduceMul, Nat.reduceBNe, Int.reduceEq, Int.reduceLT, Int.reduceLE, Int.reduceNe, Int.reduceToNat, ir_usufructref36_Term, TermT.cells, hn']
    by_cases a1 : t.sign = 0 <;> by_cases a2 : t.sign = 1 <;> by_cases a3 : t.s = ⟨#[]⟩ <;> by_cases a4 : 0 ≤ t.n <;> by_cases a5 : t.n ≤ 999999999999999 <;> simp [a1, a2, a3, a4, a5]
end Go.Proofs.YtgehbkdpodnajaaDoor.Ev
set_option linter.unusedVariables false
set_option linter.unusedSimpArgs false
namespace Go.Proofs.YtgehbkdpodnajaaDoor.Ev
attribute [local congr] bind_congr_head
attribute [local go_sem] opd_t opd_c opd_g opd_f opds_nil opds_cons get_cons put_some put_none keep_nil keepC_s keepC_n keep_cons runs_nil runs_cons run_op run_opr run_call run_gand run_gor run_gif seqK_norm seqK_exit seqK_ret blkK_norm blkK_exit blkK_ret runL_skip runL_exit runL_ret runL_items runL_seq runL_cond runL_block runL_loop fin_bind finK_norm finK_ret rvs_nil rvs_cons rv_tmp rv_cell tupOf_one tupOf_nil tupOf_two ev_mov ev_pick ev_alloc ev_box ev_build parts_nil parts_cons fills_nil fills_cons ev_bsl ev_bslo ev_load ev_store ev_nilck ev_bin ev_binb ev_aeq ev_un ev_i2i ev_i2t ev_s2b ev_ext ev_fld ev_idxs ev_fa ev_ias ev_len ev_lens ev_s2s ev_mkf ev_rng ev_nxt ev_app bOf_s pvOf_s agOf_s tpOf_s iOf_s sOf_s ite_bind Option.bind_some Option.bind_none if_true if_false ite_true ite_false argEnv_nil argEnv_cons len_av elems_av ias_av cells_av tuple_av AV.tuple AV.cells faF ldAt liveRef aggOf nilckF binV binI binS binB unV Bool.not_true Bool.not_false List.length_nil List.length_cons List.nil_append List.cons_append List.append_nil List.getElem?_cons_zero List.getElem?_cons_succ List.drop_zero List.drop_succ_cons List.drop_nil List.take_zero List.take_succ_cons List.take_nil List.set_cons_zero List.set_cons_succ compact_same compact_new closedB nodupB envIds ids0 upto visit pos sel AV.ids idss idsss Ob.ids AV.ren rens renss Ob.ren renEnv AV.snap snaps stAt okSt putCells List.all_nil List.all_cons List.contains_nil List.contains_cons Bool.and_true Bool.true_and Bool.and_false Bool.false_and Bool.or_true Bool.true_or Bool.or_false Bool.false_or decide_eq_true_eq decide_true decide_false beq_iff_eq bne_iff_ne beq_self_eq_true Bool.not_eq_true' Bool.false_eq_true eq_self and_self and_true true_and and_false false_and or_true true_or or_false false_or not_true_eq_false not_false_eq_true ne_eq Nat.zero_add Nat.add_zero Nat.le_refl Nat.not_lt_zero Nat.lt_irrefl Nat.zero_le Int.toNat_natCast gt_iff_lt ge_iff_le Int.lt_irrefl Int.natCast_nonneg txt_eq get_nil appF elems belows AV.under AV.flat flats List.length_map List.map_append List.map_cons List.map_nil List.length_append take_map_all List.flatten_cons List.flatten_nil bld_nil imp_false false_imp_iff false_implies true_implies implies_true decide_eq_false_iff_not Nat.one_mul Nat.mul_one idsss_app renss_app belowss_app ev_mn ev_mx ev_isnils ev_sls ev_slx evo_none evo_some vals minV maxV minF maxF backId List.getElem?_nil putAll Option.all_none Option.all_some Option.isSome_some intOf aszI compactV_same compactV_new callP_any callQ_eq callN_any boxQ AV.id? ids_avR ren_av under_av snap_av renss_mapf belowss_mapf idsss_mapf isnilsF List.length_eq_zero_iff int_beq int_bne decide_not slx_av Int.toNat_zero
/-- Does a term hold of a saga? -/
def holdsB (t : TermT) (x : SagaT) : Bool :=
  goodB t && ((if fieldK t.field = 6 then decide (x.de = t.s) else decide (cmpS (fieldS (fieldK t.field) x) t.n = t.sign)) != t.not)
set_option maxHeartbeats 4000000 in
theorem fn_pickHolds {E : Prog} (hE : Std E fns) (hv : ∀ s : ByteArray, s.size < 9223372036854775807 → callP E f_utf8_ValidString [vs s] = some (vb (Lib.validD s.data.toList))) (t : TermT) (x : SagaT) (ht : t.s.size < 9223372036854775807) :
    callP E f_pick_Holds [.agg t.cells, .agg x.cells] = some (vb (holdsB t x)) := by
  have c := cmp_of t.field
  have h1 := fn_pickGood hE hv t ht
  have h2 := fn_field hE t.field x
  have h3 := fn_compare hE (fieldS (fieldK t.field) x) t.n
  simp only [TermT.cells, SagaT.cells] at h1 h2
  rw [hE.run rfl rfl]
  unfold holdsB
  cases hg : goodB t
  · rw [hg] at h1
    simp only [go_sem, reduceIte, reduceCtorEq, Nat.reduceEqDiff, Nat.reduceAdd, Nat.reduceSub, Nat.reduceLT, Nat.reduceLeDiff, Nat.reduceBEq, Nat.reduceMul, Nat.reduceBNe, Int.reduceEq, Int.reduceLT, Int.reduceLE, Int.reduceNe, Int.reduceToNat, ir_pick_Holds, TermT.cells, SagaT.cells, h1]
  · rw [hg] at h1
    by_cases k6 : fieldK t.field = 6
    · rw [k6] at h2 h3
      simp only [go_sem, reduceIte, reduceCtorEq, Nat.reduceEqDiff, Nat.reduceAdd, Nat.reduceSub, Nat.reduceLT, Nat.reduceLeDiff, Nat.reduceBEq, Nat.reduceMul, Nat.reduceBNe, Int.reduceEq, Int.reduceLT, Int.reduceLE, Int.reduceNe, Int.reduceToNat, ir_pick_Holds, TermT.cells, SagaT.cells, h1, h2, h3, c.c6, k6]
      cases t.not <;> simp
    · simp only [go_sem, reduceIte, reduceCtorEq, Nat.reduceEqDiff, Nat.reduceAdd, Nat.reduceSub, Nat.reduceLT, Nat.reduceLeDiff, Nat.reduceBEq, Nat.reduceMul, Nat.reduceBNe, Int.reduceEq, Int.reduceLT, Int.reduceLE, Int.reduceNe, Int.reduceToNat, ir_pick_Holds, TermT.cells, SagaT.cells, h1, h2, h3, c.c6, k6]
      cases t.not <;> simp
end Go.Proofs.YtgehbkdpodnajaaDoor.Ev
set_option linter.unusedVariables false
set_option linter.unusedSimpArgs false
namespace Go.Proofs.YtgehbkdpodnajaaDoor.Ev
attribute [local congr] bind_congr_head
attribute [local go_sem] opd_t opd_c opd_g opd_f opds_nil opds_cons get_cons put_some put_none keep_nil keepC_s keepC_n keep_cons runs_nil runs_cons run_op run_opr run_call run_gand run_gor run_gif seqK_norm seqK_exit seqK_ret blkK_norm blkK_exit blkK_ret runL_skip runL_exit runL_ret runL_items runL_seq runL_cond runL_block runL_loop fin_bind finK_norm finK_ret rvs_nil rvs_cons rv_tmp rv_cell tupOf_one tupOf_nil tupOf_two ev_mov ev_pick ev_alloc ev_box ev_build parts_nil parts_cons fills_nil fills_cons ev_bsl ev_bslo ev_load ev_store ev_nilck ev_bin ev_binb ev_aeq ev_un ev_i2i ev_i2t ev_s2b ev_ext ev_fld ev_idxs ev_fa ev_ias ev_len ev_lens ev_s2s ev_mkf ev_rng ev_nxt ev_app bOf_s pvOf_s agOf_s tpOf_s iOf_s sOf_s ite_bind Option.bind_some Option.bind_none if_true if_false ite_true ite_false argEnv_nil argEnv_cons len_av elems_av ias_av cells_av tuple_av AV.tuple AV.cells faF ldAt liveRef aggOf nilckF binV binI binS binB unV Bool.not_true Bool.not_false List.length_nil List.length_cons List.nil_append List.cons_append List.append_nil List.getElem?_cons_zero List.getElem?_cons_succ List.drop_zero List.drop_succ_cons List.drop_nil List.take_zero List.take_succ_cons List.take_nil List.set_cons_zero List.set_cons_succ compact_same compact_new closedB nodupB envIds ids0 upto visit pos sel AV.ids idss idsss Ob.ids AV.ren rens renss Ob.ren renEnv AV.snap snaps stAt okSt putCells List.all_nil List.all_cons List.contains_nil List.contains_cons Bool.and_true Bool.true_and Bool.and_false Bool.false_and Bool.or_true Bool.true_or Bool.or_false Bool.false_or decide_eq_true_eq decide_true decide_false beq_iff_eq bne_iff_ne beq_self_eq_true Bool.not_eq_true' Bool.false_eq_true eq_self and_self and_true true_and and_false false_and or_true true_or or_false false_or not_true_eq_false not_false_eq_true ne_eq Nat.zero_add Nat.add_zero Nat.le_refl Nat.not_lt_zero Nat.lt_irrefl Nat.zero_le Int.toNat_natCast gt_iff_lt ge_iff_le Int.lt_irrefl Int.natCast_nonneg txt_eq get_nil appF elems belows AV.under AV.flat flats List.length_map List.map_append List.map_cons List.map_nil List.length_append take_map_all List.flatten_cons List.flatten_nil bld_nil imp_false false_imp_iff false_implies true_implies implies_true decide_eq_false_iff_not Nat.one_mul Nat.mul_one idsss_app renss_app belowss_app ev_mn ev_mx ev_isnils ev_sls ev_slx evo_none evo_some vals minV maxV minF maxF backId List.getElem?_nil putAll Option.all_none Option.all_some Option.isSome_some intOf aszI compactV_same compactV_new callP_any callQ_eq callN_any boxQ AV.id? ids_avR ren_av under_av snap_av renss_mapf belowss_mapf idsss_mapf isnilsF List.length_eq_zero_iff int_beq int_bne decide_not slx_av Int.toNat_zero
theorem good_sign {t : TermT} (h : goodB t = true) (hk : fieldK t.field ≠ 6) : t.sign = -1 ∨ t.sign = 0 ∨ t.sign = 1 := by
  have c := cmp_of t.field
  unfold goodB at h
  generalize fieldK t.field = k at *
  have hk9 := c.le
  have : k = 7 ∨ k = 8 ∨ k = 9 ∨ k < 6 := by omega
  rcases this with rfl | rfl | rfl | hk6
  · simp only [goodK, Bool.and_eq_true, decide_eq_true_eq] at h; omega
  · simp only [goodK, Bool.and_eq_true, decide_eq_true_eq] at h; omega
  · cases h
  · rw [goodK_lt t hk6] at h
    simp only [Bool.and_eq_true, decide_eq_true_eq] at h; omega
theorem good_nine {t : TermT} (h : goodB t = true) : fieldK t.field ≠ 9 := fun e => by
  unfold goodB at h; rw [e] at h; cases h
/-- The document's comparison. -/
theorem cmp_sign {v n g : Int} (h : g = -1 ∨ g = 0 ∨ g = 1) : (decide (g < 0) && decide (v < n) || decide (g = 0) && decide (v = n) || decide (0 < g) && decide (n < v)) = decide (cmpS v n = g) := by
  unfold cmpS
  rcases h with rfl | rfl | rfl
  · by_cases a : v < n
    · simp [a]
    · by_cases b : n < v <;> simp [a, b]
  · by_cases a : v < n
    · have : ¬ v = n := by omega
      simp [a, this]
    · by_cases b : n < v
      · have : ¬ v = n := by omega
        simp [a, b, this]
      · have : v = n := by omega
        simp [this]
  · by_cases a : v < n
    · have : ¬ n < v := by omega
      simp [a, this]
    · by_cases b : n < v <;> simp [a, b]
end Go.Proofs.YtgehbkdpodnajaaDoor.Ev
