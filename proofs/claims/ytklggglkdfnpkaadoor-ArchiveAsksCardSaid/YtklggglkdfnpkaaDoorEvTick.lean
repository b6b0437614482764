/-
  Ticks: what the program's functions, and the document's, answer.
-/
import Derived.Test.YtklggglkdfnpkaaDoorEvSl
import Derived.Test.YtklggglkdfnpkaaDoorEvIR
set_option linter.unusedVariables false
set_option linter.unusedSimpArgs false
namespace Go.Proofs.YtklggglkdfnpkaaDoor.Ev
attribute [local congr] bind_congr_head
attribute [local go_sem] opd_t opd_c opd_g opd_f opds_nil opds_cons get_cons put_some put_none keep_nil keepC_s keepC_n keep_cons runs_nil runs_cons run_op run_opr run_call run_gand run_gor run_gif seqK_norm seqK_exit seqK_ret blkK_norm blkK_exit blkK_ret runL_skip runL_exit runL_ret runL_items runL_seq runL_cond runL_block runL_loop fin_bind finK_norm finK_ret rvs_nil rvs_cons rv_tmp rv_cell tupOf_one tupOf_nil tupOf_two ev_mov ev_pick ev_alloc ev_box ev_build parts_nil parts_cons fills_nil fills_cons ev_bsl ev_bslo ev_load ev_store ev_nilck ev_bin ev_binb ev_aeq ev_un ev_i2i ev_i2t ev_isnilI nilIF ev_s2b ev_ext ev_fld ev_idxs ev_fa ev_ias ev_len ev_lens ev_s2s ev_mkf ev_rng ev_nxt ev_app bOf_s pvOf_s agOf_s tpOf_s iOf_s sOf_s ite_bind Option.bind_some Option.bind_none if_true if_false ite_true ite_false argEnv_nil argEnv_cons len_av elems_av ias_av cells_av tuple_av AV.tuple AV.cells faF ldAt liveRef aggOf nilckF binV binI binS binB unV Bool.not_true Bool.not_false List.length_nil List.length_cons List.nil_append List.cons_append List.append_nil List.getElem?_cons_zero List.getElem?_cons_succ List.drop_zero List.drop_succ_cons List.drop_nil List.take_zero List.take_succ_cons List.take_nil List.set_cons_zero List.set_cons_succ compact_same compact_new closedB nodupB envIds ids0 upto visit pos sel AV.ids idss idsss Ob.ids AV.ren rens renss Ob.ren renEnv AV.snap snaps stAt okSt putCells List.all_nil List.all_cons List.contains_nil List.contains_cons Bool.and_true Bool.true_and Bool.and_false Bool.false_and Bool.or_true Bool.true_or Bool.or_false Bool.false_or decide_eq_true_eq decide_true decide_false beq_iff_eq bne_iff_ne beq_self_eq_true Bool.not_eq_true' Bool.false_eq_true eq_self and_self and_true true_and and_false false_and or_true true_or or_false false_or not_true_eq_false not_false_eq_true ne_eq Nat.zero_add Nat.add_zero Nat.le_refl Nat.not_lt_zero Nat.lt_irrefl Nat.zero_le Int.toNat_natCast gt_iff_lt ge_iff_le Int.lt_irrefl Int.natCast_nonneg txt_eq get_nil appF elems belows AV.under AV.flat flats List.length_map List.map_append List.map_cons List.map_nil List.length_append take_map_all List.flatten_cons List.flatten_nil bld_nil imp_false false_imp_iff false_implies true_implies implies_true decide_eq_false_iff_not Nat.one_mul Nat.mul_one idsss_app renss_app belowss_app ev_mn ev_mx ev_isnils ev_sls ev_slx evo_none evo_some vals minV maxV minF maxF backId List.getElem?_nil putAll Option.all_none Option.all_some Option.isSome_some intOf aszI compactV_same compactV_new callP_any callQ_eq callN_any boxQ AV.id? ids_avR ren_av under_av snap_av renss_mapf belowss_mapf idsss_mapf isnilsF List.length_eq_zero_iff int_beq int_bne decide_not slx_av Int.toNat_zero ev_mkm ev_lk ev_mup ev_mdl ev_lenm ev_isnilm mpOf_s mapAt_s mapOf_nil mapOf_mp isnilm_nil isnilm_mp lkR Option.getD_some Option.getD_none Option.isSome_none Prim.rdo ev_snp snp_own snp_v

def tickOf (n : Int) : Int := if n < 0 then 0 else if n > 1099511627776 then 1099511627776 else n
theorem tickOf_in (n : Int) : 0 ≤ tickOf n ∧ tickOf n ≤ 1099511627776 := by unfold tickOf; split <;> (try split) <;> omega
def tickAdd (a b : Int) : Int := tickOf (tickOf a + tickOf b)
section
variable {E : Prog} (hE : Std E fns)
theorem fn_tickOf (hE : Std E fns) (n : Int) : callP E f_tick_Of [vi n] = some (vi (tickOf n)) := by
  rw [hE.run rfl rfl]
  simp -implicitDefEqProofs only [go_sem, reduceIte, reduceCtorEq, Nat.reduceEqDiff, Nat.reduceAdd, Nat.reduceSub, Nat.reduceLT, Nat.reduceLeDiff, Nat.reduceBEq, Nat.reduceMul, Nat.reduceBNe, Int.reduceEq, Int.reduceLT, Int.reduceLE, Int.reduceNe, Int.reduceToNat, ir_tick_Of]
  unfold tickOf
  by_cases c1 : n < 0
  · simp [c1]
  · by_cases c3 : (0 : Int) < n
    · by_cases c2 : n > 1099511627776
      · simp [c1, c2, c3]
      · simp [c1, c2, c3]
    · have : n = 0 := by omega
      subst this
      simp
theorem fn_ref01Of (hE : Std E fns) (n : Int) : callP E f_usufructref01_Of [vi n] = some (vi (tickOf n)) := by
  rw [hE.run rfl rfl]
  simp -implicitDefEqProofs only [go_sem, reduceIte, reduceCtorEq, Nat.reduceEqDiff, Nat.reduceAdd, Nat.reduceSub, Nat.reduceLT, Nat.reduceLeDiff, Nat.reduceBEq, Nat.reduceMul, Nat.reduceBNe, Int.reduceEq, Int.reduceLT, Int.reduceLE, Int.reduceNe, Int.reduceToNat, ir_usufructref01_Of, tickOf]
  split <;> (try split) <;> simp_all
theorem wrap_ticks (a b : Int) : IntKind.i64.wrap (tickOf a + tickOf b) = tickOf a + tickOf b := by
  have h1 := tickOf_in a
  have h2 := tickOf_in b
  exact IntWalk.i64_in _ (by omega)
theorem fn_tickAdd (hE : Std E fns) (a b : Int) : callP E f_tick_Add [vi a, vi b] = some (vi (tickAdd a b)) := by
  rw [hE.run rfl rfl]
  simp -implicitDefEqProofs only [go_sem, reduceIte, reduceCtorEq, Nat.reduceEqDiff, Nat.reduceAdd, Nat.reduceSub, Nat.reduceLT, Nat.reduceLeDiff, Nat.reduceBEq, Nat.reduceMul, Nat.reduceBNe, Int.reduceEq, Int.reduceLT, Int.reduceLE, Int.reduceNe, Int.reduceToNat, ir_tick_Add, fn_tickOf hE, wrap_ticks, tickAdd]
theorem fn_ref01Add (hE : Std E fns) (a b : Int) : callP E f_usufructref01_Add [vi a, vi b] = some (vi (tickAdd a b)) := by
  rw [hE.run rfl rfl]
  simp -implicitDefEqProofs only [go_sem, reduceIte, reduceCtorEq, Nat.reduceEqDiff, Nat.reduceAdd, Nat.reduceSub, Nat.reduceLT, Nat.reduceLeDiff, Nat.reduceBEq, Nat.reduceMul, Nat.reduceBNe, Int.reduceEq, Int.reduceLT, Int.reduceLE, Int.reduceNe, Int.reduceToNat, ir_usufructref01_Add, fn_ref01Of hE, wrap_ticks, tickAdd]
def tickGood (n : Int) : Bool := decide (0 ≤ n) && decide (n ≤ 1099511627776)
theorem fn_tickGood (hE : Std E fns) (n : Int) : callP E f_tick_Good [vi n] = some (vb (tickGood n)) := by
  rw [hE.run rfl rfl]
  simp -implicitDefEqProofs only [go_sem, reduceIte, reduceCtorEq, Nat.reduceEqDiff, Nat.reduceAdd, Nat.reduceSub, Nat.reduceLT, Nat.reduceLeDiff, Nat.reduceBEq, Nat.reduceMul, Nat.reduceBNe, Int.reduceEq, Int.reduceLT, Int.reduceLE, Int.reduceNe, Int.reduceToNat, ir_tick_Good, tickGood]
  by_cases c1 : 0 ≤ n <;> simp [c1]
end
end Go.Proofs.YtklggglkdfnpkaaDoor.Ev
