/-
  A world: the switch of WorldOnce, to its call.
-/
import Derived.Test.YtbpndomfipdhdaaDoorEvWo9
set_option linter.unusedVariables false
set_option linter.unusedSimpArgs false
namespace Go.Proofs.YtbpndomfipdhdaaDoor.Ev
attribute [local congr] bind_congr_head
attribute [local go_sem] opd_t opd_c opd_g opd_f opds_nil opds_cons get_cons put_some put_none keep_nil keepC_s keepC_n keep_cons runs_nil runs_cons run_op run_opr run_call run_gand run_gor run_gif seqK_norm seqK_exit seqK_ret blkK_norm blkK_exit blkK_ret runL_skip runL_exit runL_ret runL_items runL_seq runL_cond runL_block runL_loop fin_bind finK_norm finK_ret rvs_nil rvs_cons rv_tmp rv_cell tupOf_one tupOf_nil tupOf_two ev_mov ev_pick ev_alloc ev_box ev_build parts_nil parts_cons fills_nil fills_cons ev_bsl ev_bslo ev_load ev_store ev_nilck ev_bin ev_binb ev_aeq ev_un ev_i2i ev_i2t ev_isnilI nilIF ev_s2b ev_ext ev_fld ev_idxs ev_fa ev_ias ev_len ev_lens ev_s2s ev_mkf ev_rng ev_nxt ev_app bOf_s pvOf_s agOf_s tpOf_s iOf_s sOf_s ite_bind Option.bind_some Option.bind_none if_true if_false ite_true ite_false argEnv_nil argEnv_cons len_av elems_av ias_av cells_av tuple_av AV.tuple AV.cells faF ldAt liveRef aggOf nilckF binV binI binS binB unV Bool.not_true Bool.not_false List.length_nil List.length_cons List.nil_append List.cons_append List.append_nil List.getElem?_cons_zero List.getElem?_cons_succ List.drop_zero List.drop_succ_cons List.drop_nil List.take_zero List.take_succ_cons List.take_nil List.set_cons_zero List.set_cons_succ closedB nodupB envIds ids0 upto visit pos sel AV.ids idss idsss Ob.ids AV.ren rens renss Ob.ren renEnv AV.snap snaps stAt okSt putCells List.all_nil List.all_cons List.contains_nil List.contains_cons Bool.and_true Bool.true_and Bool.and_false Bool.false_and Bool.or_true Bool.true_or Bool.or_false Bool.false_or decide_eq_true_eq decide_true decide_false beq_iff_eq bne_iff_ne beq_self_eq_true Bool.not_eq_true' Bool.false_eq_true eq_self and_self and_true true_and and_false false_and or_true true_or or_false false_or not_true_eq_false not_false_eq_true ne_eq Nat.zero_add Nat.add_zero Nat.le_refl Nat.not_lt_zero Nat.lt_irrefl Nat.zero_le Int.toNat_natCast gt_iff_lt ge_iff_le Int.lt_irrefl Int.natCast_nonneg txt_eq get_nil appF elems belows AV.under AV.flat flats List.length_map List.map_append List.map_cons List.map_nil List.length_append take_map_all List.flatten_cons List.flatten_nil bld_nil imp_false false_imp_iff false_implies true_implies implies_true decide_eq_false_iff_not Nat.one_mul Nat.mul_one idsss_app renss_app belowss_app ev_mn ev_mx ev_isnils ev_sls ev_slx evo_none evo_some vals minV maxV minF maxF backId List.getElem?_nil putAll Option.all_none Option.all_some Option.isSome_some intOf aszI compactV_same compactV_new callP_any callQ_eq boxQ AV.id? ids_avR ren_av under_av snap_av renss_mapf belowss_mapf idsss_mapf isnilsF List.length_eq_zero_iff int_beq int_bne decide_not slx_av Int.toNat_zero ev_mkm ev_lk ev_mup ev_mdl ev_lenm ev_isnilm mpOf_s mapAt_s mapOf_nil mapOf_mp isnilm_nil isnilm_mp lkR Option.getD_some Option.getD_none Option.isSome_none Prim.rdo ev_snp snp_own snp_v exQ_nil exQ_cons exA_ref same_nil same_box same_row same_map sameL_nil sameL_cons sameA_int sameA_bool sameA_str sameA_slice sameA_map sameA_ptr sameA_own sameA_ref sameA_mp callB_eq
variable {E : Prog}
/-- Compaction, of the environment that is kept. -/
def cmpK (n0 : Nat) (e1 : Env) (st : Store) : Env × Store :=
  if n0 < st.length then (if (closedB st (upto n0 0 ++ visit st n0 1000 (ids0 n0 st ++ envIds e1) []) (upto n0 0 ++ visit st n0 1000 (ids0 n0 st ++ envIds e1) []) && nodupB (upto n0 0 ++ visit st n0 1000 (ids0 n0 st ++ envIds e1) []) && (envIds e1).all (fun j => (upto n0 0 ++ visit st n0 1000 (ids0 n0 st ++ envIds e1) []).contains j)) = true then (renEnv (pos (upto n0 0 ++ visit st n0 1000 (ids0 n0 st ++ envIds e1) [])) e1, sel st (pos (upto n0 0 ++ visit st n0 1000 (ids0 n0 st ++ envIds e1) [])) (upto n0 0 ++ visit st n0 1000 (ids0 n0 st ++ envIds e1) [])) else (e1, st)) else (e1, st)
theorem compact_gen (n0 : Nat) (live : List Nat) (e : Env) (st : Store) : compact [] n0 live e st = cmpK n0 (e.keep live) st := by
  unfold compact cmpK
  simp only [List.isEmpty_nil, true_and]
abbrev onceE (x : Sl ActT) (i : Nat) (was : AV) : Env := [(0, acv x), (3, .ref 0 0 0 0), (4, vi i), (5, was)]
abbrev once27 (x : Sl ActT) (i : Nat) (a : ActT) (was kv : AV) : Env := [(28, vi a.k), (27, .rop [vi a.k, vi a.n, cmv a.l, vb a.good, vb a.more]), (26, .rop [vi a.k, vi a.n, cmv a.l, vb a.good, vb a.more]), (25, vi i), (24, acv x), (5, was), (23, kv), (22, .ref 0 0 0 0), (19, vb true), (18, vi x.list.length), (17, acv x), (16, vi i), (0, acv x), (3, .ref 0 0 0 0), (4, vi i)]
set_option maxHeartbeats 2000000 in
theorem once_call (x : Sl ActT) (i : Nat) (a : ActT) (h1 : x.list[i]? = some a) (hk : 0 ≤ a.k ∧ a.k ≤ 7) (was kv : AV) (st : Store) :
    IR.runL E.glob (callL E) [] ir_usufructlaw21_WorldOnce_B2 (once27 x i a was kv) st = (callM (callL E) .N (.fn (callA a).1 []) (.ref 0 0 0 0 :: (callA a).2) [] st).bind fun q => some (.norm, cmpK st.length (onceE x i was) q.2) := by
  have hc : a.k = 0 ∨ a.k = 1 ∨ a.k = 2 ∨ a.k = 3 ∨ a.k = 4 ∨ a.k = 5 ∨ a.k = 6 ∨ a.k = 7 := by omega
  unfold callA
  rcases hc with h | h | h | h | h | h | h | h
  · simp only [once27, h, or_self, or_true, true_or, or_false, false_or, show (((0 : Int) = 0) = True) from by simp, show (((0 : Int) = 1) = False) from by simp, show (((0 : Int) = 2) = False) from by simp, show (((0 : Int) = 3) = False) from by simp, show (((0 : Int) = 4) = False) from by simp, show (((0 : Int) = 5) = False) from by simp, show (((0 : Int) = 6) = False) from by simp, show (((0 : Int) = 7) = False) from by simp, if_true, if_false]
    simp -implicitDefEqProofs only [go_sem, reduceIte, reduceCtorEq, Nat.reduceEqDiff, Nat.reduceAdd, Nat.reduceSub, Nat.reduceLT, Nat.reduceLeDiff, Nat.reduceBEq, Nat.reduceMul, Nat.reduceBNe, Int.reduceEq, Int.reduceLT, Int.reduceLE, Int.reduceNe, Int.reduceToNat, ir_usufructlaw21_WorldOnce_B2, h1, ActT.cells, ro_act, ro_cmd, compact_gen, show (((0 : Int) = 0) = True) from by simp, show (((0 : Int) = 1) = False) from by simp, show (((0 : Int) = 2) = False) from by simp, show (((0 : Int) = 3) = False) from by simp, show (((0 : Int) = 4) = False) from by simp, show (((0 : Int) = 5) = False) from by simp, show (((0 : Int) = 6) = False) from by simp, show (((0 : Int) = 7) = False) from by simp]
    generalize callM (callL E) _ _ _ _ _ = cm
    cases cm with
    | none => rfl
    | some q => exact congrArg (fun z => some (Sig.norm, z)) (compact_gen _ _ _ _)
  · simp only [once27, h, or_self, or_true, true_or, or_false, false_or, show (((1 : Int) = 0) = False) from by simp, show (((1 : Int) = 1) = True) from by simp, show (((1 : Int) = 2) = False) from by simp, show (((1 : Int) = 3) = False) from by simp, show (((1 : Int) = 4) = False) from by simp, show (((1 : Int) = 5) = False) from by simp, show (((1 : Int) = 6) = False) from by simp, show (((1 : Int) = 7) = False) from by simp, if_true, if_false]
    simp -implicitDefEqProofs only [go_sem, reduceIte, reduceCtorEq, Nat.reduceEqDiff, Nat.reduceAdd, Nat.reduceSub, Nat.reduceLT, Nat.reduceLeDiff, Nat.reduceBEq, Nat.reduceMul, Nat.reduceBNe, Int.reduceEq, Int.reduceLT, Int.reduceLE, Int.reduceNe, Int.reduceToNat, ir_usufructlaw21_WorldOnce_B2, h1, ActT.cells, ro_act, ro_cmd, compact_gen, show (((1 : Int) = 0) = False) from by simp, show (((1 : Int) = 1) = True) from by simp, show (((1 : Int) = 2) = False) from by simp, show (((1 : Int) = 3) = False) from by simp, show (((1 : Int) = 4) = False) from by simp, show (((1 : Int) = 5) = False) from by simp, show (((1 : Int) = 6) = False) from by simp, show (((1 : Int) = 7) = False) from by simp]
    generalize callM (callL E) _ _ _ _ _ = cm
    cases cm with
    | none => rfl
    | some q => exact congrArg (fun z => some (Sig.norm, z)) (compact_gen _ _ _ _)
  · simp only [once27, h, or_self, or_true, true_or, or_false, false_or, show (((2 : Int) = 0) = False) from by simp, show (((2 : Int) = 1) = False) from by simp, show (((2 : Int) = 2) = True) from by simp, show (((2 : Int) = 3) = False) from by simp, show (((2 : Int) = 4) = False) from by simp, show (((2 : Int) = 5) = False) from by simp, show (((2 : Int) = 6) = False) from by simp, show (((2 : Int) = 7) = False) from by simp, if_true, if_false]
    simp -implicitDefEqProofs only [go_sem, reduceIte, reduceCtorEq, Nat.reduceEqDiff, Nat.reduceAdd, Nat.reduceSub, Nat.reduceLT, Nat.reduceLeDiff, Nat.reduceBEq, Nat.reduceMul, Nat.reduceBNe, Int.reduceEq, Int.reduceLT, Int.reduceLE, Int.reduceNe, Int.reduceToNat, ir_usufructlaw21_WorldOnce_B2, h1, ActT.cells, ro_act, ro_cmd, compact_gen, show (((2 : Int) = 0) = False) from by simp, show (((2 : Int) = 1) = False) from by simp, show (((2 : Int) = 2) = True) from by simp, show (((2 : Int) = 3) = False) from by simp, show (((2 : Int) = 4) = False) from by simp, show (((2 : Int) = 5) = False) from by simp, show (((2 : Int) = 6) = False) from by simp, show (((2 : Int) = 7) = False) from by simp]
    generalize callM (callL E) _ _ _ _ _ = cm
    cases cm with
    | none => rfl
    | some q => exact congrArg (fun z => some (Sig.norm, z)) (compact_gen _ _ _ _)
  · simp only [once27, h, or_self, or_true, true_or, or_false, false_or, show (((3 : Int) = 0) = False) from by simp, show (((3 : Int) = 1) = False) from by simp, show (((3 : Int) = 2) = False) from by simp, show (((3 : Int) = 3) = True) from by simp, show (((3 : Int) = 4) = False) from by simp, show (((3 : Int) = 5) = False) from by simp, show (((3 : Int) = 6) = False) from by simp, show (((3 : Int) = 7) = False) from by simp, if_true, if_false]
    simp -implicitDefEqProofs only [go_sem, reduceIte, reduceCtorEq, Nat.reduceEqDiff, Nat.reduceAdd, Nat.reduceSub, Nat.reduceLT, Nat.reduceLeDiff, Nat.reduceBEq, Nat.reduceMul, Nat.reduceBNe, Int.reduceEq, Int.reduceLT, Int.reduceLE, Int.reduceNe, Int.reduceToNat, ir_usufructlaw21_WorldOnce_B2, h1, ActT.cells, ro_act, ro_cmd, compact_gen, show (((3 : Int) = 0) = False) from by simp, show (((3 : Int) = 1) = False) from by simp, show (((3 : Int) = 2) = False) from by simp, show (((3 : Int) = 3) = True) from by simp, show (((3 : Int) = 4) = False) from by simp, show (((3 : Int) = 5) = False) from by simp, show (((3 : Int) = 6) = False) from by simp, show (((3 : Int) = 7) = False) from by simp]
    generalize callM (callL E) _ _ _ _ _ = cm
    cases cm with
    | none => rfl
    | some q => exact congrArg (fun z => some (Sig.norm, z)) (compact_gen _ _ _ _)
  · simp only [once27, h, or_self, or_true, true_or, or_false, false_or, show (((4 : Int) = 0) = False) from by simp, show (((4 : Int) = 1) = False) from by simp, show (((4 : Int) = 2) = False) from by simp, show (((4 : Int) = 3) = False) from by simp, show (((4 : Int) = 4) = True) from by simp, show (((4 : Int) = 5) = False) from by simp, show (((4 : Int) = 6) = False) from by simp, show (((4 : Int) = 7) = False) from by simp, if_true, if_false]
    simp -implicitDefEqProofs only [go_sem, reduceIte, reduceCtorEq, Nat.reduceEqDiff, Nat.reduceAdd, Nat.reduceSub, Nat.reduceLT, Nat.reduceLeDiff, Nat.reduceBEq, Nat.reduceMul, Nat.reduceBNe, Int.reduceEq, Int.reduceLT, Int.reduceLE, Int.reduceNe, Int.reduceToNat, ir_usufructlaw21_WorldOnce_B2, h1, ActT.cells, ro_act, ro_cmd, compact_gen, show (((4 : Int) = 0) = False) from by simp, show (((4 : Int) = 1) = False) from by simp, show (((4 : Int) = 2) = False) from by simp, show (((4 : Int) = 3) = False) from by simp, show (((4 : Int) = 4) = True) from by simp, show (((4 : Int) = 5) = False) from by simp, show (((4 : Int) = 6) = False) from by simp, show (((4 : Int) = 7) = False) from by simp]
    generalize callM (callL E) _ _ _ _ _ = cm
    cases cm with
    | none => rfl
    | some q => exact congrArg (fun z => some (Sig.norm, z)) (compact_gen _ _ _ _)
  · simp only [once27, h, or_self, or_true, true_or, or_false, false_or, show (((5 : Int) = 0) = False) from by simp, show (((5 : Int) = 1) = False) from by simp, show (((5 : Int) = 2) = False) from by simp, show (((5 : Int) = 3) = False) from by simp, show (((5 : Int) = 4) = False) from by simp, show (((5 : Int) = 5) = True) from by simp, show (((5 : Int) = 6) = False) from by simp, show (((5 : Int) = 7) = False) from by simp, if_true, if_false]
    simp -implicitDefEqProofs only [go_sem, reduceIte, reduceCtorEq, Nat.reduceEqDiff, Nat.reduceAdd, Nat.reduceSub, Nat.reduceLT, Nat.reduceLeDiff, Nat.reduceBEq, Nat.reduceMul, Nat.reduceBNe, Int.reduceEq, Int.reduceLT, Int.reduceLE, Int.reduceNe, Int.reduceToNat, ir_usufructlaw21_WorldOnce_B2, h1, ActT.cells, ro_act, ro_cmd, compact_gen, show (((5 : Int) = 0) = False) from by simp, show (((5 : Int) = 1) = False) from by simp, show (((5 : Int) = 2) = False) from by simp, show (((5 : Int) = 3) = False) from by simp, show (((5 : Int) = 4) = False) from by simp, show (((5 : Int) = 5) = True) from by simp, show (((5 : Int) = 6) = False) from by simp, show (((5 : Int) = 7) = False) from by simp]
    generalize callM (callL E) _ _ _ _ _ = cm
    cases cm with
    | none => rfl
    | some q => exact congrArg (fun z => some (Sig.norm, z)) (compact_gen _ _ _ _)
  · simp only [once27, h, or_self, or_true, true_or, or_false, false_or, show (((6 : Int) = 0) = False) from by simp, show (((6 : Int) = 1) = False) from by simp, show (((6 : Int) = 2) = False) from by simp, show (((6 : Int) = 3) = False) from by simp, show (((6 : Int) = 4) = False) from by simp, show (((6 : Int) = 5) = False) from by simp, show (((6 : Int) = 6) = True) from by simp, show (((6 : Int) = 7) = False) from by simp, if_true, if_false]
    simp -implicitDefEqProofs only [go_sem, reduceIte, reduceCtorEq, Nat.reduceEqDiff, Nat.reduceAdd, Nat.reduceSub, Nat.reduceLT, Nat.reduceLeDiff, Nat.reduceBEq, Nat.reduceMul, Nat.reduceBNe, Int.reduceEq, Int.reduceLT, Int.reduceLE, Int.reduceNe, Int.reduceToNat, ir_usufructlaw21_WorldOnce_B2, h1, ActT.cells, ro_act, ro_cmd, compact_gen, show (((6 : Int) = 0) = False) from by simp, show (((6 : Int) = 1) = False) from by simp, show (((6 : Int) = 2) = False) from by simp, show (((6 : Int) = 3) = False) from by simp, show (((6 : Int) = 4) = False) from by simp, show (((6 : Int) = 5) = False) from by simp, show (((6 : Int) = 6) = True) from by simp, show (((6 : Int) = 7) = False) from by simp]
    generalize callM (callL E) _ _ _ _ _ = cm
    cases cm with
    | none => rfl
    | some q => exact congrArg (fun z => some (Sig.norm, z)) (compact_gen _ _ _ _)
  · simp only [once27, h, or_self, or_true, true_or, or_false, false_or, show (((7 : Int) = 0) = False) from by simp, show (((7 : Int) = 1) = False) from by simp, show (((7 : Int) = 2) = False) from by simp, show (((7 : Int) = 3) = False) from by simp, show (((7 : Int) = 4) = False) from by simp, show (((7 : Int) = 5) = False) from by simp, show (((7 : Int) = 6) = False) from by simp, show (((7 : Int) = 7) = True) from by simp, if_true, if_false]
    simp -implicitDefEqProofs only [go_sem, reduceIte, reduceCtorEq, Nat.reduceEqDiff, Nat.reduceAdd, Nat.reduceSub, Nat.reduceLT, Nat.reduceLeDiff, Nat.reduceBEq, Nat.reduceMul, Nat.reduceBNe, Int.reduceEq, Int.reduceLT, Int.reduceLE, Int.reduceNe, Int.reduceToNat, ir_usufructlaw21_WorldOnce_B2, h1, ActT.cells, ro_act, ro_cmd, compact_gen, show (((7 : Int) = 0) = False) from by simp, show (((7 : Int) = 1) = False) from by simp, show (((7 : Int) = 2) = False) from by simp, show (((7 : Int) = 3) = False) from by simp, show (((7 : Int) = 4) = False) from by simp, show (((7 : Int) = 5) = False) from by simp, show (((7 : Int) = 6) = False) from by simp, show (((7 : Int) = 7) = True) from by simp]
    generalize callM (callL E) _ _ _ _ _ = cm
    cases cm with
    | none => rfl
    | some q => exact congrArg (fun z => some (Sig.norm, z)) (compact_gen _ _ _ _)
set_option maxHeartbeats 1000000 in
theorem once_other (x : Sl ActT) (i : Nat) (a : ActT) (h1 : x.list[i]? = some a) (hk : a.k < 0 ∨ 7 < a.k) (was kv : AV) (st : Store) :
    IR.runL E.glob (callL E) [] ir_usufructlaw21_WorldOnce_B2 (once27 x i a was kv) st = some (.norm, onceE x i was, st) := by
  have n0 : ¬ a.k = 0 := by omega
  have n1 : ¬ a.k = 1 := by omega
  have n2 : ¬ a.k = 2 := by omega
  have n3 : ¬ a.k = 3 := by omega
  have n4 : ¬ a.k = 4 := by omega
  have n5 : ¬ a.k = 5 := by omega
  have n6 : ¬ a.k = 6 := by omega
  have n7 : ¬ a.k = 7 := by omega
  simp only [once27]
  simp -implicitDefEqProofs only [go_sem, reduceIte, reduceCtorEq, Nat.reduceEqDiff, Nat.reduceAdd, Nat.reduceSub, Nat.reduceLT, Nat.reduceLeDiff, Nat.reduceBEq, Nat.reduceMul, Nat.reduceBNe, Int.reduceEq, Int.reduceLT, Int.reduceLE, Int.reduceNe, Int.reduceToNat, ir_usufructlaw21_WorldOnce_B2, h1, ActT.cells, ro_act, ro_cmd, compact_gen, n0, n1, n2, n3, n4, n5, n6, n7]
  unfold cmpK
  rw [if_neg (Nat.lt_irrefl _)]
end Go.Proofs.YtbpndomfipdhdaaDoor.Ev
