/-
  A world: what an act comes to.
-/
import Derived.Test.YtbpndomfipdhdaaDoorEvWo5
set_option linter.unusedVariables false
set_option linter.unusedSimpArgs false
namespace Go.Proofs.YtbpndomfipdhdaaDoor.Ev
attribute [local congr] bind_congr_head
attribute [local go_sem] opd_t opd_c opd_g opd_f opds_nil opds_cons get_cons put_some put_none keep_nil keepC_s keepC_n keep_cons runs_nil runs_cons run_op run_opr run_call run_gand run_gor run_gif seqK_norm seqK_exit seqK_ret blkK_norm blkK_exit blkK_ret runL_skip runL_exit runL_ret runL_items runL_seq runL_cond runL_block runL_loop fin_bind finK_norm finK_ret rvs_nil rvs_cons rv_tmp rv_cell tupOf_one tupOf_nil tupOf_two ev_mov ev_pick ev_alloc ev_box ev_build parts_nil parts_cons fills_nil fills_cons ev_bsl ev_bslo ev_load ev_store ev_nilck ev_bin ev_binb ev_aeq ev_un ev_i2i ev_i2t ev_isnilI nilIF ev_s2b ev_ext ev_fld ev_idxs ev_fa ev_ias ev_len ev_lens ev_s2s ev_mkf ev_rng ev_nxt ev_app bOf_s pvOf_s agOf_s tpOf_s iOf_s sOf_s ite_bind Option.bind_some Option.bind_none if_true if_false ite_true ite_false argEnv_nil argEnv_cons len_av elems_av ias_av cells_av tuple_av AV.tuple AV.cells faF ldAt liveRef aggOf nilckF binV binI binS binB unV Bool.not_true Bool.not_false List.length_nil List.length_cons List.nil_append List.cons_append List.append_nil List.getElem?_cons_zero List.getElem?_cons_succ List.drop_zero List.drop_succ_cons List.drop_nil List.take_zero List.take_succ_cons List.take_nil List.set_cons_zero List.set_cons_succ compact_same compact_new closedB nodupB envIds ids0 upto visit pos sel AV.ids idss idsss Ob.ids AV.ren rens renss Ob.ren renEnv AV.snap snaps stAt okSt putCells List.all_nil List.all_cons List.contains_nil List.contains_cons Bool.and_true Bool.true_and Bool.and_false Bool.false_and Bool.or_true Bool.true_or Bool.or_false Bool.false_or decide_eq_true_eq decide_true decide_false beq_iff_eq bne_iff_ne beq_self_eq_true Bool.not_eq_true' Bool.false_eq_true eq_self and_self and_true true_and and_false false_and or_true true_or or_false false_or not_true_eq_false not_false_eq_true ne_eq Nat.zero_add Nat.add_zero Nat.le_refl Nat.not_lt_zero Nat.lt_irrefl Nat.zero_le Int.toNat_natCast gt_iff_lt ge_iff_le Int.lt_irrefl Int.natCast_nonneg txt_eq get_nil appF elems belows AV.under AV.flat flats List.length_map List.map_append List.map_cons List.map_nil List.length_append take_map_all List.flatten_cons List.flatten_nil bld_nil imp_false false_imp_iff false_implies true_implies implies_true decide_eq_false_iff_not Nat.one_mul Nat.mul_one idsss_app renss_app belowss_app ev_mn ev_mx ev_isnils ev_sls ev_slx evo_none evo_some vals minV maxV minF maxF backId List.getElem?_nil putAll Option.all_none Option.all_some Option.isSome_some intOf aszI compactV_same compactV_new callP_any callQ_eq callN_any boxQ AV.id? ids_avR ren_av under_av snap_av renss_mapf belowss_mapf idsss_mapf isnilsF List.length_eq_zero_iff int_beq int_bne decide_not slx_av Int.toNat_zero ev_mkm ev_lk ev_mup ev_mdl ev_lenm ev_isnilm mpOf_s mapAt_s mapOf_nil mapOf_mp isnilm_nil isnilm_mp lkR Option.getD_some Option.getD_none Option.isSome_none Prim.rdo ev_snp snp_own snp_v exQ_nil exQ_cons exA_ref same_nil same_box same_row same_map sameL_nil sameL_cons sameA_int sameA_bool sameA_str sameA_slice sameA_map sameA_ptr sameA_own sameA_ref sameA_mp callB_eq
variable {E : Prog}
theorem fn_loseCNo (hE : Std E fns) (w : Wd) (i : Int) (hm : ∀ gc gk c k, w ≠ .wm gc gk c k) (hx : atI w.c i = none) : callL E f_world_way_api_Command_lose [.ref 0 0 0 0, vi i] [] w.sto = some (vi 7, w.sto) := by
  have hat := fn_atC hE w i
  unfold atI at hx
  rw [hx] at hat
  rw [hE.runN rfl rfl]
  cases w <;> simp only [sto0, sto1, sto2, sto3, stom, rowC, rowR, rowK, Wd.addC, Wd.delC, Wd.addR, Wd.delR, Wd.mark, Wd.k, nmC, CmdT.cells, RepT.cells, ansOf, hasK_nil, List.length_cons, List.length_nil, List.length_append, List.map_cons, List.map_nil, List.map_append, Nat.zero_add] at hat ⊢
  · simp -implicitDefEqProofs only [go_sem, reduceIte, reduceCtorEq, Nat.reduceEqDiff, Nat.reduceAdd, Nat.reduceSub, Nat.reduceLT, Nat.reduceLeDiff, Nat.reduceBEq, Nat.reduceMul, Nat.reduceBNe, Int.reduceEq, Int.reduceLT, Int.reduceLE, Int.reduceNe, Int.reduceToNat, ir_world_way_api_Command_lose, CmdT.cells, RepT.cells, nmC, kmap_ids, kmap_ren, ro_cmd, ro_rep, ro_nm, lenA_nil, lenA_own, Int.natCast_zero, hat]
  · simp -implicitDefEqProofs only [go_sem, reduceIte, reduceCtorEq, Nat.reduceEqDiff, Nat.reduceAdd, Nat.reduceSub, Nat.reduceLT, Nat.reduceLeDiff, Nat.reduceBEq, Nat.reduceMul, Nat.reduceBNe, Int.reduceEq, Int.reduceLT, Int.reduceLE, Int.reduceNe, Int.reduceToNat, ir_world_way_api_Command_lose, CmdT.cells, RepT.cells, nmC, kmap_ids, kmap_ren, ro_cmd, ro_rep, ro_nm, lenA_nil, lenA_own, Int.natCast_zero, hat]
  · simp -implicitDefEqProofs only [go_sem, reduceIte, reduceCtorEq, Nat.reduceEqDiff, Nat.reduceAdd, Nat.reduceSub, Nat.reduceLT, Nat.reduceLeDiff, Nat.reduceBEq, Nat.reduceMul, Nat.reduceBNe, Int.reduceEq, Int.reduceLT, Int.reduceLE, Int.reduceNe, Int.reduceToNat, ir_world_way_api_Command_lose, CmdT.cells, RepT.cells, nmC, kmap_ids, kmap_ren, ro_cmd, ro_rep, ro_nm, lenA_nil, lenA_own, Int.natCast_zero, hat]
  · simp -implicitDefEqProofs only [go_sem, reduceIte, reduceCtorEq, Nat.reduceEqDiff, Nat.reduceAdd, Nat.reduceSub, Nat.reduceLT, Nat.reduceLeDiff, Nat.reduceBEq, Nat.reduceMul, Nat.reduceBNe, Int.reduceEq, Int.reduceLT, Int.reduceLE, Int.reduceNe, Int.reduceToNat, ir_world_way_api_Command_lose, CmdT.cells, RepT.cells, nmC, kmap_ids, kmap_ren, ro_cmd, ro_rep, ro_nm, lenA_nil, lenA_own, Int.natCast_zero, hat]
  · exact absurd rfl (hm _ _ _ _)
theorem fn_LoseNo (hE : Std E fns) (w : Wd) (i : Int) (hm : ∀ gc gk c k, w ≠ .wm gc gk c k) (hx : atI w.c i = none) : callL E f_world_World_Lose [.ref 0 0 0 0, vi i] [] w.sto = some (vi 7, w.sto) := by
  have hat := fn_loseCNo hE w i hm hx
  rw [hE.runN rfl rfl]
  cases w <;> simp only [sto0, sto1, sto2, sto3, stom, rowC, rowR, rowK, Wd.addC, Wd.delC, Wd.addR, Wd.delR, Wd.mark, Wd.k, nmC, CmdT.cells, RepT.cells, ansOf, hasK_nil, List.length_cons, List.length_nil, List.length_append, List.map_cons, List.map_nil, List.map_append, Nat.zero_add] at hat ⊢
  · simp -implicitDefEqProofs only [go_sem, reduceIte, reduceCtorEq, Nat.reduceEqDiff, Nat.reduceAdd, Nat.reduceSub, Nat.reduceLT, Nat.reduceLeDiff, Nat.reduceBEq, Nat.reduceMul, Nat.reduceBNe, Int.reduceEq, Int.reduceLT, Int.reduceLE, Int.reduceNe, Int.reduceToNat, ir_world_World_Lose, CmdT.cells, RepT.cells, nmC, kmap_ids, kmap_ren, ro_cmd, ro_rep, ro_nm, lenA_nil, lenA_own, Int.natCast_zero, hat]
  · simp -implicitDefEqProofs only [go_sem, reduceIte, reduceCtorEq, Nat.reduceEqDiff, Nat.reduceAdd, Nat.reduceSub, Nat.reduceLT, Nat.reduceLeDiff, Nat.reduceBEq, Nat.reduceMul, Nat.reduceBNe, Int.reduceEq, Int.reduceLT, Int.reduceLE, Int.reduceNe, Int.reduceToNat, ir_world_World_Lose, CmdT.cells, RepT.cells, nmC, kmap_ids, kmap_ren, ro_cmd, ro_rep, ro_nm, lenA_nil, lenA_own, Int.natCast_zero, hat]
  · simp -implicitDefEqProofs only [go_sem, reduceIte, reduceCtorEq, Nat.reduceEqDiff, Nat.reduceAdd, Nat.reduceSub, Nat.reduceLT, Nat.reduceLeDiff, Nat.reduceBEq, Nat.reduceMul, Nat.reduceBNe, Int.reduceEq, Int.reduceLT, Int.reduceLE, Int.reduceNe, Int.reduceToNat, ir_world_World_Lose, CmdT.cells, RepT.cells, nmC, kmap_ids, kmap_ren, ro_cmd, ro_rep, ro_nm, lenA_nil, lenA_own, Int.natCast_zero, hat]
  · simp -implicitDefEqProofs only [go_sem, reduceIte, reduceCtorEq, Nat.reduceEqDiff, Nat.reduceAdd, Nat.reduceSub, Nat.reduceLT, Nat.reduceLeDiff, Nat.reduceBEq, Nat.reduceMul, Nat.reduceBNe, Int.reduceEq, Int.reduceLT, Int.reduceLE, Int.reduceNe, Int.reduceToNat, ir_world_World_Lose, CmdT.cells, RepT.cells, nmC, kmap_ids, kmap_ren, ro_cmd, ro_rep, ro_nm, lenA_nil, lenA_own, Int.natCast_zero, hat]
  · exact absurd rfl (hm _ _ _ _)
theorem fn_loseC (hE : Std E fns) (hd : DCK E) (w : Wd) (n : Nat) {x : CmdT} (hm : ∀ gc gk c k, w ≠ .wm gc gk c k) (hx : atI w.c n = some x) (hb : w.c.length ≤ 1000000 ∧ w.r.length ≤ 1000000) : callL E f_world_way_api_Command_lose [.ref 0 0 0 0, vi n] [] w.sto = some (vi 0, (w.delC n).sto) := by
  have hat := fn_atC hE w n
  have hx2 : (if (0 : Int) ≤ (n : Int) then w.c[(n : Int).toNat]? else none) = some x := hx
  rw [hx2] at hat
  obtain ⟨n', e1, e2, hn⟩ := atI_some hx
  obtain rfl : n = n' := by omega
  have hlv := fn_leaveC hE hd w n hn (by omega)
  rw [hE.runN rfl rfl]
  cases w <;> simp only [sto0, sto1, sto2, sto3, stom, rowC, rowR, rowK, Wd.addC, Wd.delC, Wd.addR, Wd.delR, Wd.mark, Wd.k, nmC, CmdT.cells, RepT.cells, ansOf, hasK_nil, List.length_cons, List.length_nil, List.length_append, List.map_cons, List.map_nil, List.map_append, Nat.zero_add] at hat hlv ⊢
  · exact absurd hn (by simp [Wd.c])
  · simp -implicitDefEqProofs only [go_sem, reduceIte, reduceCtorEq, Nat.reduceEqDiff, Nat.reduceAdd, Nat.reduceSub, Nat.reduceLT, Nat.reduceLeDiff, Nat.reduceBEq, Nat.reduceMul, Nat.reduceBNe, Int.reduceEq, Int.reduceLT, Int.reduceLE, Int.reduceNe, Int.reduceToNat, ir_world_way_api_Command_lose, CmdT.cells, RepT.cells, nmC, kmap_ids, kmap_ren, ro_cmd, ro_rep, ro_nm, lenA_nil, lenA_own, Int.natCast_zero, hat, hlv]
  · simp -implicitDefEqProofs only [go_sem, reduceIte, reduceCtorEq, Nat.reduceEqDiff, Nat.reduceAdd, Nat.reduceSub, Nat.reduceLT, Nat.reduceLeDiff, Nat.reduceBEq, Nat.reduceMul, Nat.reduceBNe, Int.reduceEq, Int.reduceLT, Int.reduceLE, Int.reduceNe, Int.reduceToNat, ir_world_way_api_Command_lose, CmdT.cells, RepT.cells, nmC, kmap_ids, kmap_ren, ro_cmd, ro_rep, ro_nm, lenA_nil, lenA_own, Int.natCast_zero, hat, hlv]
  · simp -implicitDefEqProofs only [go_sem, reduceIte, reduceCtorEq, Nat.reduceEqDiff, Nat.reduceAdd, Nat.reduceSub, Nat.reduceLT, Nat.reduceLeDiff, Nat.reduceBEq, Nat.reduceMul, Nat.reduceBNe, Int.reduceEq, Int.reduceLT, Int.reduceLE, Int.reduceNe, Int.reduceToNat, ir_world_way_api_Command_lose, CmdT.cells, RepT.cells, nmC, kmap_ids, kmap_ren, ro_cmd, ro_rep, ro_nm, lenA_nil, lenA_own, Int.natCast_zero, hat, hlv]
  · exact absurd rfl (hm _ _ _ _)
theorem fn_Lose (hE : Std E fns) (hd : DCK E) (w : Wd) (n : Nat) {x : CmdT} (hm : ∀ gc gk c k, w ≠ .wm gc gk c k) (hx : atI w.c n = some x) (hb : w.c.length ≤ 1000000 ∧ w.r.length ≤ 1000000) : callL E f_world_World_Lose [.ref 0 0 0 0, vi n] [] w.sto = some (vi 0, (w.delC n).sto) := by
  have hat := fn_loseC hE hd w n hm hx hb
  obtain ⟨n', e1, e2, hn⟩ := atI_some hx
  obtain rfl : n = n' := by omega
  rw [hE.runN rfl rfl]
  cases w <;> simp only [sto0, sto1, sto2, sto3, stom, rowC, rowR, rowK, Wd.addC, Wd.delC, Wd.addR, Wd.delR, Wd.mark, Wd.k, nmC, CmdT.cells, RepT.cells, ansOf, hasK_nil, List.length_cons, List.length_nil, List.length_append, List.map_cons, List.map_nil, List.map_append, Nat.zero_add] at hat ⊢
  · exact absurd hn (by simp [Wd.c])
  · simp -implicitDefEqProofs only [go_sem, reduceIte, reduceCtorEq, Nat.reduceEqDiff, Nat.reduceAdd, Nat.reduceSub, Nat.reduceLT, Nat.reduceLeDiff, Nat.reduceBEq, Nat.reduceMul, Nat.reduceBNe, Int.reduceEq, Int.reduceLT, Int.reduceLE, Int.reduceNe, Int.reduceToNat, ir_world_World_Lose, CmdT.cells, RepT.cells, nmC, kmap_ids, kmap_ren, ro_cmd, ro_rep, ro_nm, lenA_nil, lenA_own, Int.natCast_zero, hat]
  · simp -implicitDefEqProofs only [go_sem, reduceIte, reduceCtorEq, Nat.reduceEqDiff, Nat.reduceAdd, Nat.reduceSub, Nat.reduceLT, Nat.reduceLeDiff, Nat.reduceBEq, Nat.reduceMul, Nat.reduceBNe, Int.reduceEq, Int.reduceLT, Int.reduceLE, Int.reduceNe, Int.reduceToNat, ir_world_World_Lose, CmdT.cells, RepT.cells, nmC, kmap_ids, kmap_ren, ro_cmd, ro_rep, ro_nm, lenA_nil, lenA_own, Int.natCast_zero, hat]
  · simp -implicitDefEqProofs only [go_sem, reduceIte, reduceCtorEq, Nat.reduceEqDiff, Nat.reduceAdd, Nat.reduceSub, Nat.reduceLT, Nat.reduceLeDiff, Nat.reduceBEq, Nat.reduceMul, Nat.reduceBNe, Int.reduceEq, Int.reduceLT, Int.reduceLE, Int.reduceNe, Int.reduceToNat, ir_world_World_Lose, CmdT.cells, RepT.cells, nmC, kmap_ids, kmap_ren, ro_cmd, ro_rep, ro_nm, lenA_nil, lenA_own, Int.natCast_zero, hat]
  · exact absurd rfl (hm _ _ _ _)
theorem fn_loseRNo (hE : Std E fns) (w : Wd) (i : Int) (hm : ∀ gc gk c k, w ≠ .wm gc gk c k) (hx : atI w.r i = none) : callL E f_world_way_api_Reply_lose [.ref 0 0 0 1, vi i] [] w.sto = some (vi 7, w.sto) := by
  have hat := fn_atR hE w i
  unfold atI at hx
  rw [hx] at hat
  rw [hE.runN rfl rfl]
  cases w <;> simp only [sto0, sto1, sto2, sto3, stom, rowC, rowR, rowK, Wd.addC, Wd.delC, Wd.addR, Wd.delR, Wd.mark, Wd.k, nmC, CmdT.cells, RepT.cells, ansOf, hasK_nil, List.length_cons, List.length_nil, List.length_append, List.map_cons, List.map_nil, List.map_append, Nat.zero_add] at hat ⊢
  · simp -implicitDefEqProofs only [go_sem, reduceIte, reduceCtorEq, Nat.reduceEqDiff, Nat.reduceAdd, Nat.reduceSub, Nat.reduceLT, Nat.reduceLeDiff, Nat.reduceBEq, Nat.reduceMul, Nat.reduceBNe, Int.reduceEq, Int.reduceLT, Int.reduceLE, Int.reduceNe, Int.reduceToNat, ir_world_way_api_Reply_lose, CmdT.cells, RepT.cells, nmC, kmap_ids, kmap_ren, ro_cmd, ro_rep, ro_nm, lenA_nil, lenA_own, Int.natCast_zero, hat]
  · simp -implicitDefEqProofs only [go_sem, reduceIte, reduceCtorEq, Nat.reduceEqDiff, Nat.reduceAdd, Nat.reduceSub, Nat.reduceLT, Nat.reduceLeDiff, Nat.reduceBEq, Nat.reduceMul, Nat.reduceBNe, Int.reduceEq, Int.reduceLT, Int.reduceLE, Int.reduceNe, Int.reduceToNat, ir_world_way_api_Reply_lose, CmdT.cells, RepT.cells, nmC, kmap_ids, kmap_ren, ro_cmd, ro_rep, ro_nm, lenA_nil, lenA_own, Int.natCast_zero, hat]
  · simp -implicitDefEqProofs only [go_sem, reduceIte, reduceCtorEq, Nat.reduceEqDiff, Nat.reduceAdd, Nat.reduceSub, Nat.reduceLT, Nat.reduceLeDiff, Nat.reduceBEq, Nat.reduceMul, Nat.reduceBNe, Int.reduceEq, Int.reduceLT, Int.reduceLE, Int.reduceNe, Int.reduceToNat, ir_world_way_api_Reply_lose, CmdT.cells, RepT.cells, nmC, kmap_ids, kmap_ren, ro_cmd, ro_rep, ro_nm, lenA_nil, lenA_own, Int.natCast_zero, hat]
  · simp -implicitDefEqProofs only [go_sem, reduceIte, reduceCtorEq, Nat.reduceEqDiff, Nat.reduceAdd, Nat.reduceSub, Nat.reduceLT, Nat.reduceLeDiff, Nat.reduceBEq, Nat.reduceMul, Nat.reduceBNe, Int.reduceEq, Int.reduceLT, Int.reduceLE, Int.reduceNe, Int.reduceToNat, ir_world_way_api_Reply_lose, CmdT.cells, RepT.cells, nmC, kmap_ids, kmap_ren, ro_cmd, ro_rep, ro_nm, lenA_nil, lenA_own, Int.natCast_zero, hat]
  · exact absurd rfl (hm _ _ _ _)
theorem fn_LoseReplyNo (hE : Std E fns) (w : Wd) (i : Int) (hm : ∀ gc gk c k, w ≠ .wm gc gk c k) (hx : atI w.r i = none) : callL E f_world_World_LoseReply [.ref 0 0 0 0, vi i] [] w.sto = some (vi 7, w.sto) := by
  have hat := fn_loseRNo hE w i hm hx
  rw [hE.runN rfl rfl]
  cases w <;> simp only [sto0, sto1, sto2, sto3, stom, rowC, rowR, rowK, Wd.addC, Wd.delC, Wd.addR, Wd.delR, Wd.mark, Wd.k, nmC, CmdT.cells, RepT.cells, ansOf, hasK_nil, List.length_cons, List.length_nil, List.length_append, List.map_cons, List.map_nil, List.map_append, Nat.zero_add] at hat ⊢
  · simp -implicitDefEqProofs only [go_sem, reduceIte, reduceCtorEq, Nat.reduceEqDiff, Nat.reduceAdd, Nat.reduceSub, Nat.reduceLT, Nat.reduceLeDiff, Nat.reduceBEq, Nat.reduceMul, Nat.reduceBNe, Int.reduceEq, Int.reduceLT, Int.reduceLE, Int.reduceNe, Int.reduceToNat, ir_world_World_LoseReply, CmdT.cells, RepT.cells, nmC, kmap_ids, kmap_ren, ro_cmd, ro_rep, ro_nm, lenA_nil, lenA_own, Int.natCast_zero, hat]
  · simp -implicitDefEqProofs only [go_sem, reduceIte, reduceCtorEq, Nat.reduceEqDiff, Nat.reduceAdd, Nat.reduceSub, Nat.reduceLT, Nat.reduceLeDiff, Nat.reduceBEq, Nat.reduceMul, Nat.reduceBNe, Int.reduceEq, Int.reduceLT, Int.reduceLE, Int.reduceNe, Int.reduceToNat, ir_world_World_LoseReply, CmdT.cells, RepT.cells, nmC, kmap_ids, kmap_ren, ro_cmd, ro_rep, ro_nm, lenA_nil, lenA_own, Int.natCast_zero, hat]
  · simp -implicitDefEqProofs only [go_sem, reduceIte, reduceCtorEq, Nat.reduceEqDiff, Nat.reduceAdd, Nat.reduceSub, Nat.reduceLT, Nat.reduceLeDiff, Nat.reduceBEq, Nat.reduceMul, Nat.reduceBNe, Int.reduceEq, Int.reduceLT, Int.reduceLE, Int.reduceNe, Int.reduceToNat, ir_world_World_LoseReply, CmdT.cells, RepT.cells, nmC, kmap_ids, kmap_ren, ro_cmd, ro_rep, ro_nm, lenA_nil, lenA_own, Int.natCast_zero, hat]
  · simp -implicitDefEqProofs only [go_sem, reduceIte, reduceCtorEq, Nat.reduceEqDiff, Nat.reduceAdd, Nat.reduceSub, Nat.reduceLT, Nat.reduceLeDiff, Nat.reduceBEq, Nat.reduceMul, Nat.reduceBNe, Int.reduceEq, Int.reduceLT, Int.reduceLE, Int.reduceNe, Int.reduceToNat, ir_world_World_LoseReply, CmdT.cells, RepT.cells, nmC, kmap_ids, kmap_ren, ro_cmd, ro_rep, ro_nm, lenA_nil, lenA_own, Int.natCast_zero, hat]
  · exact absurd rfl (hm _ _ _ _)
theorem fn_loseR (hE : Std E fns) (hd : DRK E) (w : Wd) (n : Nat) {x : RepT} (hm : ∀ gc gk c k, w ≠ .wm gc gk c k) (hx : atI w.r n = some x) (hb : w.c.length ≤ 1000000 ∧ w.r.length ≤ 1000000) : callL E f_world_way_api_Reply_lose [.ref 0 0 0 1, vi n] [] w.sto = some (vi 0, (w.delR n).sto) := by
  have hat := fn_atR hE w n
  have hx2 : (if (0 : Int) ≤ (n : Int) then w.r[(n : Int).toNat]? else none) = some x := hx
  rw [hx2] at hat
  obtain ⟨n', e1, e2, hn⟩ := atI_some hx
  obtain rfl : n = n' := by omega
  have hlv := fn_leaveR hE hd w n hn (by omega)
  rw [hE.runN rfl rfl]
  cases w <;> simp only [sto0, sto1, sto2, sto3, stom, rowC, rowR, rowK, Wd.addC, Wd.delC, Wd.addR, Wd.delR, Wd.mark, Wd.k, nmC, CmdT.cells, RepT.cells, ansOf, hasK_nil, List.length_cons, List.length_nil, List.length_append, List.map_cons, List.map_nil, List.map_append, Nat.zero_add] at hat hlv ⊢
  · exact absurd hn (by simp [Wd.r])
  · exact absurd hn (by simp [Wd.r])
  · simp -implicitDefEqProofs only [go_sem, reduceIte, reduceCtorEq, Nat.reduceEqDiff, Nat.reduceAdd, Nat.reduceSub, Nat.reduceLT, Nat.reduceLeDiff, Nat.reduceBEq, Nat.reduceMul, Nat.reduceBNe, Int.reduceEq, Int.reduceLT, Int.reduceLE, Int.reduceNe, Int.reduceToNat, ir_world_way_api_Reply_lose, CmdT.cells, RepT.cells, nmC, kmap_ids, kmap_ren, ro_cmd, ro_rep, ro_nm, lenA_nil, lenA_own, Int.natCast_zero, hat, hlv]
  · simp -implicitDefEqProofs only [go_sem, reduceIte, reduceCtorEq, Nat.reduceEqDiff, Nat.reduceAdd, Nat.reduceSub, Nat.reduceLT, Nat.reduceLeDiff, Nat.reduceBEq, Nat.reduceMul, Nat.reduceBNe, Int.reduceEq, Int.reduceLT, Int.reduceLE, Int.reduceNe, Int.reduceToNat, ir_world_way_api_Reply_lose, CmdT.cells, RepT.cells, nmC, kmap_ids, kmap_ren, ro_cmd, ro_rep, ro_nm, lenA_nil, lenA_own, Int.natCast_zero, hat, hlv]
  · exact absurd rfl (hm _ _ _ _)
theorem fn_LoseReply (hE : Std E fns) (hd : DRK E) (w : Wd) (n : Nat) {x : RepT} (hm : ∀ gc gk c k, w ≠ .wm gc gk c k) (hx : atI w.r n = some x) (hb : w.c.length ≤ 1000000 ∧ w.r.length ≤ 1000000) : callL E f_world_World_LoseReply [.ref 0 0 0 0, vi n] [] w.sto = some (vi 0, (w.delR n).sto) := by
  have hat := fn_loseR hE hd w n hm hx hb
  obtain ⟨n', e1, e2, hn⟩ := atI_some hx
  obtain rfl : n = n' := by omega
  rw [hE.runN rfl rfl]
  cases w <;> simp only [sto0, sto1, sto2, sto3, stom, rowC, rowR, rowK, Wd.addC, Wd.delC, Wd.addR, Wd.delR, Wd.mark, Wd.k, nmC, CmdT.cells, RepT.cells, ansOf, hasK_nil, List.length_cons, List.length_nil, List.length_append, List.map_cons, List.map_nil, List.map_append, Nat.zero_add] at hat ⊢
  · exact absurd hn (by simp [Wd.r])
  · exact absurd hn (by simp [Wd.r])
  · simp -implicitDefEqProofs only [go_sem, reduceIte, reduceCtorEq, Nat.reduceEqDiff, Nat.reduceAdd, Nat.reduceSub, Nat.reduceLT, Nat.reduceLeDiff, Nat.reduceBEq, Nat.reduceMul, Nat.reduceBNe, Int.reduceEq, Int.reduceLT, Int.reduceLE, Int.reduceNe, Int.reduceToNat, ir_world_World_LoseReply, CmdT.cells, RepT.cells, nmC, kmap_ids, kmap_ren, ro_cmd, ro_rep, ro_nm, lenA_nil, lenA_own, Int.natCast_zero, hat]
  · simp -implicitDefEqProofs only [go_sem, reduceIte, reduceCtorEq, Nat.reduceEqDiff, Nat.reduceAdd, Nat.reduceSub, Nat.reduceLT, Nat.reduceLeDiff, Nat.reduceBEq, Nat.reduceMul, Nat.reduceBNe, Int.reduceEq, Int.reduceLT, Int.reduceLE, Int.reduceNe, Int.reduceToNat, ir_world_World_LoseReply, CmdT.cells, RepT.cells, nmC, kmap_ids, kmap_ren, ro_cmd, ro_rep, ro_nm, lenA_nil, lenA_own, Int.natCast_zero, hat]
  · exact absurd rfl (hm _ _ _ _)
theorem fn_ReplyNo (hE : Std E fns) (w : Wd) (i : Int) (more : Bool) (hm : ∀ gc gk c k, w ≠ .wm gc gk c k) (hx : atI w.r i = none) : callL E f_world_World_Reply [.ref 0 0 0 0, vi i, vb more] [] w.sto = some (.tup [.agg (RepT.cells ⟨0, 0, false, 0, false⟩), vi 7], w.sto) := by
  have hat := fn_atR hE w i
  unfold atI at hx
  rw [hx] at hat
  rw [hE.runN rfl rfl]
  cases w <;> simp only [sto0, sto1, sto2, sto3, stom, rowC, rowR, rowK, Wd.addC, Wd.delC, Wd.addR, Wd.delR, Wd.mark, Wd.k, nmC, CmdT.cells, RepT.cells, ansOf, hasK_nil, List.length_cons, List.length_nil, List.length_append, List.map_cons, List.map_nil, List.map_append, Nat.zero_add] at hat ⊢
  · simp -implicitDefEqProofs only [go_sem, reduceIte, reduceCtorEq, Nat.reduceEqDiff, Nat.reduceAdd, Nat.reduceSub, Nat.reduceLT, Nat.reduceLeDiff, Nat.reduceBEq, Nat.reduceMul, Nat.reduceBNe, Int.reduceEq, Int.reduceLT, Int.reduceLE, Int.reduceNe, Int.reduceToNat, ir_world_World_Reply, CmdT.cells, RepT.cells, nmC, kmap_ids, kmap_ren, ro_cmd, ro_rep, ro_nm, lenA_nil, lenA_own, Int.natCast_zero, hat]
  · simp -implicitDefEqProofs only [go_sem, reduceIte, reduceCtorEq, Nat.reduceEqDiff, Nat.reduceAdd, Nat.reduceSub, Nat.reduceLT, Nat.reduceLeDiff, Nat.reduceBEq, Nat.reduceMul, Nat.reduceBNe, Int.reduceEq, Int.reduceLT, Int.reduceLE, Int.reduceNe, Int.reduceToNat, ir_world_World_Reply, CmdT.cells, RepT.cells, nmC, kmap_ids, kmap_ren, ro_cmd, ro_rep, ro_nm, lenA_nil, lenA_own, Int.natCast_zero, hat]
  · simp -implicitDefEqProofs only [go_sem, reduceIte, reduceCtorEq, Nat.reduceEqDiff, Nat.reduceAdd, Nat.reduceSub, Nat.reduceLT, Nat.reduceLeDiff, Nat.reduceBEq, Nat.reduceMul, Nat.reduceBNe, Int.reduceEq, Int.reduceLT, Int.reduceLE, Int.reduceNe, Int.reduceToNat, ir_world_World_Reply, CmdT.cells, RepT.cells, nmC, kmap_ids, kmap_ren, ro_cmd, ro_rep, ro_nm, lenA_nil, lenA_own, Int.natCast_zero, hat]
  · simp -implicitDefEqProofs only [go_sem, reduceIte, reduceCtorEq, Nat.reduceEqDiff, Nat.reduceAdd, Nat.reduceSub, Nat.reduceLT, Nat.reduceLeDiff, Nat.reduceBEq, Nat.reduceMul, Nat.reduceBNe, Int.reduceEq, Int.reduceLT, Int.reduceLE, Int.reduceNe, Int.reduceToNat, ir_world_World_Reply, CmdT.cells, RepT.cells, nmC, kmap_ids, kmap_ren, ro_cmd, ro_rep, ro_nm, lenA_nil, lenA_own, Int.natCast_zero, hat]
  · exact absurd rfl (hm _ _ _ _)
theorem fn_Reply_true (hE : Std E fns) (hd : DRK E) (w : Wd) (n : Nat) {x : RepT} (hm : ∀ gc gk c k, w ≠ .wm gc gk c k) (hx : atI w.r n = some x) (hb : w.c.length ≤ 1000000 ∧ w.r.length ≤ 1000000) : callL E f_world_World_Reply [.ref 0 0 0 0, vi n, vb true] [] w.sto = some (.tup [.agg x.cells, vi 0], w.sto) := by
  have hat := fn_atR hE w n
  have hx2 : (if (0 : Int) ≤ (n : Int) then w.r[(n : Int).toNat]? else none) = some x := hx
  rw [hx2] at hat
  obtain ⟨n', e1, e2, hn⟩ := atI_some hx
  obtain rfl : n = n' := by omega
  have hlv := fn_leaveR hE hd w n hn (by omega)
  rw [hE.runN rfl rfl]
  cases w <;> simp only [sto0, sto1, sto2, sto3, stom, rowC, rowR, rowK, Wd.addC, Wd.delC, Wd.addR, Wd.delR, Wd.mark, Wd.k, nmC, CmdT.cells, RepT.cells, ansOf, hasK_nil, List.length_cons, List.length_nil, List.length_append, List.map_cons, List.map_nil, List.map_append, Nat.zero_add] at hat hlv ⊢
  · exact absurd hn (by simp [Wd.r])
  · exact absurd hn (by simp [Wd.r])
  · simp -implicitDefEqProofs only [go_sem, reduceIte, reduceCtorEq, Nat.reduceEqDiff, Nat.reduceAdd, Nat.reduceSub, Nat.reduceLT, Nat.reduceLeDiff, Nat.reduceBEq, Nat.reduceMul, Nat.reduceBNe, Int.reduceEq, Int.reduceLT, Int.reduceLE, Int.reduceNe, Int.reduceToNat, ir_world_World_Reply, CmdT.cells, RepT.cells, nmC, kmap_ids, kmap_ren, ro_cmd, ro_rep, ro_nm, lenA_nil, lenA_own, Int.natCast_zero, hat, hlv]
  · simp -implicitDefEqProofs only [go_sem, reduceIte, reduceCtorEq, Nat.reduceEqDiff, Nat.reduceAdd, Nat.reduceSub, Nat.reduceLT, Nat.reduceLeDiff, Nat.reduceBEq, Nat.reduceMul, Nat.reduceBNe, Int.reduceEq, Int.reduceLT, Int.reduceLE, Int.reduceNe, Int.reduceToNat, ir_world_World_Reply, CmdT.cells, RepT.cells, nmC, kmap_ids, kmap_ren, ro_cmd, ro_rep, ro_nm, lenA_nil, lenA_own, Int.natCast_zero, hat, hlv]
  · exact absurd rfl (hm _ _ _ _)
theorem fn_Reply_false (hE : Std E fns) (hd : DRK E) (w : Wd) (n : Nat) {x : RepT} (hm : ∀ gc gk c k, w ≠ .wm gc gk c k) (hx : atI w.r n = some x) (hb : w.c.length ≤ 1000000 ∧ w.r.length ≤ 1000000) : callL E f_world_World_Reply [.ref 0 0 0 0, vi n, vb false] [] w.sto = some (.tup [.agg x.cells, vi 0], (w.delR n).sto) := by
  have hat := fn_atR hE w n
  have hx2 : (if (0 : Int) ≤ (n : Int) then w.r[(n : Int).toNat]? else none) = some x := hx
  rw [hx2] at hat
  obtain ⟨n', e1, e2, hn⟩ := atI_some hx
  obtain rfl : n = n' := by omega
  have hlv := fn_leaveR hE hd w n hn (by omega)
  rw [hE.runN rfl rfl]
  cases w <;> simp only [sto0, sto1, sto2, sto3, stom, rowC, rowR, rowK, Wd.addC, Wd.delC, Wd.addR, Wd.delR, Wd.mark, Wd.k, nmC, CmdT.cells, RepT.cells, ansOf, hasK_nil, List.length_cons, List.length_nil, List.length_append, List.map_cons, List.map_nil, List.map_append, Nat.zero_add] at hat hlv ⊢
  · exact absurd hn (by simp [Wd.r])
  · exact absurd hn (by simp [Wd.r])
  · simp -implicitDefEqProofs only [go_sem, reduceIte, reduceCtorEq, Nat.reduceEqDiff, Nat.reduceAdd, Nat.reduceSub, Nat.reduceLT, Nat.reduceLeDiff, Nat.reduceBEq, Nat.reduceMul, Nat.reduceBNe, Int.reduceEq, Int.reduceLT, Int.reduceLE, Int.reduceNe, Int.reduceToNat, ir_world_World_Reply, CmdT.cells, RepT.cells, nmC, kmap_ids, kmap_ren, ro_cmd, ro_rep, ro_nm, lenA_nil, lenA_own, Int.natCast_zero, hat, hlv]
  · simp -implicitDefEqProofs only [go_sem, reduceIte, reduceCtorEq, Nat.reduceEqDiff, Nat.reduceAdd, Nat.reduceSub, Nat.reduceLT, Nat.reduceLeDiff, Nat.reduceBEq, Nat.reduceMul, Nat.reduceBNe, Int.reduceEq, Int.reduceLT, Int.reduceLE, Int.reduceNe, Int.reduceToNat, ir_world_World_Reply, CmdT.cells, RepT.cells, nmC, kmap_ids, kmap_ren, ro_cmd, ro_rep, ro_nm, lenA_nil, lenA_own, Int.natCast_zero, hat, hlv]
  · exact absurd rfl (hm _ _ _ _)
theorem all_cmd (xs : List CmdT) : ((xs.map CmdT.cells).all fun c => c.length == 6) = true := by
  rw [List.all_map]
  exact List.all_eq_true.2 fun _ _ => rfl
theorem all_rep (xs : List RepT) : ((xs.map RepT.cells).all fun c => c.length == 5) = true := by
  rw [List.all_map]
  exact List.all_eq_true.2 fun _ _ => rfl
theorem all_nm (xs : List ByteArray) : ((xs.map nmC).all fun c => c.length == 1) = true := by
  rw [List.all_map]
  exact List.all_eq_true.2 fun _ _ => rfl
theorem take_map {α : Type} (f : α → List AV) (l : List α) : (l.map f).take l.length = l.map f := List.take_of_length_le (by simp)
def copyO {α : Type} (k : Nat) (f : α → List AV) (st : Store) (own : Bool) (l : List α) : AV × Store := if own = true then (.own st.length 1 0 l.length, st ++ [.row k 1 (l.map f) false]) else (.v (.slice none 0 0), st)
def Wd.hasC : Wd → Bool
  | .w0 => false
  | _ => true
def Wd.hasR : Wd → Bool
  | .w2 .. => true
  | .w3 .. => true
  | _ => false
def Wd.hasKs : Wd → Bool
  | .w3 .. => true
  | .wm .. => true
  | _ => false
theorem fn_cloneC (hE : Std E fns) (g : Nat) (l : List CmdT) (h : l.length * 64 ≤ 140737488355328) : callL E f_slices_Clone_api_Command_api_Command [.own 0 g 0 l.length] [] [.row 6 g (l.map CmdT.cells) false] = some (.own 1 1 0 l.length, [.row 6 g (l.map CmdT.cells) false, .row 6 1 (l.map CmdT.cells) false]) := by
  have ha := all_cmd l
  rw [hE.runN rfl rfl]
  simp -implicitDefEqProofs only [go_sem, reduceIte, reduceCtorEq, Nat.reduceEqDiff, Nat.reduceAdd, Nat.reduceSub, Nat.reduceLT, Nat.reduceLeDiff, Nat.reduceBEq, Nat.reduceMul, Nat.reduceBNe, Int.reduceEq, Int.reduceLT, Int.reduceLE, Int.reduceNe, Int.reduceToNat, ir_slices_Clone_api_Command_api_Command, kmap_ids, kmap_ren, ro_cmd, ro_rep, ro_nm, lenA_nil, lenA_own, h, ha, take_map, List.drop_zero, List.length_map]
theorem fn_cloneC0 (hE : Std E fns) : callL E f_slices_Clone_api_Command_api_Command [.v (.slice none 0 0)] [] [] = some (.v (.slice none 0 0), []) := by
  rw [hE.runN rfl rfl]
  simp -implicitDefEqProofs only [go_sem, reduceIte, reduceCtorEq, Nat.reduceEqDiff, Nat.reduceAdd, Nat.reduceSub, Nat.reduceLT, Nat.reduceLeDiff, Nat.reduceBEq, Nat.reduceMul, Nat.reduceBNe, Int.reduceEq, Int.reduceLT, Int.reduceLE, Int.reduceNe, Int.reduceToNat, ir_slices_Clone_api_Command_api_Command]
theorem fn_allC (hE : Std E fns) (w : Wd) (hm : ∀ gc gk c k, w ≠ .wm gc gk c k) (hb : w.c.length ≤ 1000000) : callL E f_world_way_api_Command_all [.ref 0 0 0 0] [] w.sto = some (copyO 6 CmdT.cells w.sto w.hasC w.c) := by
  rw [hE.runN rfl rfl]
  cases w <;> simp only [Wd.c, Wd.hasC, List.length_nil] at hb ⊢ <;> simp only [copyO, if_true, if_false, Bool.false_eq_true, sto0, sto1, sto2, sto3, stom, rowC, rowR, rowK, List.length_cons, List.length_nil, List.cons_append, List.nil_append]
  · have hq := fn_cloneC0 hE
    simp -implicitDefEqProofs only [go_sem, reduceIte, reduceCtorEq, Nat.reduceEqDiff, Nat.reduceAdd, Nat.reduceSub, Nat.reduceLT, Nat.reduceLeDiff, Nat.reduceBEq, Nat.reduceMul, Nat.reduceBNe, Int.reduceEq, Int.reduceLT, Int.reduceLE, Int.reduceNe, Int.reduceToNat, ir_world_way_api_Command_all, kmap_ids, kmap_ren, ro_cmd, ro_rep, ro_nm, lenA_nil, lenA_own, hq]
  · rename_i gc c
    have hq := fn_cloneC hE gc c (by omega)
    simp -implicitDefEqProofs only [go_sem, reduceIte, reduceCtorEq, Nat.reduceEqDiff, Nat.reduceAdd, Nat.reduceSub, Nat.reduceLT, Nat.reduceLeDiff, Nat.reduceBEq, Nat.reduceMul, Nat.reduceBNe, Int.reduceEq, Int.reduceLT, Int.reduceLE, Int.reduceNe, Int.reduceToNat, ir_world_way_api_Command_all, kmap_ids, kmap_ren, ro_cmd, ro_rep, ro_nm, lenA_nil, lenA_own, hq]
  · rename_i gc gr c r
    have hq := fn_cloneC hE gc c (by omega)
    simp -implicitDefEqProofs only [go_sem, reduceIte, reduceCtorEq, Nat.reduceEqDiff, Nat.reduceAdd, Nat.reduceSub, Nat.reduceLT, Nat.reduceLeDiff, Nat.reduceBEq, Nat.reduceMul, Nat.reduceBNe, Int.reduceEq, Int.reduceLT, Int.reduceLE, Int.reduceNe, Int.reduceToNat, ir_world_way_api_Command_all, kmap_ids, kmap_ren, ro_cmd, ro_rep, ro_nm, lenA_nil, lenA_own, hq]
  · rename_i gc gr gk c r k
    have hq := fn_cloneC hE gc c (by omega)
    simp -implicitDefEqProofs only [go_sem, reduceIte, reduceCtorEq, Nat.reduceEqDiff, Nat.reduceAdd, Nat.reduceSub, Nat.reduceLT, Nat.reduceLeDiff, Nat.reduceBEq, Nat.reduceMul, Nat.reduceBNe, Int.reduceEq, Int.reduceLT, Int.reduceLE, Int.reduceNe, Int.reduceToNat, ir_world_way_api_Command_all, kmap_ids, kmap_ren, ro_cmd, ro_rep, ro_nm, lenA_nil, lenA_own, hq]
  · exact absurd rfl (hm _ _ _ _)
theorem fn_Commands (hE : Std E fns) (w : Wd) (hm : ∀ gc gk c k, w ≠ .wm gc gk c k) (hb : w.c.length ≤ 1000000) : callL E f_world_World_Commands [.ref 0 0 0 0] [] w.sto = some (copyO 6 CmdT.cells w.sto w.hasC w.c) := by
  have hall := fn_allC hE w hm hb
  rw [hE.runN rfl rfl]
  cases w <;> simp only [Wd.c, Wd.hasC, List.length_nil] at hb hall ⊢ <;> simp only [copyO, if_true, if_false, Bool.false_eq_true, sto0, sto1, sto2, sto3, stom, rowC, rowR, rowK, List.length_cons, List.length_nil, List.cons_append, List.nil_append] at hall ⊢
  · have hq := hall
    simp -implicitDefEqProofs only [go_sem, reduceIte, reduceCtorEq, Nat.reduceEqDiff, Nat.reduceAdd, Nat.reduceSub, Nat.reduceLT, Nat.reduceLeDiff, Nat.reduceBEq, Nat.reduceMul, Nat.reduceBNe, Int.reduceEq, Int.reduceLT, Int.reduceLE, Int.reduceNe, Int.reduceToNat, ir_world_World_Commands, kmap_ids, kmap_ren, ro_cmd, ro_rep, ro_nm, lenA_nil, lenA_own, hq]
  · rename_i gc c
    have hq := hall
    simp -implicitDefEqProofs only [go_sem, reduceIte, reduceCtorEq, Nat.reduceEqDiff, Nat.reduceAdd, Nat.reduceSub, Nat.reduceLT, Nat.reduceLeDiff, Nat.reduceBEq, Nat.reduceMul, Nat.reduceBNe, Int.reduceEq, Int.reduceLT, Int.reduceLE, Int.reduceNe, Int.reduceToNat, ir_world_World_Commands, kmap_ids, kmap_ren, ro_cmd, ro_rep, ro_nm, lenA_nil, lenA_own, hq]
  · rename_i gc gr c r
    have hq := hall
    simp -implicitDefEqProofs only [go_sem, reduceIte, reduceCtorEq, Nat.reduceEqDiff, Nat.reduceAdd, Nat.reduceSub, Nat.reduceLT, Nat.reduceLeDiff, Nat.reduceBEq, Nat.reduceMul, Nat.reduceBNe, Int.reduceEq, Int.reduceLT, Int.reduceLE, Int.reduceNe, Int.reduceToNat, ir_world_World_Commands, kmap_ids, kmap_ren, ro_cmd, ro_rep, ro_nm, lenA_nil, lenA_own, hq]
  · rename_i gc gr gk c r k
    have hq := hall
    simp -implicitDefEqProofs only [go_sem, reduceIte, reduceCtorEq, Nat.reduceEqDiff, Nat.reduceAdd, Nat.reduceSub, Nat.reduceLT, Nat.reduceLeDiff, Nat.reduceBEq, Nat.reduceMul, Nat.reduceBNe, Int.reduceEq, Int.reduceLT, Int.reduceLE, Int.reduceNe, Int.reduceToNat, ir_world_World_Commands, kmap_ids, kmap_ren, ro_cmd, ro_rep, ro_nm, lenA_nil, lenA_own, hq]
  · exact absurd rfl (hm _ _ _ _)
theorem fn_cloneR (hE : Std E fns) (g : Nat) (l : List RepT) (h : l.length * 40 ≤ 140737488355328) : callL E f_slices_Clone_api_Reply_api_Reply [.own 0 g 0 l.length] [] [.row 5 g (l.map RepT.cells) false] = some (.own 1 1 0 l.length, [.row 5 g (l.map RepT.cells) false, .row 5 1 (l.map RepT.cells) false]) := by
  have ha := all_rep l
  rw [hE.runN rfl rfl]
  simp -implicitDefEqProofs only [go_sem, reduceIte, reduceCtorEq, Nat.reduceEqDiff, Nat.reduceAdd, Nat.reduceSub, Nat.reduceLT, Nat.reduceLeDiff, Nat.reduceBEq, Nat.reduceMul, Nat.reduceBNe, Int.reduceEq, Int.reduceLT, Int.reduceLE, Int.reduceNe, Int.reduceToNat, ir_slices_Clone_api_Reply_api_Reply, kmap_ids, kmap_ren, ro_cmd, ro_rep, ro_nm, lenA_nil, lenA_own, h, ha, take_map, List.drop_zero, List.length_map]
theorem fn_cloneR0 (hE : Std E fns) : callL E f_slices_Clone_api_Reply_api_Reply [.v (.slice none 0 0)] [] [] = some (.v (.slice none 0 0), []) := by
  rw [hE.runN rfl rfl]
  simp -implicitDefEqProofs only [go_sem, reduceIte, reduceCtorEq, Nat.reduceEqDiff, Nat.reduceAdd, Nat.reduceSub, Nat.reduceLT, Nat.reduceLeDiff, Nat.reduceBEq, Nat.reduceMul, Nat.reduceBNe, Int.reduceEq, Int.reduceLT, Int.reduceLE, Int.reduceNe, Int.reduceToNat, ir_slices_Clone_api_Reply_api_Reply]
theorem fn_allR (hE : Std E fns) (w : Wd) (hm : ∀ gc gk c k, w ≠ .wm gc gk c k) (hb : w.r.length ≤ 1000000) : callL E f_world_way_api_Reply_all [.ref 0 0 0 1] [] w.sto = some (copyO 5 RepT.cells w.sto w.hasR w.r) := by
  rw [hE.runN rfl rfl]
  cases w <;> simp only [Wd.r, Wd.hasR, List.length_nil] at hb ⊢ <;> simp only [copyO, if_true, if_false, Bool.false_eq_true, sto0, sto1, sto2, sto3, stom, rowC, rowR, rowK, List.length_cons, List.length_nil, List.cons_append, List.nil_append]
  · have hq := fn_cloneR0 hE
    simp -implicitDefEqProofs only [go_sem, reduceIte, reduceCtorEq, Nat.reduceEqDiff, Nat.reduceAdd, Nat.reduceSub, Nat.reduceLT, Nat.reduceLeDiff, Nat.reduceBEq, Nat.reduceMul, Nat.reduceBNe, Int.reduceEq, Int.reduceLT, Int.reduceLE, Int.reduceNe, Int.reduceToNat, ir_world_way_api_Reply_all, kmap_ids, kmap_ren, ro_cmd, ro_rep, ro_nm, lenA_nil, lenA_own, hq]
  · have hq := fn_cloneR0 hE
    simp -implicitDefEqProofs only [go_sem, reduceIte, reduceCtorEq, Nat.reduceEqDiff, Nat.reduceAdd, Nat.reduceSub, Nat.reduceLT, Nat.reduceLeDiff, Nat.reduceBEq, Nat.reduceMul, Nat.reduceBNe, Int.reduceEq, Int.reduceLT, Int.reduceLE, Int.reduceNe, Int.reduceToNat, ir_world_way_api_Reply_all, kmap_ids, kmap_ren, ro_cmd, ro_rep, ro_nm, lenA_nil, lenA_own, hq]
  · rename_i gc gr c r
    have hq := fn_cloneR hE gr r (by omega)
    simp -implicitDefEqProofs only [go_sem, reduceIte, reduceCtorEq, Nat.reduceEqDiff, Nat.reduceAdd, Nat.reduceSub, Nat.reduceLT, Nat.reduceLeDiff, Nat.reduceBEq, Nat.reduceMul, Nat.reduceBNe, Int.reduceEq, Int.reduceLT, Int.reduceLE, Int.reduceNe, Int.reduceToNat, ir_world_way_api_Reply_all, kmap_ids, kmap_ren, ro_cmd, ro_rep, ro_nm, lenA_nil, lenA_own, hq]
  · rename_i gc gr gk c r k
    have hq := fn_cloneR hE gr r (by omega)
    simp -implicitDefEqProofs only [go_sem, reduceIte, reduceCtorEq, Nat.reduceEqDiff, Nat.reduceAdd, Nat.reduceSub, Nat.reduceLT, Nat.reduceLeDiff, Nat.reduceBEq, Nat.reduceMul, Nat.reduceBNe, Int.reduceEq, Int.reduceLT, Int.reduceLE, Int.reduceNe, Int.reduceToNat, ir_world_way_api_Reply_all, kmap_ids, kmap_ren, ro_cmd, ro_rep, ro_nm, lenA_nil, lenA_own, hq]
  · exact absurd rfl (hm _ _ _ _)
theorem fn_Replies (hE : Std E fns) (w : Wd) (hm : ∀ gc gk c k, w ≠ .wm gc gk c k) (hb : w.r.length ≤ 1000000) : callL E f_world_World_Replies [.ref 0 0 0 0] [] w.sto = some (copyO 5 RepT.cells w.sto w.hasR w.r) := by
  have hall := fn_allR hE w hm hb
  rw [hE.runN rfl rfl]
  cases w <;> simp only [Wd.r, Wd.hasR, List.length_nil] at hb hall ⊢ <;> simp only [copyO, if_true, if_false, Bool.false_eq_true, sto0, sto1, sto2, sto3, stom, rowC, rowR, rowK, List.length_cons, List.length_nil, List.cons_append, List.nil_append] at hall ⊢
  · have hq := hall
    simp -implicitDefEqProofs only [go_sem, reduceIte, reduceCtorEq, Nat.reduceEqDiff, Nat.reduceAdd, Nat.reduceSub, Nat.reduceLT, Nat.reduceLeDiff, Nat.reduceBEq, Nat.reduceMul, Nat.reduceBNe, Int.reduceEq, Int.reduceLT, Int.reduceLE, Int.reduceNe, Int.reduceToNat, ir_world_World_Replies, kmap_ids, kmap_ren, ro_cmd, ro_rep, ro_nm, lenA_nil, lenA_own, hq]
  · have hq := hall
    simp -implicitDefEqProofs only [go_sem, reduceIte, reduceCtorEq, Nat.reduceEqDiff, Nat.reduceAdd, Nat.reduceSub, Nat.reduceLT, Nat.reduceLeDiff, Nat.reduceBEq, Nat.reduceMul, Nat.reduceBNe, Int.reduceEq, Int.reduceLT, Int.reduceLE, Int.reduceNe, Int.reduceToNat, ir_world_World_Replies, kmap_ids, kmap_ren, ro_cmd, ro_rep, ro_nm, lenA_nil, lenA_own, hq]
  · rename_i gc gr c r
    have hq := hall
    simp -implicitDefEqProofs only [go_sem, reduceIte, reduceCtorEq, Nat.reduceEqDiff, Nat.reduceAdd, Nat.reduceSub, Nat.reduceLT, Nat.reduceLeDiff, Nat.reduceBEq, Nat.reduceMul, Nat.reduceBNe, Int.reduceEq, Int.reduceLT, Int.reduceLE, Int.reduceNe, Int.reduceToNat, ir_world_World_Replies, kmap_ids, kmap_ren, ro_cmd, ro_rep, ro_nm, lenA_nil, lenA_own, hq]
  · rename_i gc gr gk c r k
    have hq := hall
    simp -implicitDefEqProofs only [go_sem, reduceIte, reduceCtorEq, Nat.reduceEqDiff, Nat.reduceAdd, Nat.reduceSub, Nat.reduceLT, Nat.reduceLeDiff, Nat.reduceBEq, Nat.reduceMul, Nat.reduceBNe, Int.reduceEq, Int.reduceLT, Int.reduceLE, Int.reduceNe, Int.reduceToNat, ir_world_World_Replies, kmap_ids, kmap_ren, ro_cmd, ro_rep, ro_nm, lenA_nil, lenA_own, hq]
  · exact absurd rfl (hm _ _ _ _)
theorem fn_cloneK (hE : Std E fns) (g : Nat) (l : List ByteArray) (h : l.length * 16 ≤ 140737488355328) : callL E f_slices_Clone_string_string [.own 0 g 0 l.length] [] [.row 1 g (l.map nmC) false] = some (.own 1 1 0 l.length, [.row 1 g (l.map nmC) false, .row 1 1 (l.map nmC) false]) := by
  have ha := all_nm l
  rw [hE.runN rfl rfl]
  simp -implicitDefEqProofs only [go_sem, reduceIte, reduceCtorEq, Nat.reduceEqDiff, Nat.reduceAdd, Nat.reduceSub, Nat.reduceLT, Nat.reduceLeDiff, Nat.reduceBEq, Nat.reduceMul, Nat.reduceBNe, Int.reduceEq, Int.reduceLT, Int.reduceLE, Int.reduceNe, Int.reduceToNat, ir_slices_Clone_string_string, kmap_ids, kmap_ren, ro_cmd, ro_rep, ro_nm, lenA_nil, lenA_own, h, ha, take_map, List.drop_zero, List.length_map]
theorem fn_cloneK0 (hE : Std E fns) : callL E f_slices_Clone_string_string [.v (.slice none 0 0)] [] [] = some (.v (.slice none 0 0), []) := by
  rw [hE.runN rfl rfl]
  simp -implicitDefEqProofs only [go_sem, reduceIte, reduceCtorEq, Nat.reduceEqDiff, Nat.reduceAdd, Nat.reduceSub, Nat.reduceLT, Nat.reduceLeDiff, Nat.reduceBEq, Nat.reduceMul, Nat.reduceBNe, Int.reduceEq, Int.reduceLT, Int.reduceLE, Int.reduceNe, Int.reduceToNat, ir_slices_Clone_string_string]
theorem fn_Keys (hE : Std E fns) (w : Wd) (hm : ∀ gc gk c k, w ≠ .wm gc gk c k) (hb : w.k.length ≤ 1000000) : callL E f_world_World_Keys [.ref 0 0 0 0] [] w.sto = some (copyO 1 nmC w.sto w.hasKs w.k) := by
  rw [hE.runN rfl rfl]
  cases w <;> simp only [Wd.k, Wd.hasKs, List.length_nil] at hb ⊢ <;> simp only [copyO, if_true, if_false, Bool.false_eq_true, sto0, sto1, sto2, sto3, stom, rowC, rowR, rowK, List.length_cons, List.length_nil, List.cons_append, List.nil_append]
  · have hq := fn_cloneK0 hE
    simp -implicitDefEqProofs only [go_sem, reduceIte, reduceCtorEq, Nat.reduceEqDiff, Nat.reduceAdd, Nat.reduceSub, Nat.reduceLT, Nat.reduceLeDiff, Nat.reduceBEq, Nat.reduceMul, Nat.reduceBNe, Int.reduceEq, Int.reduceLT, Int.reduceLE, Int.reduceNe, Int.reduceToNat, ir_world_World_Keys, kmap_ids, kmap_ren, ro_cmd, ro_rep, ro_nm, lenA_nil, lenA_own, hq]
  · have hq := fn_cloneK0 hE
    simp -implicitDefEqProofs only [go_sem, reduceIte, reduceCtorEq, Nat.reduceEqDiff, Nat.reduceAdd, Nat.reduceSub, Nat.reduceLT, Nat.reduceLeDiff, Nat.reduceBEq, Nat.reduceMul, Nat.reduceBNe, Int.reduceEq, Int.reduceLT, Int.reduceLE, Int.reduceNe, Int.reduceToNat, ir_world_World_Keys, kmap_ids, kmap_ren, ro_cmd, ro_rep, ro_nm, lenA_nil, lenA_own, hq]
  · have hq := fn_cloneK0 hE
    simp -implicitDefEqProofs only [go_sem, reduceIte, reduceCtorEq, Nat.reduceEqDiff, Nat.reduceAdd, Nat.reduceSub, Nat.reduceLT, Nat.reduceLeDiff, Nat.reduceBEq, Nat.reduceMul, Nat.reduceBNe, Int.reduceEq, Int.reduceLT, Int.reduceLE, Int.reduceNe, Int.reduceToNat, ir_world_World_Keys, kmap_ids, kmap_ren, ro_cmd, ro_rep, ro_nm, lenA_nil, lenA_own, hq]
  · rename_i gc gr gk c r k
    have hq := fn_cloneK hE gk k (by omega)
    simp -implicitDefEqProofs only [go_sem, reduceIte, reduceCtorEq, Nat.reduceEqDiff, Nat.reduceAdd, Nat.reduceSub, Nat.reduceLT, Nat.reduceLeDiff, Nat.reduceBEq, Nat.reduceMul, Nat.reduceBNe, Int.reduceEq, Int.reduceLT, Int.reduceLE, Int.reduceNe, Int.reduceToNat, ir_world_World_Keys, kmap_ids, kmap_ren, ro_cmd, ro_rep, ro_nm, lenA_nil, lenA_own, hq]
  · exact absurd rfl (hm _ _ _ _)
structure ActT where
  (k n : Int) (l : Sl CmdT) (good more : Bool)
abbrev cmv (l : Sl CmdT) : AV := l.av 6 CmdT.cells
def ActT.cells (a : ActT) : List AV := [vi a.k, vi a.n, cmv a.l, vb a.good, vb a.more]
theorem ro_act : Ro ActT.cells := fun a => by
  simp only [ActT.cells, idss, ids_avR ro_cmd, AV.ids, List.append_nil]
abbrev acv (s : Sl ActT) : AV := s.av 5 ActT.cells
def shC (c : CmdT) : Bool := decide (c.party.size ≤ 100) && decide (c.key.size ≤ 200)
def okA (a : ActT) : Bool := decide (a.l.list.length ≤ 6) && a.l.list.all shC
def fewS (l : List ActT) : Bool := decide (l.length ≤ 40) && l.all okA
theorem few_in {G : Nat → Option (List AV)} {raw : Raw} {L : Env × Store → Option (Sig × Env × Store)} (x : Sl ActT) (i : Nat) (a : ActT) (ha : x.list[i]? = some a) (hl : a.l.list.length ≤ 6)
    (hL : ∀ e st, L (e, st) = (IR.runL G raw [] ir_usufructlaw21_few_L0 e st).bind (seqK fun e st => L (compact [] 0 [0, 3, 4] e st))) :
    ∀ (rest : List CmdT) (k : Nat), a.l.list.drop k = rest → k ≤ a.l.list.length →
    L ([(0, acv x), (3, vi i), (4, vi k)], []) = if rest.all shC = true then some (.exit 2, [(0, acv x), (3, vi i)], []) else some (.ret, [(2, vb false)], [])
  | [], k, h, hk => by
    have h1 := drop_nil' h hk
    rw [hL]
    simp -implicitDefEqProofs only [go_sem, reduceIte, reduceCtorEq, Nat.reduceEqDiff, Nat.reduceAdd, Nat.reduceSub, Nat.reduceLT, Nat.reduceLeDiff, Nat.reduceBEq, Nat.reduceMul, Nat.reduceBNe, Int.reduceEq, Int.reduceLT, Int.reduceLE, Int.reduceNe, Int.reduceToNat, ir_usufructlaw21_few_L0, ha, ActT.cells, h1, ro_act, ro_cmd]
  | c :: rest, k, h, hk => by
    obtain ⟨h1, h2, h3, h4, h5⟩ := drop_cons h
    have h6 := wrap_succ (i := k) (by omega)
    have ih := few_in x i a ha hl hL rest (k + 1) h2 h4
    rw [hL, List.all_cons]
    have e1 : shC c = (decide (c.party.size ≤ 100) && decide (c.key.size ≤ 200)) := rfl
    by_cases c1 : c.party.size ≤ 100
    · have c1' : ¬ (100 : Int) < (c.party.size : Int) := by omega
      by_cases c2 : c.key.size ≤ 200
      · have c2' : ¬ (200 : Int) < (c.key.size : Int) := by omega
        simp -implicitDefEqProofs only [go_sem, reduceIte, reduceCtorEq, Nat.reduceEqDiff, Nat.reduceAdd, Nat.reduceSub, Nat.reduceLT, Nat.reduceLeDiff, Nat.reduceBEq, Nat.reduceMul, Nat.reduceBNe, Int.reduceEq, Int.reduceLT, Int.reduceLE, Int.reduceNe, Int.reduceToNat, ir_usufructlaw21_few_L0, ha, h1, h3, h6, ActT.cells, CmdT.cells, ro_act, ro_cmd, e1, c1, c2, c1', c2', ih]
      · have c2' : (200 : Int) < (c.key.size : Int) := by omega
        simp -implicitDefEqProofs only [go_sem, reduceIte, reduceCtorEq, Nat.reduceEqDiff, Nat.reduceAdd, Nat.reduceSub, Nat.reduceLT, Nat.reduceLeDiff, Nat.reduceBEq, Nat.reduceMul, Nat.reduceBNe, Int.reduceEq, Int.reduceLT, Int.reduceLE, Int.reduceNe, Int.reduceToNat, ir_usufructlaw21_few_L0, ha, h1, h3, h6, ActT.cells, CmdT.cells, ro_act, ro_cmd, e1, c1, c2, c1', c2']
    · have c1' : (100 : Int) < (c.party.size : Int) := by omega
      simp -implicitDefEqProofs only [go_sem, reduceIte, reduceCtorEq, Nat.reduceEqDiff, Nat.reduceAdd, Nat.reduceSub, Nat.reduceLT, Nat.reduceLeDiff, Nat.reduceBEq, Nat.reduceMul, Nat.reduceBNe, Int.reduceEq, Int.reduceLT, Int.reduceLE, Int.reduceNe, Int.reduceToNat, ir_usufructlaw21_few_L0, ha, h1, h3, h6, ActT.cells, CmdT.cells, ro_act, ro_cmd, e1, c1, c1']
theorem few_loop {G : Nat → Option (List AV)} {raw : Raw} {L : Env × Store → Option (Sig × Env × Store)} (x : Sl ActT) (hx : x.list.length ≤ 100000)
    (hL : ∀ e st, L (e, st) = (IR.runL G raw [] ir_usufructlaw21_few_L1 e st).bind (seqK fun e st => L (compact [] 0 [0, 3] e st))) :
    ∀ (rest : List ActT) (i : Nat), x.list.drop i = rest → i ≤ x.list.length →
    L ([(0, acv x), (3, vi i)], []) = if rest.all okA = true then some (.exit 0, [], []) else some (.ret, [(2, vb false)], [])
  | [], i, h, hi => by
    have h1 := drop_nil' h hi
    rw [hL]
    simp -implicitDefEqProofs only [go_sem, reduceIte, reduceCtorEq, Nat.reduceEqDiff, Nat.reduceAdd, Nat.reduceSub, Nat.reduceLT, Nat.reduceLeDiff, Nat.reduceBEq, Nat.reduceMul, Nat.reduceBNe, Int.reduceEq, Int.reduceLT, Int.reduceLE, Int.reduceNe, Int.reduceToNat, ir_usufructlaw21_few_L1, h1, ro_act]
  | a :: rest, i, h, hi => by
    obtain ⟨h1, h2, h3, h4, h5⟩ := drop_cons h
    have h6 := wrap_succ (i := i) (by omega)
    have ih := few_loop x hx hL rest (i + 1) h2 h4
    rw [hL, List.all_cons]
    have e1 : okA a = (decide (a.l.list.length ≤ 6) && a.l.list.all shC) := rfl
    by_cases c1 : a.l.list.length ≤ 6
    · have c1' : ¬ (6 : Int) < (a.l.list.length : Int) := by omega
      have hin := few_in x i a h1 c1 (loopL_eq (IR.runL G raw [] ir_usufructlaw21_few_L0) (compact [] 0 [0, 3, 4])) a.l.list 0 rfl (Nat.zero_le _)
      simp only [Int.natCast_zero] at hin
      cases hb : a.l.list.all shC with
      | true =>
        rw [hb, if_pos rfl] at hin
        simp -implicitDefEqProofs only [go_sem, reduceIte, reduceCtorEq, Nat.reduceEqDiff, Nat.reduceAdd, Nat.reduceSub, Nat.reduceLT, Nat.reduceLeDiff, Nat.reduceBEq, Nat.reduceMul, Nat.reduceBNe, Int.reduceEq, Int.reduceLT, Int.reduceLE, Int.reduceNe, Int.reduceToNat, ir_usufructlaw21_few_L1, h1, h3, h6, ActT.cells, ro_act, ro_cmd, e1, c1, c1', hb, hin, ih]
      | false =>
        rw [hb, if_neg (by simp)] at hin
        simp -implicitDefEqProofs only [go_sem, reduceIte, reduceCtorEq, Nat.reduceEqDiff, Nat.reduceAdd, Nat.reduceSub, Nat.reduceLT, Nat.reduceLeDiff, Nat.reduceBEq, Nat.reduceMul, Nat.reduceBNe, Int.reduceEq, Int.reduceLT, Int.reduceLE, Int.reduceNe, Int.reduceToNat, ir_usufructlaw21_few_L1, h1, h3, h6, ActT.cells, ro_act, ro_cmd, e1, c1, c1', hb, hin]
    · have c1' : (6 : Int) < (a.l.list.length : Int) := by omega
      simp -implicitDefEqProofs only [go_sem, reduceIte, reduceCtorEq, Nat.reduceEqDiff, Nat.reduceAdd, Nat.reduceSub, Nat.reduceLT, Nat.reduceLeDiff, Nat.reduceBEq, Nat.reduceMul, Nat.reduceBNe, Int.reduceEq, Int.reduceLT, Int.reduceLE, Int.reduceNe, Int.reduceToNat, ir_usufructlaw21_few_L1, h1, h3, h6, ActT.cells, ro_act, ro_cmd, e1, c1, c1']
theorem fn_few (hE : Std E fns) (x : Sl ActT) (hx : x.list.length < 9223372036854775808) : callP E f_usufructlaw21_few [acv x] = some (vb (fewS x.list)) := by
  rw [hE.run rfl rfl]
  unfold fewS
  by_cases c : x.list.length ≤ 40
  · have c' : ¬ (40 : Int) < (x.list.length : Int) := by omega
    have h := few_loop x (by omega) (loopL_eq (IR.runL E.glob (callL E) [] ir_usufructlaw21_few_L1) (compact [] 0 [0, 3])) x.list 0 rfl (Nat.zero_le _)
    simp only [Int.natCast_zero] at h
    cases ha : x.list.all okA
    · rw [ha] at h
      simp only [Bool.false_eq_true, if_false] at h
      simp -implicitDefEqProofs only [go_sem, reduceIte, reduceCtorEq, Nat.reduceEqDiff, Nat.reduceAdd, Nat.reduceSub, Nat.reduceLT, Nat.reduceLeDiff, Nat.reduceBEq, Nat.reduceMul, Nat.reduceBNe, Int.reduceEq, Int.reduceLT, Int.reduceLE, Int.reduceNe, Int.reduceToNat, ir_usufructlaw21_few, h, ro_act, c', c]
    · rw [ha] at h
      simp only [if_true] at h
      simp -implicitDefEqProofs only [go_sem, reduceIte, reduceCtorEq, Nat.reduceEqDiff, Nat.reduceAdd, Nat.reduceSub, Nat.reduceLT, Nat.reduceLeDiff, Nat.reduceBEq, Nat.reduceMul, Nat.reduceBNe, Int.reduceEq, Int.reduceLT, Int.reduceLE, Int.reduceNe, Int.reduceToNat, ir_usufructlaw21_few, h, ro_act, c', c]
  · have c' : (40 : Int) < (x.list.length : Int) := by omega
    simp -implicitDefEqProofs only [go_sem, reduceIte, reduceCtorEq, Nat.reduceEqDiff, Nat.reduceAdd, Nat.reduceSub, Nat.reduceLT, Nat.reduceLeDiff, Nat.reduceBEq, Nat.reduceMul, Nat.reduceBNe, Int.reduceEq, Int.reduceLT, Int.reduceLE, Int.reduceNe, Int.reduceToNat, ir_usufructlaw21_few, ro_act, c', c]
def Wd.deliver (w : Wd) (i : Int) (good more : Bool) : Wd := match atI w.c i with
  | some x => w.deliv i.toNat x good more
  | none => w
def Wd.lose (w : Wd) (i : Int) : Wd := match atI w.c i with
  | some _ => w.delC i.toNat
  | none => w
def Wd.reply (w : Wd) (i : Int) (more : Bool) : Wd := match atI w.r i with
  | some _ => if more = true then w else w.delR i.toNat
  | none => w
def Wd.loseR (w : Wd) (i : Int) : Wd := match atI w.r i with
  | some _ => w.delR i.toNat
  | none => w
def errI {α : Type} (l : List α) (i : Int) : Int := match atI l i with
  | some _ => 0
  | none => 7
def ansR (w : Wd) (i : Int) : RepT := match atI w.r i with
  | some x => x
  | none => ⟨0, 0, false, 0, false⟩
/-- Which world may follow which, by its shape. -/
def Nx : Wd → Wd → Prop
  | .w0, w => w = .w0 ∨ ∃ g c, w = .w1 g c
  | .w1 _ _, w => (∃ g c, w = .w1 g c) ∨ (∃ g h c r, w = .w2 g h c r) ∨ ∃ g h j c r k, w = .w3 g h j c r k
  | .w2 _ _ _ _, w => (∃ g h c r, w = .w2 g h c r) ∨ ∃ g h j c r k, w = .w3 g h j c r k
  | .w3 _ _ _ _ _ _, w => ∃ g h j c r k, w = .w3 g h j c r k
  | .wm _ _ _ _, _ => False
abbrev Wd.ok (w : Wd) : Prop := ∀ gc gk c k, w ≠ .wm gc gk c k
theorem nx_refl {w : Wd} (h : w.ok) : Nx w w := by
  cases w
  · exact .inl rfl
  · exact .inl ⟨_, _, rfl⟩
  · exact .inl ⟨_, _, _, _, rfl⟩
  · exact ⟨_, _, _, _, _, _, rfl⟩
  · exact absurd rfl (h _ _ _ _)
theorem nx_ok {w w' : Wd} (h : Nx w w') : w'.ok := by
  intro gc gk c k e
  subst e
  cases w <;> simp [Nx] at h
theorem nx_send (l : List CmdT) {w : Wd} (h : w.ok) : Nx w (sendW w l) := by
  cases w with
  | w0 =>
    rcases okN_send l (n0 := 1) (w := .w0) (.inl ⟨rfl, rfl⟩) with ⟨_, e⟩ | ⟨g, c, _, e⟩ | ⟨g, c, e1, e⟩ | ⟨_, _, _, _, e1, _⟩ | ⟨_, _, _, _, _, _, e1, _⟩
    · exact .inl e
    · exact .inr ⟨_, _, e⟩
    · omega
    · omega
    · omega
  | w1 gc c =>
    rcases okN_send l (n0 := 2) (w := .w1 gc c) (.inr (.inr (.inl ⟨_, _, rfl, rfl⟩))) with ⟨e1, _⟩ | ⟨g, c, e1, e⟩ | ⟨g, c, e1, e⟩ | ⟨_, _, _, _, e1, _⟩ | ⟨_, _, _, _, _, _, e1, _⟩
    · omega
    · omega
    · exact .inl ⟨_, _, e⟩
    · omega
    · omega
  | w2 gc gr c r =>
    rcases okN_send l (n0 := 3) (w := .w2 gc gr c r) (.inr (.inr (.inr (.inl ⟨_, _, _, _, rfl, rfl⟩)))) with ⟨e1, _⟩ | ⟨g, c, e1, e⟩ | ⟨g, c, e1, e⟩ | ⟨_, _, _, _, e1, e⟩ | ⟨_, _, _, _, _, _, e1, _⟩
    · omega
    · omega
    · omega
    · exact .inl ⟨_, _, _, _, e⟩
    · omega
  | w3 gc gr gk c r k =>
    rcases okN_send l (n0 := 5) (w := .w3 gc gr gk c r k) (.inr (.inr (.inr (.inr ⟨_, _, _, _, _, _, rfl, rfl⟩)))) with ⟨e1, _⟩ | ⟨g, c, e1, e⟩ | ⟨g, c, e1, e⟩ | ⟨_, _, _, _, e1, _⟩ | ⟨_, _, _, _, _, _, e1, e⟩
    · omega
    · omega
    · omega
    · omega
    · exact ⟨_, _, _, _, _, _, e⟩
  | wm gc gk c k => exact absurd rfl (h _ _ _ _)
theorem send_cont : ∀ (l : List CmdT) (w : Wd), (sendW w l).c = w.c ++ l.filter goodC ∧ (sendW w l).r = w.r ∧ (sendW w l).k = w.k
  | [], w => by simp [sendW]
  | x :: r, w => by
    unfold sendW
    have hx : (w.addC x).c = w.c ++ [x] ∧ (w.addC x).r = w.r ∧ (w.addC x).k = w.k := by cases w <;> simp [Wd.addC, Wd.c, Wd.r, Wd.k]
    cases hg : goodC x with
    | true =>
      rw [if_pos rfl]
      obtain ⟨h1, h2, h3⟩ := send_cont r (w.addC x)
      rw [h1, h2, h3, hx.1, hx.2.1, hx.2.2, List.filter_cons_of_pos hg]
      simp
    | false =>
      rw [if_neg (by simp), List.filter_cons_of_neg (by simp [hg])]
      exact send_cont r w
/-- The keys behind a delivery. -/
def keysD (k : List ByteArray) (x : CmdT) (good : Bool) : List ByteArray := if (good && !hasK x.key k) = true then k ++ [x.key] else k
theorem deliv_cont {w : Wd} (h : w.ok) (h0 : w ≠ .w0) (n : Nat) (x : CmdT) (good more : Bool) :
    Nx w (w.deliv n x good more) ∧ (w.deliv n x good more).c = (if more = true then w.c else w.c.take n ++ w.c.drop (n + 1)) ∧ (w.deliv n x good more).r = w.r ++ [ansOf x (hasK x.key (keysD w.k x good))] ∧ (w.deliv n x good more).k = keysD w.k x good := by
  unfold Wd.deliv keysD
  cases w with
  | w0 => exact absurd rfl h0
  | wm gc gk c k => exact absurd rfl (h _ _ _ _)
  | _ =>
    split <;> cases more <;> simp [Wd.mark, Wd.delC, Wd.addR, Wd.c, Wd.r, Wd.k, Nx]
theorem deliver_cont {w : Wd} (h : w.ok) {i : Int} {x : CmdT} (hx : atI w.c i = some x) (good more : Bool) :
    Nx w (w.deliver i good more) ∧ (w.deliver i good more).c = (if more = true then w.c else w.c.take i.toNat ++ w.c.drop (i.toNat + 1)) ∧ (w.deliver i good more).r = w.r ++ [ansOf x (hasK x.key (keysD w.k x good))] ∧ (w.deliver i good more).k = keysD w.k x good := by
  have h0 : w ≠ .w0 := fun e => by
    subst e
    obtain ⟨n, _, _, h3⟩ := atI_some hx
    simp [Wd.c] at h3
  unfold Wd.deliver
  rw [hx]
  exact deliv_cont h h0 _ _ _ _
theorem deliver_no {w : Wd} {i : Int} (hx : atI w.c i = none) (good more : Bool) : w.deliver i good more = w := by unfold Wd.deliver; rw [hx]
theorem delC_cont {w : Wd} (h : w.ok) (h0 : w ≠ .w0) (n : Nat) : Nx w (w.delC n) ∧ (w.delC n).c = w.c.take n ++ w.c.drop (n + 1) ∧ (w.delC n).r = w.r ∧ (w.delC n).k = w.k := by
  cases w with
  | w0 => exact absurd rfl h0
  | wm gc gk c k => exact absurd rfl (h _ _ _ _)
  | _ => simp [Wd.delC, Wd.c, Wd.r, Wd.k, Nx]
theorem delR_cont {w : Wd} (h : w.ok) {n : Nat} (hn : n < w.r.length) : Nx w (w.delR n) ∧ (w.delR n).c = w.c ∧ (w.delR n).r = w.r.take n ++ w.r.drop (n + 1) ∧ (w.delR n).k = w.k := by
  cases w with
  | w0 => simp [Wd.r] at hn
  | w1 gc c => simp [Wd.r] at hn
  | wm gc gk c k => exact absurd rfl (h _ _ _ _)
  | _ => simp [Wd.delR, Wd.c, Wd.r, Wd.k, Nx]
theorem lose_cont {w : Wd} (h : w.ok) (i : Int) : Nx w (w.lose i) ∧ (w.lose i).r = w.r ∧ (w.lose i).k = w.k ∧ (w.lose i).c = (match atI w.c i with | some _ => w.c.take i.toNat ++ w.c.drop (i.toNat + 1) | none => w.c) := by
  unfold Wd.lose
  cases hx : atI w.c i with
  | none => exact ⟨nx_refl h, rfl, rfl, rfl⟩
  | some x =>
    obtain ⟨n, _, _, h3⟩ := atI_some hx
    obtain ⟨a, b, c, d⟩ := delC_cont h (fun e => by subst e; simp [Wd.c] at h3) i.toNat
    exact ⟨a, c, d, b⟩
theorem reply_cont {w : Wd} (h : w.ok) (i : Int) (more : Bool) : Nx w (w.reply i more) ∧ (w.reply i more).c = w.c ∧ (w.reply i more).k = w.k ∧ (w.reply i more).r = (match atI w.r i with | some _ => if more = true then w.r else w.r.take i.toNat ++ w.r.drop (i.toNat + 1) | none => w.r) := by
  unfold Wd.reply
  cases hx : atI w.r i with
  | none => exact ⟨nx_refl h, rfl, rfl, rfl⟩
  | some x =>
    obtain ⟨n, e1, _, h3⟩ := atI_some hx
    cases more with
    | true => exact ⟨nx_refl h, rfl, rfl, rfl⟩
    | false =>
      obtain ⟨a, b, c, d⟩ := delR_cont h (n := i.toNat) (by omega)
      exact ⟨a, b, d, c⟩
theorem loseR_cont {w : Wd} (h : w.ok) (i : Int) : Nx w (w.loseR i) ∧ (w.loseR i).c = w.c ∧ (w.loseR i).k = w.k ∧ (w.loseR i).r = (match atI w.r i with | some _ => w.r.take i.toNat ++ w.r.drop (i.toNat + 1) | none => w.r) := reply_cont h i false
/-! ### the calls, in one form -/
abbrev Bd (w : Wd) : Prop := w.c.length ≤ 90000 ∧ w.r.length ≤ 90000 ∧ w.k.length ≤ 90000
theorem call_Deliver (hE : Std E fns) (hd : DCK E) {w : Wd} (h : w.ok) (hb : Bd w) (i : Int) (good more : Bool) : callL E f_world_World_Deliver [.ref 0 0 0 0, vi i, vb good, vb more] [] w.sto = some (vi (errI w.c i), (w.deliver i good more).sto) := by
  unfold Wd.deliver errI
  cases hx : atI w.c i with
  | none => exact fn_DeliverNo hE w i good more h hx
  | some x =>
    obtain ⟨n, rfl, h2, h3⟩ := atI_some hx
    simp only [Int.toNat_natCast]
    cases w with
    | w0 => simp [Wd.c] at h3
    | wm gc gk c k => exact absurd rfl (h _ _ _ _)
    | w1 gc c => exact fn_Deliver_a hE hd gc c n x good more hx (fun w e => by subst e; exact ⟨by omega, by omega, by omega⟩)
    | w2 gc gr c r => exact fn_Deliver_b hE hd gc gr c r n x good more hx (fun w e => by subst e; exact ⟨by omega, by omega, by omega⟩)
    | w3 gc gr gk c r k => exact fn_Deliver_c hE hd gc gr gk c r k n x good more hx (fun w e => by subst e; exact ⟨by omega, by omega, by omega⟩)
theorem call_Lose (hE : Std E fns) (hd : DCK E) {w : Wd} (h : w.ok) (hb : Bd w) (i : Int) : callL E f_world_World_Lose [.ref 0 0 0 0, vi i] [] w.sto = some (vi (errI w.c i), (w.lose i).sto) := by
  unfold Wd.lose errI
  cases hx : atI w.c i with
  | none => exact fn_LoseNo hE w i h hx
  | some x =>
    obtain ⟨n, rfl, h2, h3⟩ := atI_some hx
    exact fn_Lose hE hd w n h hx ⟨by omega, by omega⟩
theorem call_LoseReply (hE : Std E fns) (hd : DRK E) {w : Wd} (h : w.ok) (hb : Bd w) (i : Int) : callL E f_world_World_LoseReply [.ref 0 0 0 0, vi i] [] w.sto = some (vi (errI w.r i), (w.loseR i).sto) := by
  unfold Wd.loseR errI
  cases hx : atI w.r i with
  | none => exact fn_LoseReplyNo hE w i h hx
  | some x =>
    obtain ⟨n, rfl, h2, h3⟩ := atI_some hx
    exact fn_LoseReply hE hd w n h hx ⟨by omega, by omega⟩
theorem call_Reply (hE : Std E fns) (hd : DRK E) {w : Wd} (h : w.ok) (hb : Bd w) (i : Int) (more : Bool) : callL E f_world_World_Reply [.ref 0 0 0 0, vi i, vb more] [] w.sto = some (.tup [.agg (ansR w i).cells, vi (errI w.r i)], (w.reply i more).sto) := by
  unfold Wd.reply errI ansR
  cases hx : atI w.r i with
  | none => exact fn_ReplyNo hE w i more h hx
  | some x =>
    obtain ⟨n, rfl, h2, h3⟩ := atI_some hx
    cases more with
    | true => exact fn_Reply_true hE hd w n h hx ⟨by omega, by omega⟩
    | false => exact fn_Reply_false hE hd w n h hx ⟨by omega, by omega⟩
/-- What an act does to a world. -/
def Wd.step (w : Wd) (a : ActT) : Wd :=
  if a.k = 0 ∨ a.k = 1 then sendW w a.l.list else if a.k = 2 ∨ a.k = 3 then w.deliver a.n a.good a.more else if a.k = 4 then w.lose a.n else if a.k = 5 ∨ a.k = 6 then w.reply a.n a.more else if a.k = 7 then w.loseR a.n else w
/-- The call that an act makes. -/
def callA (a : ActT) : Nat × List AV :=
  if a.k = 0 ∨ a.k = 1 then (f_world_World_Send, [cmv a.l]) else if a.k = 2 ∨ a.k = 3 then (f_world_World_Deliver, [vi a.n, vb a.good, vb a.more]) else if a.k = 4 then (f_world_World_Lose, [vi a.n]) else if a.k = 5 ∨ a.k = 6 then (f_world_World_Reply, [vi a.n, vb a.more]) else (f_world_World_LoseReply, [vi a.n])
def ansA (w : Wd) (a : ActT) : AV :=
  if a.k = 0 ∨ a.k = 1 then .tup [] else if a.k = 2 ∨ a.k = 3 then vi (errI w.c a.n) else if a.k = 4 then vi (errI w.c a.n) else if a.k = 5 ∨ a.k = 6 then .tup [.agg (ansR w a.n).cells, vi (errI w.r a.n)] else vi (errI w.r a.n)
structure WOK (E : Prog) : Prop where
  std : Std E fns
  v : VOK E
  s : SPS E
  dc : DCK E
  dr : DRK E
theorem call_act (hE : WOK E) {w : Wd} (h : w.ok) (hb : Bd w) (a : ActT) (ha : okA a = true) (hk : 0 ≤ a.k ∧ a.k ≤ 7) : callL E (callA a).1 (.ref 0 0 0 0 :: (callA a).2) [] w.sto = some (ansA w a, (w.step a).sto) := by
  unfold callA ansA Wd.step
  simp only [okA, Bool.and_eq_true, decide_eq_true_eq, List.all_eq_true] at ha
  by_cases c1 : a.k = 0 ∨ a.k = 1
  · simp only [c1, if_true]
    exact fn_Send hE.std hE.v hE.s w h a.l (by omega) (fun x hx => by have := ha.2 x hx; simpa [shC] using this) (by omega)
  · simp only [c1, if_false]
    by_cases c2 : a.k = 2 ∨ a.k = 3
    · simp only [c2, if_true]
      exact call_Deliver hE.std hE.dc h hb a.n a.good a.more
    · simp only [c2, if_false]
      by_cases c3 : a.k = 4
      · simp only [c3, if_true]
        exact call_Lose hE.std hE.dc h hb a.n
      · simp only [c3, if_false]
        by_cases c4 : a.k = 5 ∨ a.k = 6
        · simp only [c4, if_true]
          exact call_Reply hE.std hE.dr h hb a.n a.more
        · have c5 : a.k = 7 := by omega
          simp only [c4, c5, if_false, if_true]
          exact call_LoseReply hE.std hE.dr h hb a.n
theorem step_other {w : Wd} {a : ActT} (hk : a.k < 0 ∨ 7 < a.k) : w.step a = w := by
  unfold Wd.step
  rw [if_neg (by omega), if_neg (by omega), if_neg (by omega), if_neg (by omega), if_neg (by omega)]
theorem step_nx {w : Wd} (h : w.ok) (a : ActT) : Nx w (w.step a) := by
  unfold Wd.step
  split
  · exact nx_send _ h
  · split
    · cases hx : atI w.c a.n with
      | none => rw [deliver_no hx]; exact nx_refl h
      | some x => exact (deliver_cont h hx _ _).1
    · split
      · exact (lose_cont h _).1
      · split
        · exact (reply_cont h _ _).1
        · split
          · exact (loseR_cont h _).1
          · exact nx_refl h
theorem callA_ids (a : ActT) : idss (callA a).2 = [] := by
  unfold callA
  repeat' split
  all_goals simp [idss, AV.ids, ids_avR ro_cmd]
theorem callA_ren (a : ActT) (ρ : Nat → Nat) : rens ρ (callA a).2 = (callA a).2 := by
  unfold callA
  repeat' split
  all_goals simp [rens, AV.ren, ren_av ro_cmd]
theorem ansA_ren (w : Wd) (a : ActT) (ρ : Nat → Nat) : (ansA w a).ren ρ = ansA w a := by
  unfold ansA
  repeat' split
  all_goals simp [rens, AV.ren, RepT.cells]
end Go.Proofs.YtbpndomfipdhdaaDoor.Ev
