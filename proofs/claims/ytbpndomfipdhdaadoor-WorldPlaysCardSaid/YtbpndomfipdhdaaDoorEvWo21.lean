/-
  A world: the document's deeds, one by one.
-/
import Derived.Test.YtbpndomfipdhdaaDoorEvWo20
set_option linter.unusedVariables false
set_option linter.unusedSimpArgs false
namespace Go.Proofs.YtbpndomfipdhdaaDoor.Ev
attribute [local congr] bind_congr_head
attribute [local go_sem] opd_t opd_c opd_g opd_f opds_nil opds_cons get_cons put_some put_none keep_nil keepC_s keepC_n keep_cons runs_nil runs_cons run_op run_opr run_call run_gand run_gor run_gif seqK_norm seqK_exit seqK_ret blkK_norm blkK_exit blkK_ret runL_skip runL_exit runL_ret runL_items runL_seq runL_cond runL_block runL_loop fin_bind finK_norm finK_ret rvs_nil rvs_cons rv_tmp rv_cell tupOf_one tupOf_nil tupOf_two ev_mov ev_pick ev_alloc ev_box ev_build parts_nil parts_cons fills_nil fills_cons ev_bsl ev_bslo ev_load ev_store ev_nilck ev_bin ev_binb ev_aeq ev_un ev_i2i ev_i2t ev_isnilI nilIF ev_s2b ev_ext ev_fld ev_idxs ev_fa ev_ias ev_len ev_lens ev_s2s ev_mkf ev_rng ev_nxt ev_app bOf_s pvOf_s agOf_s tpOf_s iOf_s sOf_s ite_bind Option.bind_some Option.bind_none if_true if_false ite_true ite_false argEnv_nil argEnv_cons len_av elems_av ias_av cells_av tuple_av AV.tuple AV.cells faF ldAt liveRef aggOf nilckF binV binI binS binB unV Bool.not_true Bool.not_false List.length_nil List.length_cons List.nil_append List.cons_append List.append_nil List.getElem?_cons_zero List.getElem?_cons_succ List.drop_zero List.drop_succ_cons List.drop_nil List.take_zero List.take_succ_cons List.take_nil List.set_cons_zero List.set_cons_succ compact_same compact_new closedB nodupB envIds ids0 upto visit pos sel AV.ids idss idsss Ob.ids AV.ren rens renss Ob.ren renEnv AV.snap snaps stAt okSt putCells List.all_nil List.all_cons List.contains_nil List.contains_cons Bool.and_true Bool.true_and Bool.and_false Bool.false_and Bool.or_true Bool.true_or Bool.or_false Bool.false_or decide_eq_true_eq decide_true decide_false beq_iff_eq bne_iff_ne beq_self_eq_true Bool.not_eq_true' Bool.false_eq_true eq_self and_self and_true true_and and_false false_and or_true true_or or_false false_or not_true_eq_false not_false_eq_true ne_eq Nat.zero_add Nat.add_zero Nat.le_refl Nat.not_lt_zero Nat.lt_irrefl Nat.zero_le Int.toNat_natCast gt_iff_lt ge_iff_le Int.lt_irrefl Int.natCast_nonneg txt_eq get_nil appF belows AV.under AV.flat flats List.length_map List.map_append List.map_cons List.map_nil List.length_append take_map_all List.flatten_cons List.flatten_nil bld_nil imp_false false_imp_iff false_implies true_implies implies_true decide_eq_false_iff_not Nat.one_mul Nat.mul_one idsss_app renss_app belowss_app ev_mn ev_mx ev_isnils ev_sls ev_slx evo_none evo_some vals minV maxV minF maxF backId List.getElem?_nil putAll Option.all_none Option.all_some Option.isSome_some intOf aszI compactV_same compactV_new callP_any callQ_eq callN_any AV.id? ids_avR ren_av under_av snap_av renss_mapf belowss_mapf idsss_mapf isnilsF List.length_eq_zero_iff int_beq int_bne decide_not slx_av Int.toNat_zero ev_mkm ev_lk ev_mup ev_mdl ev_lenm ev_isnilm mpOf_s mapAt_s mapOf_nil mapOf_mp isnilm_nil isnilm_mp lkR Option.getD_some Option.getD_none Option.isSome_none Prim.rdo ev_snp snp_own snp_v exQ_nil exQ_cons exA_ref same_nil same_box same_row same_map sameL_nil sameL_cons sameA_int sameA_bool sameA_str sameA_slice sameA_map sameA_ptr sameA_own sameA_ref sameA_mp callB_eq
variable {E : Prog}
theorem boxQ_av {α : Type} (st : Store) (k : Nat) (f : α → List AV) (s : Sl α) : boxQ st (s.av k f) = true := by cases s <;> rfl
theorem boxQ_ref (st : Store) (id g i o : Nat) : boxQ st (.ref id g i o) = (match st[id]? with
    | some (.box _) => true
    | _ => false) := rfl
theorem bel1 (n : Nat) (a : Value) : belowss n [[.v a]] = true := rfl
theorem bel5 (n : Nat) (a b c d e : Value) : belowss n [[.v a, .v b, .v c, .v d, .v e]] = true := rfl
theorem list_mk {α : Type} (xs : List α) : (Sl.mk xs).list = xs := rfl
theorem take_map1 {α : Type} (f : α → List AV) (l : List α) (a : List AV) : (l.map f ++ [a]).take (l.length + 1) = l.map f ++ [a] := List.take_of_length_le (by simp)
theorem fn_dropS (hE : Std E fns) (s : Sl CmdT) (n : Nat) (h : n < s.list.length) (hb : s.list.length ≤ 100000) : callP E f_usufructref21_drop [s.av 6 CmdT.cells, vi n] = some ((Sl.mk (td s.list n)).av 6 CmdT.cells) := by
  cases s with
  | nil => simp [Sl.list] at h
  | mk l => exact fn_drop hE l n h hb
theorem ross_td (l : List CmdT) : ross (l.map CmdT.cells) = true := ross_map (fun _ => rfl) 0 l
def XW.deliv (x : XW) (n : Nat) (y : CmdT) (good more : Bool) : XW :=
  ⟨if more = true then x.c else .mk (td x.c.list n), .mk (x.r.list ++ [ansOf y (hasK y.key (keysD x.k.list y good))]), if (good && !hasK y.key x.k.list) = true then .mk (x.k.list ++ [y.key]) else x.k⟩
theorem fn_rDeliverNo (hE : Std E fns) (x : XW) (i : Int) (good more : Bool) (hx : atI x.c.list i = none) : callP E f_usufructref21_Deliver [.agg x.cells, vi i, vb good, vb more] = some (.tup [.agg x.cells, vb false]) := by
  rw [hE.run rfl rfl]
  simp only [XW.cells]
  unfold atI at hx
  by_cases c0 : i < 0
  · simp -implicitDefEqProofs only [go_sem, reduceIte, reduceCtorEq, Nat.reduceEqDiff, Nat.reduceAdd, Nat.reduceSub, Nat.reduceLT, Nat.reduceLeDiff, Nat.reduceBEq, Nat.reduceMul, Nat.reduceBNe, Int.reduceEq, Int.reduceLT, Int.reduceLE, Int.reduceNe, Int.reduceToNat, ir_usufructref21_Deliver, c0, bel1, bel5, elems_av, elems_sl, boxQ_av, boxQ_ref, list_mk, ro_cmd, ro_rep, ro_nm, all_cmd, all_rep, all_nm, take_map, take_map1, List.length_map, Nat.zero_add]
  · rw [if_pos (by omega)] at hx
    have c1 := List.getElem?_eq_none_iff.1 hx
    have c2 : (x.c.list.length : Int) ≤ i := by omega
    simp -implicitDefEqProofs only [go_sem, reduceIte, reduceCtorEq, Nat.reduceEqDiff, Nat.reduceAdd, Nat.reduceSub, Nat.reduceLT, Nat.reduceLeDiff, Nat.reduceBEq, Nat.reduceMul, Nat.reduceBNe, Int.reduceEq, Int.reduceLT, Int.reduceLE, Int.reduceNe, Int.reduceToNat, ir_usufructref21_Deliver, c0, c2, bel1, bel5, elems_av, elems_sl, boxQ_av, boxQ_ref, list_mk, ro_cmd, ro_rep, ro_nm, all_cmd, all_rep, all_nm, take_map, take_map1, List.length_map, Nat.zero_add]
theorem fn_rLoseNo (hE : Std E fns) (x : XW) (i : Int) (hx : atI x.c.list i = none) : callP E f_usufructref21_Lose [.agg x.cells, vi i] = some (.tup [.agg x.cells, vb false]) := by
  rw [hE.run rfl rfl]
  simp only [XW.cells]
  unfold atI at hx
  by_cases c0 : i < 0
  · simp -implicitDefEqProofs only [go_sem, reduceIte, reduceCtorEq, Nat.reduceEqDiff, Nat.reduceAdd, Nat.reduceSub, Nat.reduceLT, Nat.reduceLeDiff, Nat.reduceBEq, Nat.reduceMul, Nat.reduceBNe, Int.reduceEq, Int.reduceLT, Int.reduceLE, Int.reduceNe, Int.reduceToNat, ir_usufructref21_Lose, c0, bel1, bel5, elems_av, elems_sl, boxQ_av, boxQ_ref, list_mk, ro_cmd, ro_rep, ro_nm, all_cmd, all_rep, all_nm, take_map, take_map1, List.length_map, Nat.zero_add]
  · rw [if_pos (by omega)] at hx
    have c1 := List.getElem?_eq_none_iff.1 hx
    have c2 : (x.c.list.length : Int) ≤ i := by omega
    simp -implicitDefEqProofs only [go_sem, reduceIte, reduceCtorEq, Nat.reduceEqDiff, Nat.reduceAdd, Nat.reduceSub, Nat.reduceLT, Nat.reduceLeDiff, Nat.reduceBEq, Nat.reduceMul, Nat.reduceBNe, Int.reduceEq, Int.reduceLT, Int.reduceLE, Int.reduceNe, Int.reduceToNat, ir_usufructref21_Lose, c0, c2, bel1, bel5, elems_av, elems_sl, boxQ_av, boxQ_ref, list_mk, ro_cmd, ro_rep, ro_nm, all_cmd, all_rep, all_nm, take_map, take_map1, List.length_map, Nat.zero_add]
theorem fn_rReplyNo (hE : Std E fns) (x : XW) (i : Int) (more : Bool) (hx : atI x.r.list i = none) : callP E f_usufructref21_Reply [.agg x.cells, vi i, vb more] = some (.tup [.agg x.cells, .agg (RepT.cells ⟨0, 0, false, 0, false⟩), vb false]) := by
  rw [hE.run rfl rfl]
  simp only [XW.cells, RepT.cells]
  unfold atI at hx
  by_cases c0 : i < 0
  · simp -implicitDefEqProofs only [go_sem, reduceIte, reduceCtorEq, Nat.reduceEqDiff, Nat.reduceAdd, Nat.reduceSub, Nat.reduceLT, Nat.reduceLeDiff, Nat.reduceBEq, Nat.reduceMul, Nat.reduceBNe, Int.reduceEq, Int.reduceLT, Int.reduceLE, Int.reduceNe, Int.reduceToNat, ir_usufructref21_Reply, c0, bel1, bel5, elems_av, elems_sl, boxQ_av, boxQ_ref, list_mk, ro_cmd, ro_rep, ro_nm, all_cmd, all_rep, all_nm, take_map, take_map1, List.length_map, Nat.zero_add]
  · rw [if_pos (by omega)] at hx
    have c1 := List.getElem?_eq_none_iff.1 hx
    have c2 : (x.r.list.length : Int) ≤ i := by omega
    simp -implicitDefEqProofs only [go_sem, reduceIte, reduceCtorEq, Nat.reduceEqDiff, Nat.reduceAdd, Nat.reduceSub, Nat.reduceLT, Nat.reduceLeDiff, Nat.reduceBEq, Nat.reduceMul, Nat.reduceBNe, Int.reduceEq, Int.reduceLT, Int.reduceLE, Int.reduceNe, Int.reduceToNat, ir_usufructref21_Reply, c0, c2, bel1, bel5, elems_av, elems_sl, boxQ_av, boxQ_ref, list_mk, ro_cmd, ro_rep, ro_nm, all_cmd, all_rep, all_nm, take_map, take_map1, List.length_map, Nat.zero_add]
theorem fn_rLose (hE : Std E fns) (x : XW) (n : Nat) {y : CmdT} (hx : atI x.c.list n = some y) (hb : x.c.list.length ≤ 50000) : callP E f_usufructref21_Lose [.agg x.cells, vi n] = some (.tup [.agg (XW.cells ⟨.mk (td x.c.list n), x.r, x.k⟩), vb true]) := by
  obtain ⟨n', e1, e2, hn⟩ := atI_some hx
  obtain rfl : n = n' := by omega
  have hd := fn_dropS hE x.c n hn (by omega)
  have c0 : ¬ (n : Int) < 0 := by omega
  have c2 : ¬ (x.c.list.length : Int) ≤ (n : Int) := by omega
  rw [hE.run rfl rfl]
  simp only [XW.cells, av_mk] at hd ⊢
  simp -implicitDefEqProofs only [go_sem, reduceIte, reduceCtorEq, Nat.reduceEqDiff, Nat.reduceAdd, Nat.reduceSub, Nat.reduceLT, Nat.reduceLeDiff, Nat.reduceBEq, Nat.reduceMul, Nat.reduceBNe, Int.reduceEq, Int.reduceLT, Int.reduceLE, Int.reduceNe, Int.reduceToNat, ir_usufructref21_Lose, c0, c2, hd, ross_td, bel1, bel5, elems_av, elems_sl, boxQ_av, boxQ_ref, list_mk, ro_cmd, ro_rep, ro_nm, all_cmd, all_rep, all_nm, take_map, take_map1, List.length_map, Nat.zero_add]
theorem fn_rReply (hE : Std E fns) (x : XW) (n : Nat) (more : Bool) {y : RepT} (hx : atI x.r.list n = some y) (hb : x.r.list.length ≤ 50000) : callP E f_usufructref21_Reply [.agg x.cells, vi n, vb more] = some (.tup [.agg (XW.cells ⟨x.c, if more = true then x.r else .mk (td x.r.list n), x.k⟩), .agg y.cells, vb true]) := by
  obtain ⟨n', q1, q2, hn⟩ := atI_some hx
  obtain rfl : n = n' := by omega
  obtain ⟨xc, xr, xk⟩ := x
  simp only at q2 hn hb ⊢
  have h6 := wrap_succ (i := n) (by omega)
  have c0 : ¬ (n : Int) < 0 := by omega
  have c0' : (0 : Int) ≤ (n : Int) := by omega
  have c1 : (n : Int) ≤ (xr.list.length : Int) := by omega
  have c2 : ¬ (xr.list.length : Int) ≤ (n : Int) := by omega
  have c3 : ((n + 1 : Nat) : Int) ≤ (xr.list.length : Int) := by omega
  have e1 : xr.sub 0 n = .mk (xr.list.take n) := by
    cases xr with
    | nil => simp [Sl.list] at hn
    | mk l => simp [Sl.sub, Sl.list]
  have e2 : xr.sub (n + 1) xr.list.length = .mk (xr.list.drop (n + 1)) := by
    cases xr with
    | nil => simp [Sl.list] at hn
    | mk l =>
      have : (l.drop (n + 1)).take (l.length - (n + 1)) = l.drop (n + 1) := List.take_of_length_le (by rw [List.length_drop]; omega)
      simp [Sl.sub, Sl.list, this]
  have g1 : (xr.list.take n).length * 40 ≤ 140737488355328 := by rw [List.length_take]; omega
  have g2 : ((xr.list.take n).length + (xr.list.drop (n + 1)).length) * 40 ≤ 140737488355328 := by rw [List.length_take, List.length_drop]; omega
  have ht : List.take ((xr.list.take n).length + (xr.list.drop (n + 1)).length) ((xr.list.take n).map RepT.cells ++ (xr.list.drop (n + 1)).map RepT.cells) = (td xr.list n).map RepT.cells := by
    unfold td
    rw [List.map_append]
    exact List.take_of_length_le (by simp)
  rw [hE.run rfl rfl]
  cases more with
  | true =>
    simp only [XW.cells, RepT.cells, if_true]
    simp -implicitDefEqProofs only [go_sem, reduceIte, reduceCtorEq, Nat.reduceEqDiff, Nat.reduceAdd, Nat.reduceSub, Nat.reduceLT, Nat.reduceLeDiff, Nat.reduceBEq, Nat.reduceMul, Nat.reduceBNe, Int.reduceEq, Int.reduceLT, Int.reduceLE, Int.reduceNe, Int.reduceToNat, ir_usufructref21_Reply, c0, c2, q2, RepT.cells, bel1, bel5, elems_av, elems_sl, boxQ_av, boxQ_ref, list_mk, ro_cmd, ro_rep, ro_nm, all_cmd, all_rep, all_nm, take_map, take_map1, List.length_map, Nat.zero_add]
  | false =>
    simp only [XW.cells, RepT.cells, Bool.false_eq_true, if_false]
    simp -implicitDefEqProofs only [go_sem, reduceIte, reduceCtorEq, Nat.reduceEqDiff, Nat.reduceAdd, Nat.reduceSub, Nat.reduceLT, Nat.reduceLeDiff, Nat.reduceBEq, Nat.reduceMul, Nat.reduceBNe, Int.reduceEq, Int.reduceLT, Int.reduceLE, Int.reduceNe, Int.reduceToNat, ir_usufructref21_Reply, c0, c0', c1, c2, c3, q2, h6, e1, e2, g1, g2, RepT.cells, bel1, bel5, elems_av, elems_sl, boxQ_av, boxQ_ref, list_mk, ro_cmd, ro_rep, ro_nm, all_cmd, all_rep, all_nm, take_map, take_map1, List.length_map, Nat.zero_add, ht]
    rw [if_pos (Int.le_refl _)]
    rfl
set_option maxHeartbeats 2000000 in
theorem fn_rDeliver (hE : Std E fns) (x : XW) (n : Nat) (good more : Bool) {y : CmdT} (hx : atI x.c.list n = some y) (hb : x.c.list.length ≤ 50000 ∧ x.r.list.length ≤ 50000 ∧ x.k.list.length ≤ 50000) : callP E f_usufructref21_Deliver [.agg x.cells, vi n, vb good, vb more] = some (.tup [.agg (x.deliv n y good more).cells, vb true]) := by
  obtain ⟨n', q1, q2, hn⟩ := atI_some hx
  obtain rfl : n = n' := by omega
  have hd := fn_dropS hE x.c n hn (by omega)
  have c0 : ¬ (n : Int) < 0 := by omega
  have c0' : (0 : Int) ≤ (n : Int) := by omega
  have c2 : ¬ (x.c.list.length : Int) ≤ (n : Int) := by omega
  have g1 : x.r.list.length * 40 ≤ 140737488355328 := by omega
  have g2 : (x.r.list.length + 1) * 40 ≤ 140737488355328 := by omega
  have g3 : x.k.list.length * 16 ≤ 140737488355328 := by omega
  have g4 : (x.k.list.length + 1) * 16 ≤ 140737488355328 := by omega
  have hH := fn_Has hE x (by omega) y.key
  unfold XW.deliv keysD
  by_cases hm : (good && !hasK y.key x.k.list) = true
  · rw [if_pos hm, if_pos hm]
    simp only [Bool.and_eq_true, Bool.not_eq_true'] at hm
    obtain ⟨rfl, hk⟩ := hm
    rw [hk] at hH
    cases more with
    | true =>
      have hH2 := fn_Has hE ⟨x.c, x.r, .mk (x.k.list ++ [y.key])⟩ (by simp only [list_mk, List.length_append, List.length_cons, List.length_nil]; omega) y.key
      simp only [list_mk] at hH2
      generalize hasK y.key (x.k.list ++ [y.key]) = b at hH2 ⊢
      rw [if_pos rfl, hE.run rfl rfl]
      simp only [XW.cells, nmC, RepT.cells, ansOf, av_mk, List.map_append, List.map_cons, List.map_nil] at hH hH2 ⊢
      simp -implicitDefEqProofs only [go_sem, reduceIte, reduceCtorEq, Nat.reduceEqDiff, Nat.reduceAdd, Nat.reduceSub, Nat.reduceLT, Nat.reduceLeDiff, Nat.reduceBEq, Nat.reduceMul, Nat.reduceBNe, Int.reduceEq, Int.reduceLT, Int.reduceLE, Int.reduceNe, Int.reduceToNat, ir_usufructref21_Deliver, c0, c0', c2, q2, hH, hH2, g1, g2, g3, g4, CmdT.cells, RepT.cells, nmC, bel1, bel5, elems_av, elems_sl, boxQ_av, boxQ_ref, list_mk, ro_cmd, ro_rep, ro_nm, all_cmd, all_rep, all_nm, take_map, take_map1, List.length_map, Nat.zero_add]
    | false =>
      have hH2 := fn_Has hE ⟨.mk (td x.c.list n), x.r, .mk (x.k.list ++ [y.key])⟩ (by simp only [list_mk, List.length_append, List.length_cons, List.length_nil]; omega) y.key
      simp only [list_mk] at hH2
      generalize hasK y.key (x.k.list ++ [y.key]) = b at hH2 ⊢
      rw [if_neg (by simp), hE.run rfl rfl]
      simp only [XW.cells, nmC, RepT.cells, ansOf, av_mk, List.map_append, List.map_cons, List.map_nil] at hd hH hH2 ⊢
      simp -implicitDefEqProofs only [go_sem, reduceIte, reduceCtorEq, Nat.reduceEqDiff, Nat.reduceAdd, Nat.reduceSub, Nat.reduceLT, Nat.reduceLeDiff, Nat.reduceBEq, Nat.reduceMul, Nat.reduceBNe, Int.reduceEq, Int.reduceLT, Int.reduceLE, Int.reduceNe, Int.reduceToNat, ir_usufructref21_Deliver, c0, c0', c2, q2, hd, hH, hH2, g1, g2, g3, g4, ross_td, CmdT.cells, RepT.cells, nmC, bel1, bel5, elems_av, elems_sl, boxQ_av, boxQ_ref, list_mk, ro_cmd, ro_rep, ro_nm, all_cmd, all_rep, all_nm, take_map, take_map1, List.length_map, Nat.zero_add]
  · rw [if_neg hm, if_neg hm]
    have hgs : good = false ∨ hasK y.key x.k.list = true := by
      cases good with
      | false => exact .inl rfl
      | true => exact .inr (by simpa using hm)
    cases more with
    | true =>
      generalize hasK y.key x.k.list = b at hH hgs ⊢
      rw [if_pos rfl, hE.run rfl rfl]
      simp only [XW.cells, RepT.cells, ansOf, av_mk, List.map_append, List.map_cons, List.map_nil] at hH ⊢
      rcases hgs with rfl | rfl
      · simp -implicitDefEqProofs only [go_sem, reduceIte, reduceCtorEq, Nat.reduceEqDiff, Nat.reduceAdd, Nat.reduceSub, Nat.reduceLT, Nat.reduceLeDiff, Nat.reduceBEq, Nat.reduceMul, Nat.reduceBNe, Int.reduceEq, Int.reduceLT, Int.reduceLE, Int.reduceNe, Int.reduceToNat, ir_usufructref21_Deliver, c0, c0', c2, q2, hH, g1, g2, CmdT.cells, RepT.cells, bel1, bel5, elems_av, elems_sl, boxQ_av, boxQ_ref, list_mk, ro_cmd, ro_rep, ro_nm, all_cmd, all_rep, all_nm, take_map, take_map1, List.length_map, Nat.zero_add]
      · cases good
        · simp -implicitDefEqProofs only [go_sem, reduceIte, reduceCtorEq, Nat.reduceEqDiff, Nat.reduceAdd, Nat.reduceSub, Nat.reduceLT, Nat.reduceLeDiff, Nat.reduceBEq, Nat.reduceMul, Nat.reduceBNe, Int.reduceEq, Int.reduceLT, Int.reduceLE, Int.reduceNe, Int.reduceToNat, ir_usufructref21_Deliver, c0, c0', c2, q2, hH, g1, g2, CmdT.cells, RepT.cells, bel1, bel5, elems_av, elems_sl, boxQ_av, boxQ_ref, list_mk, ro_cmd, ro_rep, ro_nm, all_cmd, all_rep, all_nm, take_map, take_map1, List.length_map, Nat.zero_add]
        · simp -implicitDefEqProofs only [go_sem, reduceIte, reduceCtorEq, Nat.reduceEqDiff, Nat.reduceAdd, Nat.reduceSub, Nat.reduceLT, Nat.reduceLeDiff, Nat.reduceBEq, Nat.reduceMul, Nat.reduceBNe, Int.reduceEq, Int.reduceLT, Int.reduceLE, Int.reduceNe, Int.reduceToNat, ir_usufructref21_Deliver, c0, c0', c2, q2, hH, g1, g2, CmdT.cells, RepT.cells, bel1, bel5, elems_av, elems_sl, boxQ_av, boxQ_ref, list_mk, ro_cmd, ro_rep, ro_nm, all_cmd, all_rep, all_nm, take_map, take_map1, List.length_map, Nat.zero_add]
    | false =>
      have hH2 := fn_Has hE ⟨.mk (td x.c.list n), x.r, x.k⟩ (by simp only; omega) y.key
      simp only at hH2
      generalize hasK y.key x.k.list = b at hH hH2 hgs ⊢
      rw [if_neg (by simp), hE.run rfl rfl]
      simp only [XW.cells, RepT.cells, ansOf, av_mk, List.map_append, List.map_cons, List.map_nil] at hd hH hH2 ⊢
      rcases hgs with rfl | rfl
      · simp -implicitDefEqProofs only [go_sem, reduceIte, reduceCtorEq, Nat.reduceEqDiff, Nat.reduceAdd, Nat.reduceSub, Nat.reduceLT, Nat.reduceLeDiff, Nat.reduceBEq, Nat.reduceMul, Nat.reduceBNe, Int.reduceEq, Int.reduceLT, Int.reduceLE, Int.reduceNe, Int.reduceToNat, ir_usufructref21_Deliver, c0, c0', c2, q2, hd, hH, hH2, g1, g2, ross_td, CmdT.cells, RepT.cells, bel1, bel5, elems_av, elems_sl, boxQ_av, boxQ_ref, list_mk, ro_cmd, ro_rep, ro_nm, all_cmd, all_rep, all_nm, take_map, take_map1, List.length_map, Nat.zero_add]
      · cases good
        · simp -implicitDefEqProofs only [go_sem, reduceIte, reduceCtorEq, Nat.reduceEqDiff, Nat.reduceAdd, Nat.reduceSub, Nat.reduceLT, Nat.reduceLeDiff, Nat.reduceBEq, Nat.reduceMul, Nat.reduceBNe, Int.reduceEq, Int.reduceLT, Int.reduceLE, Int.reduceNe, Int.reduceToNat, ir_usufructref21_Deliver, c0, c0', c2, q2, hd, hH, hH2, g1, g2, ross_td, CmdT.cells, RepT.cells, bel1, bel5, elems_av, elems_sl, boxQ_av, boxQ_ref, list_mk, ro_cmd, ro_rep, ro_nm, all_cmd, all_rep, all_nm, take_map, take_map1, List.length_map, Nat.zero_add]
        · simp -implicitDefEqProofs only [go_sem, reduceIte, reduceCtorEq, Nat.reduceEqDiff, Nat.reduceAdd, Nat.reduceSub, Nat.reduceLT, Nat.reduceLeDiff, Nat.reduceBEq, Nat.reduceMul, Nat.reduceBNe, Int.reduceEq, Int.reduceLT, Int.reduceLE, Int.reduceNe, Int.reduceToNat, ir_usufructref21_Deliver, c0, c0', c2, q2, hd, hH, hH2, g1, g2, ross_td, CmdT.cells, RepT.cells, bel1, bel5, elems_av, elems_sl, boxQ_av, boxQ_ref, list_mk, ro_cmd, ro_rep, ro_nm, all_cmd, all_rep, all_nm, take_map, take_map1, List.length_map, Nat.zero_add]
end Go.Proofs.YtbpndomfipdhdaaDoor.Ev
