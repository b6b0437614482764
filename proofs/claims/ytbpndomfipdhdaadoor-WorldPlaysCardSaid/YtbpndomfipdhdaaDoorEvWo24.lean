/-
  A world: the same, the whole.
-/
import Derived.Test.YtbpndomfipdhdaaDoorEvWo23
set_option linter.unusedVariables false
set_option linter.unusedSimpArgs false
namespace Go.Proofs.YtbpndomfipdhdaaDoor.Ev
attribute [local congr] bind_congr_head
attribute [local go_sem] opd_t opd_c opd_g opd_f opds_nil opds_cons get_cons put_some put_none keep_nil keepC_s keepC_n keep_cons runs_nil runs_cons run_op run_opr run_call run_gand run_gor run_gif seqK_norm seqK_exit seqK_ret blkK_norm blkK_exit blkK_ret runL_skip runL_exit runL_ret runL_items runL_seq runL_cond runL_block runL_loop fin_bind finK_norm finK_ret rvs_nil rvs_cons rv_tmp rv_cell tupOf_one tupOf_nil tupOf_two ev_mov ev_pick ev_alloc ev_box ev_build parts_nil parts_cons fills_nil fills_cons ev_bsl ev_bslo ev_load ev_store ev_nilck ev_bin ev_binb ev_aeq ev_un ev_i2i ev_i2t ev_isnilI nilIF ev_s2b ev_ext ev_fld ev_idxs ev_fa ev_ias ev_len ev_lens ev_s2s ev_mkf ev_rng ev_nxt ev_app bOf_s pvOf_s agOf_s tpOf_s iOf_s sOf_s ite_bind Option.bind_some Option.bind_none if_true if_false ite_true ite_false argEnv_nil argEnv_cons len_av elems_av ias_av cells_av tuple_av AV.tuple AV.cells faF ldAt liveRef aggOf nilckF binV binI binS binB unV Bool.not_true Bool.not_false List.length_nil List.length_cons List.nil_append List.cons_append List.append_nil List.getElem?_cons_zero List.getElem?_cons_succ List.drop_zero List.drop_succ_cons List.drop_nil List.take_zero List.take_succ_cons List.take_nil List.set_cons_zero List.set_cons_succ compact_same compact_new closedB nodupB envIds ids0 upto visit pos sel AV.ids idss idsss Ob.ids AV.ren rens renss Ob.ren renEnv AV.snap snaps stAt okSt putCells List.all_nil List.all_cons List.contains_nil List.contains_cons Bool.and_true Bool.true_and Bool.and_false Bool.false_and Bool.or_true Bool.true_or Bool.or_false Bool.false_or decide_eq_true_eq decide_true decide_false beq_iff_eq bne_iff_ne beq_self_eq_true Bool.not_eq_true' Bool.false_eq_true eq_self and_self and_true true_and and_false false_and or_true true_or or_false false_or not_true_eq_false not_false_eq_true ne_eq Nat.zero_add Nat.add_zero Nat.le_refl Nat.not_lt_zero Nat.lt_irrefl Nat.zero_le Int.toNat_natCast gt_iff_lt ge_iff_le Int.lt_irrefl Int.natCast_nonneg txt_eq get_nil appF elems belows AV.under AV.flat flats List.length_map List.map_append List.map_cons List.map_nil List.length_append take_map_all List.flatten_cons List.flatten_nil bld_nil imp_false false_imp_iff false_implies true_implies implies_true decide_eq_false_iff_not Nat.one_mul Nat.mul_one idsss_app renss_app belowss_app ev_mn ev_mx ev_isnils ev_sls ev_slx evo_none evo_some vals minV maxV minF maxF backId List.getElem?_nil putAll Option.all_none Option.all_some Option.isSome_some intOf aszI compactV_same compactV_new callP_any callQ_eq callN_any boxQ AV.id? ids_avR ren_av under_av snap_av renss_mapf belowss_mapf idsss_mapf isnilsF List.length_eq_zero_iff int_beq int_bne decide_not slx_av Int.toNat_zero ev_mkm ev_lk ev_mup ev_mdl ev_lenm ev_isnilm mpOf_s mapAt_s mapOf_nil mapOf_mp isnilm_nil isnilm_mp lkR Option.getD_some Option.getD_none Option.isSome_none Prim.rdo ev_snp snp_own snp_v exQ_nil exQ_cons exA_ref same_nil same_box same_row same_map sameL_nil sameL_cons sameA_int sameA_bool sameA_str sameA_slice sameA_map sameA_ptr sameA_own sameA_ref sameA_mp callB_eq
variable {E : Prog}
theorem av_nl {α : Type} (k : Nat) (f : α → List AV) : (Sl.nil : Sl α).av k f = .v (.slice none 0 0) := rfl
def Wd.cs : Wd → Sl CmdT
  | .w0 => .nil
  | w => .mk w.c
def Wd.rs : Wd → Sl RepT
  | .w2 _ _ _ r => .mk r
  | .w3 _ _ _ _ r _ => .mk r
  | _ => .nil
theorem cs_c (w : Wd) : w.cs.list = w.c := by cases w <;> rfl
theorem rs_r (w : Wd) : w.rs.list = w.r := by cases w <;> rfl
theorem fn_same (hE : Std E fns) (w : Wd) (hw : w.ok) (hb : Bd w) (x : XW) (hc : x.c.list = w.c) (hr : x.r.list = w.r) (hk : x.k.list = w.k) :
    callL E f_usufructlaw21_same [.ref 0 0 0 0, .agg x.cells] [] w.sto = some (vb true, w.sto) := by
  have hC := fn_Commands hE w hw (by omega)
  have hR := fn_Replies hE w hw (by omega)
  have hK := fn_Keys hE w hw (by omega)
  have hD := fun s => fn_Done hE w s
  have l2 := fun (n : Nat) (st : Store) (hst : st[n]? = some (.box x.cells)) (n0 : Nat) (hn0 : n0 = st.length) => same_L2 (E := E) x w.c hc (by omega) n st hst n0 hn0 w.cs (cs_c w) w.rs w.ks (loopL_eq (IR.runL E.glob (callL E) [] ir_usufructlaw21_same_L2) (compact [] n0 [0, 3, 5, 6, 7, 8])) w.c.length 0 (by omega)
  have l1 := fun (n : Nat) (st : Store) (hst : st[n]? = some (.box x.cells)) (n0 : Nat) (hn0 : n0 = st.length) => same_L1 (E := E) x w.r hr (by omega) n st hst n0 hn0 w.rs (rs_r w) w.ks (loopL_eq (IR.runL E.glob (callL E) [] ir_usufructlaw21_same_L1) (compact [] n0 [0, 3, 6, 7, 9])) w.r.length 0 (by omega)
  have l0 := fun (n : Nat) (st : Store) (hst : st[n]? = some (.box x.cells)) (n0 : Nat) (hn0 : n0 = st.length) (hD : ∀ s, callM (callL E) .N (.fn f_world_World_Done []) [.ref 0 0 0 0, vs s] [] st = some (vb (hasK s w.k), st)) => same_L0 (E := E) x w.k hk (by omega) n st hst n0 hn0 w.ks (ks_k hw) hD (loopL_eq (IR.runL E.glob (callL E) [] ir_usufructlaw21_same_L0) (compact [] n0 [0, 3, 7, 10])) w.k.length 0 (by omega)
  obtain ⟨xc, xr, xk⟩ := x
  simp only at hc hr hk
  rw [hE.runN rfl rfl]
  cases w with
  | w0 =>
    have hDD : ∀ s, callM (callL E) .N (.fn f_world_World_Done []) [.ref 0 0 0 0, vs s] [] ((Wd.w0).sto ++ [.box [xc.av 6 CmdT.cells, xr.av 5 RepT.cells, xk.av 1 nmC]]) = some (vb (hasK s (Wd.w0).k), ((Wd.w0).sto ++ [.box [xc.av 6 CmdT.cells, xr.av 5 RepT.cells, xk.av 1 nmC]])) := fun s => by
      have hDs := hD s
      simp only [sto0, sto1, sto2, sto3, stom, rowC, rowR, rowK, List.cons_append, List.nil_append, List.append_nil, List.length_cons, List.length_nil, Nat.zero_add, Nat.reduceAdd] at hDs ⊢
      simp -implicitDefEqProofs only [go_sem, reduceIte, reduceCtorEq, Nat.reduceEqDiff, Nat.reduceAdd, Nat.reduceSub, Nat.reduceLT, Nat.reduceLeDiff, Nat.reduceBEq, Nat.reduceMul, Nat.reduceBNe, Int.reduceEq, Int.reduceLT, Int.reduceLE, Int.reduceNe, Int.reduceToNat, hDs, kmap_ids, kmap_ren, ro_cmd, ro_rep, ro_nm, ro_act]
    have m2 := l2 1 ((Wd.w0).sto ++ [.box [xc.av 6 CmdT.cells, xr.av 5 RepT.cells, xk.av 1 nmC]]) rfl 2 rfl
    have m1 := l1 1 ((Wd.w0).sto ++ [.box [xc.av 6 CmdT.cells, xr.av 5 RepT.cells, xk.av 1 nmC]]) rfl 2 rfl
    have m0 := l0 1 ((Wd.w0).sto ++ [.box [xc.av 6 CmdT.cells, xr.av 5 RepT.cells, xk.av 1 nmC]]) rfl 2 rfl hDD
    clear l2 l1 l0 hDD hD
    simp only [XW.cells, copyO, Wd.hasC, Wd.hasR, Wd.hasKs, Wd.c, Wd.r, Wd.k, Wd.cs, Wd.rs, Wd.ks, sto0, sto1, sto2, sto3, stom, rowC, rowR, rowK, List.cons_append, List.nil_append, List.append_nil, List.length_cons, List.length_nil, Nat.zero_add, Nat.reduceAdd, if_true, if_false, Bool.false_eq_true, av_mk, av_nl, Int.natCast_zero] at hC hR hK m2 m1 m0 hc hr hk ⊢
    simp -implicitDefEqProofs only [go_sem, reduceIte, reduceCtorEq, Nat.reduceEqDiff, Nat.reduceAdd, Nat.reduceSub, Nat.reduceLT, Nat.reduceLeDiff, Nat.reduceBEq, Nat.reduceMul, Nat.reduceBNe, Int.reduceEq, Int.reduceLT, Int.reduceLE, Int.reduceNe, Int.reduceToNat, ir_usufructlaw21_same, hC, hR, hK, m2, m1, m0, hc, hr, hk, kmap_ids, kmap_ren, ro_cmd, ro_rep, ro_nm, ro_act, take_map, lenA_nil, len_sl, List.length_map, List.length_nil, Int.natCast_zero]
  | w1 gc c =>
    have hDD : ∀ s, callM (callL E) .N (.fn f_world_World_Done []) [.ref 0 0 0 0, vs s] [] ((Wd.w1 gc c).sto ++ [.box [xc.av 6 CmdT.cells, xr.av 5 RepT.cells, xk.av 1 nmC], .row 6 1 (c.map CmdT.cells) true]) = some (vb (hasK s (Wd.w1 gc c).k), ((Wd.w1 gc c).sto ++ [.box [xc.av 6 CmdT.cells, xr.av 5 RepT.cells, xk.av 1 nmC], .row 6 1 (c.map CmdT.cells) true])) := fun s => by
      have hDs := hD s
      simp only [sto0, sto1, sto2, sto3, stom, rowC, rowR, rowK, List.cons_append, List.nil_append, List.append_nil, List.length_cons, List.length_nil, Nat.zero_add, Nat.reduceAdd] at hDs ⊢
      simp -implicitDefEqProofs only [go_sem, reduceIte, reduceCtorEq, Nat.reduceEqDiff, Nat.reduceAdd, Nat.reduceSub, Nat.reduceLT, Nat.reduceLeDiff, Nat.reduceBEq, Nat.reduceMul, Nat.reduceBNe, Int.reduceEq, Int.reduceLT, Int.reduceLE, Int.reduceNe, Int.reduceToNat, hDs, kmap_ids, kmap_ren, ro_cmd, ro_rep, ro_nm, ro_act]
    have m2 := l2 2 ((Wd.w1 gc c).sto ++ [.box [xc.av 6 CmdT.cells, xr.av 5 RepT.cells, xk.av 1 nmC], .row 6 1 (c.map CmdT.cells) true]) rfl 4 rfl
    have m1 := l1 2 ((Wd.w1 gc c).sto ++ [.box [xc.av 6 CmdT.cells, xr.av 5 RepT.cells, xk.av 1 nmC], .row 6 1 (c.map CmdT.cells) true]) rfl 4 rfl
    have m0 := l0 2 ((Wd.w1 gc c).sto ++ [.box [xc.av 6 CmdT.cells, xr.av 5 RepT.cells, xk.av 1 nmC], .row 6 1 (c.map CmdT.cells) true]) rfl 4 rfl hDD
    clear l2 l1 l0 hDD hD
    simp only [XW.cells, copyO, Wd.hasC, Wd.hasR, Wd.hasKs, Wd.c, Wd.r, Wd.k, Wd.cs, Wd.rs, Wd.ks, sto0, sto1, sto2, sto3, stom, rowC, rowR, rowK, List.cons_append, List.nil_append, List.append_nil, List.length_cons, List.length_nil, Nat.zero_add, Nat.reduceAdd, if_true, if_false, Bool.false_eq_true, av_mk, av_nl, Int.natCast_zero] at hC hR hK m2 m1 m0 hc hr hk ⊢
    simp -implicitDefEqProofs only [go_sem, reduceIte, reduceCtorEq, Nat.reduceEqDiff, Nat.reduceAdd, Nat.reduceSub, Nat.reduceLT, Nat.reduceLeDiff, Nat.reduceBEq, Nat.reduceMul, Nat.reduceBNe, Int.reduceEq, Int.reduceLT, Int.reduceLE, Int.reduceNe, Int.reduceToNat, ir_usufructlaw21_same, hC, hR, hK, m2, m1, m0, hc, hr, hk, kmap_ids, kmap_ren, ro_cmd, ro_rep, ro_nm, ro_act, take_map, lenA_nil, len_sl, List.length_map, List.length_nil, Int.natCast_zero]
  | w2 gc gr c r2 =>
    have hDD : ∀ s, callM (callL E) .N (.fn f_world_World_Done []) [.ref 0 0 0 0, vs s] [] ((Wd.w2 gc gr c r2).sto ++ [.box [xc.av 6 CmdT.cells, xr.av 5 RepT.cells, xk.av 1 nmC], .row 6 1 (c.map CmdT.cells) true, .row 5 1 (r2.map RepT.cells) true]) = some (vb (hasK s (Wd.w2 gc gr c r2).k), ((Wd.w2 gc gr c r2).sto ++ [.box [xc.av 6 CmdT.cells, xr.av 5 RepT.cells, xk.av 1 nmC], .row 6 1 (c.map CmdT.cells) true, .row 5 1 (r2.map RepT.cells) true])) := fun s => by
      have hDs := hD s
      simp only [sto0, sto1, sto2, sto3, stom, rowC, rowR, rowK, List.cons_append, List.nil_append, List.append_nil, List.length_cons, List.length_nil, Nat.zero_add, Nat.reduceAdd] at hDs ⊢
      simp -implicitDefEqProofs only [go_sem, reduceIte, reduceCtorEq, Nat.reduceEqDiff, Nat.reduceAdd, Nat.reduceSub, Nat.reduceLT, Nat.reduceLeDiff, Nat.reduceBEq, Nat.reduceMul, Nat.reduceBNe, Int.reduceEq, Int.reduceLT, Int.reduceLE, Int.reduceNe, Int.reduceToNat, hDs, kmap_ids, kmap_ren, ro_cmd, ro_rep, ro_nm, ro_act]
    have m2 := l2 3 ((Wd.w2 gc gr c r2).sto ++ [.box [xc.av 6 CmdT.cells, xr.av 5 RepT.cells, xk.av 1 nmC], .row 6 1 (c.map CmdT.cells) true, .row 5 1 (r2.map RepT.cells) true]) rfl 6 rfl
    have m1 := l1 3 ((Wd.w2 gc gr c r2).sto ++ [.box [xc.av 6 CmdT.cells, xr.av 5 RepT.cells, xk.av 1 nmC], .row 6 1 (c.map CmdT.cells) true, .row 5 1 (r2.map RepT.cells) true]) rfl 6 rfl
    have m0 := l0 3 ((Wd.w2 gc gr c r2).sto ++ [.box [xc.av 6 CmdT.cells, xr.av 5 RepT.cells, xk.av 1 nmC], .row 6 1 (c.map CmdT.cells) true, .row 5 1 (r2.map RepT.cells) true]) rfl 6 rfl hDD
    clear l2 l1 l0 hDD hD
    simp only [XW.cells, copyO, Wd.hasC, Wd.hasR, Wd.hasKs, Wd.c, Wd.r, Wd.k, Wd.cs, Wd.rs, Wd.ks, sto0, sto1, sto2, sto3, stom, rowC, rowR, rowK, List.cons_append, List.nil_append, List.append_nil, List.length_cons, List.length_nil, Nat.zero_add, Nat.reduceAdd, if_true, if_false, Bool.false_eq_true, av_mk, av_nl, Int.natCast_zero] at hC hR hK m2 m1 m0 hc hr hk ⊢
    simp -implicitDefEqProofs only [go_sem, reduceIte, reduceCtorEq, Nat.reduceEqDiff, Nat.reduceAdd, Nat.reduceSub, Nat.reduceLT, Nat.reduceLeDiff, Nat.reduceBEq, Nat.reduceMul, Nat.reduceBNe, Int.reduceEq, Int.reduceLT, Int.reduceLE, Int.reduceNe, Int.reduceToNat, ir_usufructlaw21_same, hC, hR, hK, m2, m1, m0, hc, hr, hk, kmap_ids, kmap_ren, ro_cmd, ro_rep, ro_nm, ro_act, take_map, lenA_nil, len_sl, List.length_map, List.length_nil, Int.natCast_zero]
  | w3 gc gr gk c r2 k =>
    have hDD : ∀ s, callM (callL E) .N (.fn f_world_World_Done []) [.ref 0 0 0 0, vs s] [] ((Wd.w3 gc gr gk c r2 k).sto ++ [.box [xc.av 6 CmdT.cells, xr.av 5 RepT.cells, xk.av 1 nmC], .row 6 1 (c.map CmdT.cells) true, .row 5 1 (r2.map RepT.cells) true, .row 1 1 (k.map nmC) true]) = some (vb (hasK s (Wd.w3 gc gr gk c r2 k).k), ((Wd.w3 gc gr gk c r2 k).sto ++ [.box [xc.av 6 CmdT.cells, xr.av 5 RepT.cells, xk.av 1 nmC], .row 6 1 (c.map CmdT.cells) true, .row 5 1 (r2.map RepT.cells) true, .row 1 1 (k.map nmC) true])) := fun s => by
      have hDs := hD s
      simp only [sto0, sto1, sto2, sto3, stom, rowC, rowR, rowK, List.cons_append, List.nil_append, List.append_nil, List.length_cons, List.length_nil, Nat.zero_add, Nat.reduceAdd] at hDs ⊢
      simp -implicitDefEqProofs only [go_sem, reduceIte, reduceCtorEq, Nat.reduceEqDiff, Nat.reduceAdd, Nat.reduceSub, Nat.reduceLT, Nat.reduceLeDiff, Nat.reduceBEq, Nat.reduceMul, Nat.reduceBNe, Int.reduceEq, Int.reduceLT, Int.reduceLE, Int.reduceNe, Int.reduceToNat, hDs, kmap_ids, kmap_ren, ro_cmd, ro_rep, ro_nm, ro_act]
    have m2 := l2 5 ((Wd.w3 gc gr gk c r2 k).sto ++ [.box [xc.av 6 CmdT.cells, xr.av 5 RepT.cells, xk.av 1 nmC], .row 6 1 (c.map CmdT.cells) true, .row 5 1 (r2.map RepT.cells) true, .row 1 1 (k.map nmC) true]) rfl 9 rfl
    have m1 := l1 5 ((Wd.w3 gc gr gk c r2 k).sto ++ [.box [xc.av 6 CmdT.cells, xr.av 5 RepT.cells, xk.av 1 nmC], .row 6 1 (c.map CmdT.cells) true, .row 5 1 (r2.map RepT.cells) true, .row 1 1 (k.map nmC) true]) rfl 9 rfl
    have m0 := l0 5 ((Wd.w3 gc gr gk c r2 k).sto ++ [.box [xc.av 6 CmdT.cells, xr.av 5 RepT.cells, xk.av 1 nmC], .row 6 1 (c.map CmdT.cells) true, .row 5 1 (r2.map RepT.cells) true, .row 1 1 (k.map nmC) true]) rfl 9 rfl hDD
    clear l2 l1 l0 hDD hD
    simp only [XW.cells, copyO, Wd.hasC, Wd.hasR, Wd.hasKs, Wd.c, Wd.r, Wd.k, Wd.cs, Wd.rs, Wd.ks, sto0, sto1, sto2, sto3, stom, rowC, rowR, rowK, List.cons_append, List.nil_append, List.append_nil, List.length_cons, List.length_nil, Nat.zero_add, Nat.reduceAdd, if_true, if_false, Bool.false_eq_true, av_mk, av_nl, Int.natCast_zero] at hC hR hK m2 m1 m0 hc hr hk ⊢
    simp -implicitDefEqProofs only [go_sem, reduceIte, reduceCtorEq, Nat.reduceEqDiff, Nat.reduceAdd, Nat.reduceSub, Nat.reduceLT, Nat.reduceLeDiff, Nat.reduceBEq, Nat.reduceMul, Nat.reduceBNe, Int.reduceEq, Int.reduceLT, Int.reduceLE, Int.reduceNe, Int.reduceToNat, ir_usufructlaw21_same, hC, hR, hK, m2, m1, m0, hc, hr, hk, kmap_ids, kmap_ren, ro_cmd, ro_rep, ro_nm, ro_act, take_map, lenA_nil, len_sl, List.length_map, List.length_nil, Int.natCast_zero]
  | wm gc gk c k => exact absurd rfl (hw _ _ _ _)
end Go.Proofs.YtbpndomfipdhdaaDoor.Ev
