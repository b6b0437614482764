/-
  A world: the document's deeds.
-/
import Derived.Test.YtbpndomfipdhdaaDoorEvWo19
set_option linter.unusedVariables false
set_option linter.unusedSimpArgs false
namespace Go.Proofs.YtbpndomfipdhdaaDoor.Ev
attribute [local congr] bind_congr_head
attribute [local go_sem] opd_t opd_c opd_g opd_f opds_nil opds_cons get_cons put_some put_none keep_nil keepC_s keepC_n keep_cons runs_nil runs_cons run_op run_opr run_call run_gand run_gor run_gif seqK_norm seqK_exit seqK_ret blkK_norm blkK_exit blkK_ret runL_skip runL_exit runL_ret runL_items runL_seq runL_cond runL_block runL_loop fin_bind finK_norm finK_ret rvs_nil rvs_cons rv_tmp rv_cell tupOf_one tupOf_nil tupOf_two ev_mov ev_pick ev_alloc ev_box ev_build parts_nil parts_cons fills_nil fills_cons ev_bsl ev_bslo ev_load ev_store ev_nilck ev_bin ev_binb ev_aeq ev_un ev_i2i ev_i2t ev_isnilI nilIF ev_s2b ev_ext ev_fld ev_idxs ev_fa ev_ias ev_len ev_lens ev_s2s ev_mkf ev_rng ev_nxt ev_app bOf_s pvOf_s agOf_s tpOf_s iOf_s sOf_s ite_bind Option.bind_some Option.bind_none if_true if_false ite_true ite_false argEnv_nil argEnv_cons len_av elems_av ias_av cells_av tuple_av AV.tuple AV.cells faF ldAt liveRef aggOf nilckF binV binI binS binB unV Bool.not_true Bool.not_false List.length_nil List.length_cons List.nil_append List.cons_append List.append_nil List.getElem?_cons_zero List.getElem?_cons_succ List.drop_zero List.drop_succ_cons List.drop_nil List.take_zero List.take_succ_cons List.take_nil List.set_cons_zero List.set_cons_succ compact_same compact_new closedB nodupB envIds ids0 upto visit pos sel AV.ids idss idsss Ob.ids AV.ren rens renss Ob.ren renEnv AV.snap snaps stAt okSt putCells List.all_nil List.all_cons List.contains_nil List.contains_cons Bool.and_true Bool.true_and Bool.and_false Bool.false_and Bool.or_true Bool.true_or Bool.or_false Bool.false_or decide_eq_true_eq decide_true decide_false beq_iff_eq bne_iff_ne beq_self_eq_true Bool.not_eq_true' Bool.false_eq_true eq_self and_self and_true true_and and_false false_and or_true true_or or_false false_or not_true_eq_false not_false_eq_true ne_eq Nat.zero_add Nat.add_zero Nat.le_refl Nat.not_lt_zero Nat.lt_irrefl Nat.zero_le Int.toNat_natCast gt_iff_lt ge_iff_le Int.lt_irrefl Int.natCast_nonneg txt_eq get_nil appF belows AV.under AV.flat flats List.length_map List.map_append List.map_cons List.map_nil List.length_append take_map_all List.flatten_cons List.flatten_nil bld_nil imp_false false_imp_iff false_implies true_implies implies_true decide_eq_false_iff_not Nat.one_mul Nat.mul_one idsss_app renss_app belowss_app ev_mn ev_mx ev_isnils ev_sls ev_slx evo_none evo_some vals minV maxV minF maxF backId List.getElem?_nil putAll Option.all_none Option.all_some Option.isSome_some intOf aszI compactV_same compactV_new callP_any callQ_eq callN_any boxQ AV.id? ids_avR ren_av under_av snap_av renss_mapf belowss_mapf idsss_mapf isnilsF List.length_eq_zero_iff int_beq int_bne decide_not slx_av Int.toNat_zero ev_mkm ev_lk ev_mup ev_mdl ev_lenm ev_isnilm mpOf_s mapAt_s mapOf_nil mapOf_mp isnilm_nil isnilm_mp lkR Option.getD_some Option.getD_none Option.isSome_none Prim.rdo ev_snp snp_own snp_v exQ_nil exQ_cons exA_ref same_nil same_box same_row same_map sameL_nil sameL_cons sameA_int sameA_bool sameA_str sameA_slice sameA_map sameA_ptr sameA_own sameA_ref sameA_mp callB_eq
variable {E : Prog}
theorem elems_sl (st : Store) (k : Nat) (xs : List (List AV)) : elems st (.sl k xs) = some xs := rfl
theorem rsend_loop (hE : Std E fns) (x : XW) (l : Sl CmdT) (hl : l.list.length ≤ 1000) (hs : ∀ y, y ∈ l.list → y.party.size ≤ 100 ∧ y.key.size ≤ 200) {L : Env × Store → Option (Sig × Env × Store)}
    (hL : ∀ e st, L (e, st) = (IR.runL E.glob (callL E) [] ir_usufructref21_Send_L0 e st).bind (seqK fun e st => L (compact [] 3 [1, 2, 4, 5] e st))) :
    ∀ (rest : List CmdT) (i g : Nat) (c : List CmdT), l.list.drop i = rest → i ≤ l.list.length → c.length + rest.length ≤ 100000 →
    ∃ g', L ([(1, cmv l), (2, .ref 0 0 0 0), (4, .ref 1 0 0 0), (5, vi i)], [.box [.own 2 g 0 c.length, x.r.av 5 RepT.cells, x.k.av 1 nmC], .box [.v (.slice none 0 0), .v (.slice none 0 0), .v (.slice none 0 0)], .row 6 g (c.map CmdT.cells) false]) =
      some (.exit 0, [(2, .ref 0 0 0 0), (4, .ref 1 0 0 0)], [.box [.own 2 g' 0 (c ++ rest.filter goodC).length, x.r.av 5 RepT.cells, x.k.av 1 nmC], .box [.v (.slice none 0 0), .v (.slice none 0 0), .v (.slice none 0 0)], .row 6 g' ((c ++ rest.filter goodC).map CmdT.cells) false])
  | [], i, g, c, h, hi, hb => by
    have h1 := drop_nil' h hi
    refine ⟨g, ?_⟩
    rw [hL, List.filter_nil, List.append_nil]
    simp -implicitDefEqProofs only [go_sem, reduceIte, reduceCtorEq, Nat.reduceEqDiff, Nat.reduceAdd, Nat.reduceSub, Nat.reduceLT, Nat.reduceLeDiff, Nat.reduceBEq, Nat.reduceMul, Nat.reduceBNe, Int.reduceEq, Int.reduceLT, Int.reduceLE, Int.reduceNe, Int.reduceToNat, ir_usufructref21_Send_L0, h1, ro_cmd, ro_rep, ro_nm]
  | y :: rest, i, g, c, h, hi, hb => by
    obtain ⟨h1, h2, h3, h4, h5⟩ := drop_cons h
    have h6 := wrap_succ (i := i) (by omega)
    obtain ⟨hp, hk⟩ := hs y (List.mem_of_getElem? h1)
    simp only [List.length_cons] at hb
    have hg := fn_refCommand hE y (by omega) (by omega)
    cases hgc : goodC y with
    | false =>
      rw [hgc] at hg
      obtain ⟨g', ih⟩ := rsend_loop hE x l hl hs hL rest (i + 1) g c h2 h4 (by omega)
      refine ⟨g', ?_⟩
      rw [hL, List.filter_cons_of_neg (by simp [hgc]), ← ih]
      simp only [CmdT.cells] at hg
      simp -implicitDefEqProofs only [go_sem, reduceIte, reduceCtorEq, Nat.reduceEqDiff, Nat.reduceAdd, Nat.reduceSub, Nat.reduceLT, Nat.reduceLeDiff, Nat.reduceBEq, Nat.reduceMul, Nat.reduceBNe, Int.reduceEq, Int.reduceLT, Int.reduceLE, Int.reduceNe, Int.reduceToNat, ir_usufructref21_Send_L0, elems_sl, h1, h3, h6, hg, CmdT.cells, ro_cmd, ro_rep, ro_nm]
    | true =>
      rw [hgc] at hg
      obtain ⟨g', ih⟩ := rsend_loop hE x l hl hs hL rest (i + 1) (g + 1) (c ++ [y]) h2 h4 (by simp; omega)
      refine ⟨g', ?_⟩
      have hb1 : (c.length + 1) * 64 ≤ 140737488355328 := by omega
      rw [hL, List.filter_cons_of_pos hgc, show c ++ y :: rest.filter goodC = (c ++ [y]) ++ rest.filter goodC by simp, ← ih]
      simp only [CmdT.cells, List.length_append, List.length_cons, List.length_nil, Nat.zero_add, List.map_append, List.map_cons, List.map_nil] at hg ⊢
      simp -implicitDefEqProofs only [go_sem, reduceIte, reduceCtorEq, Nat.reduceEqDiff, Nat.reduceAdd, Nat.reduceSub, Nat.reduceLT, Nat.reduceLeDiff, Nat.reduceBEq, Nat.reduceMul, Nat.reduceBNe, Int.reduceEq, Int.reduceLT, Int.reduceLE, Int.reduceNe, Int.reduceToNat, ir_usufructref21_Send_L0, elems_sl, h1, h3, h6, hg, hb1, CmdT.cells, ro_cmd, ro_rep, ro_nm]
theorem fn_rSend (hE : Std E fns) (x : XW) (l : Sl CmdT) (hl : l.list.length ≤ 1000) (hs : ∀ y, y ∈ l.list → y.party.size ≤ 100 ∧ y.key.size ≤ 200) (hb : x.c.list.length ≤ 50000) :
    callP E f_usufructref21_Send [.agg x.cells, cmv l] = some (.agg (XW.cells ⟨.mk (x.c.list ++ l.list.filter goodC), x.r, x.k⟩)) := by
  obtain ⟨g', h⟩ := rsend_loop hE x l hl hs (loopL_eq (IR.runL E.glob (callL E) [] ir_usufructref21_Send_L0) (compact [] 3 [1, 2, 4, 5])) l.list 0 1 x.c.list rfl (Nat.zero_le _) (by omega)
  have hb1 : x.c.list.length * 64 ≤ 140737488355328 := by omega
  rw [hE.run rfl rfl]
  obtain ⟨xc, xr, xk⟩ := x
  simp only [XW.cells, Int.natCast_zero] at h hb1 ⊢
  simp -implicitDefEqProofs only [go_sem, reduceIte, reduceCtorEq, Nat.reduceEqDiff, Nat.reduceAdd, Nat.reduceSub, Nat.reduceLT, Nat.reduceLeDiff, Nat.reduceBEq, Nat.reduceMul, Nat.reduceBNe, Int.reduceEq, Int.reduceLT, Int.reduceLE, Int.reduceNe, Int.reduceToNat, ir_usufructref21_Send, h, hb1, elems_av, elems_sl, ro_cmd, ro_rep, ro_nm, all_cmd, List.length_map, take_map]
  have ht : List.take (xc.list.length + (l.list.filter goodC).length) (xc.list.map CmdT.cells ++ (l.list.filter goodC).map CmdT.cells) = (xc.list ++ l.list.filter goodC).map CmdT.cells := by
    rw [List.map_append]
    exact List.take_of_length_le (by simp)
  rw [ht]
  rfl
end Go.Proofs.YtbpndomfipdhdaaDoor.Ev
