/-
  The law StorePlays: the whole.
-/
import Derived.Test.YtaodpgpepmlfbaaDoorEvSt13
import Derived.Test.YtaodpgpepmlfbaaDoorEvSt14
set_option linter.unusedVariables false
set_option linter.unusedSimpArgs false
namespace Go.Proofs.YtaodpgpepmlfbaaDoor.Ev
attribute [local congr] bind_congr_head
attribute [local go_sem] opd_t opd_c opd_g opd_f opds_nil opds_cons get_cons put_some put_none keep_nil keepC_s keepC_n keep_cons runs_nil runs_cons run_op run_opr run_call run_gand run_gor run_gif seqK_norm seqK_exit seqK_ret blkK_norm blkK_exit blkK_ret runL_skip runL_exit runL_ret runL_items runL_seq runL_cond runL_block runL_loop fin_bind finK_norm finK_ret rvs_nil rvs_cons rv_tmp rv_cell tupOf_one tupOf_nil tupOf_two ev_mov ev_pick ev_alloc ev_box ev_build parts_nil parts_cons fills_nil fills_cons ev_bsl ev_bslo ev_load ev_store ev_nilck ev_bin ev_binb ev_aeq ev_un ev_i2i ev_i2t ev_isnilI nilIF ev_s2b ev_ext ev_fld ev_idxs ev_fa ev_ias ev_len ev_lens ev_s2s ev_mkf ev_rng ev_nxt ev_app bOf_s pvOf_s agOf_s tpOf_s iOf_s sOf_s ite_bind Option.bind_some Option.bind_none if_true if_false ite_true ite_false argEnv_nil argEnv_cons len_av elems_av ias_av cells_av tuple_av AV.tuple AV.cells faF ldAt liveRef aggOf nilckF binV binI binS binB unV Bool.not_true Bool.not_false List.length_nil List.length_cons List.nil_append List.cons_append List.append_nil List.getElem?_cons_zero List.getElem?_cons_succ List.drop_zero List.drop_succ_cons List.drop_nil List.take_zero List.take_succ_cons List.take_nil List.set_cons_zero List.set_cons_succ compact_same compact_new closedB nodupB envIds ids0 upto visit pos sel AV.ids idss idsss Ob.ids AV.ren rens renss Ob.ren renEnv AV.snap snaps stAt okSt putCells List.all_nil List.all_cons List.contains_nil List.contains_cons Bool.and_true Bool.true_and Bool.and_false Bool.false_and Bool.or_true Bool.true_or Bool.or_false Bool.false_or decide_eq_true_eq decide_true decide_false beq_iff_eq bne_iff_ne beq_self_eq_true Bool.not_eq_true' Bool.false_eq_true eq_self and_self and_true true_and and_false false_and or_true true_or or_false false_or not_true_eq_false not_false_eq_true ne_eq Nat.zero_add Nat.add_zero Nat.le_refl Nat.not_lt_zero Nat.lt_irrefl Nat.zero_le Int.toNat_natCast gt_iff_lt ge_iff_le Int.lt_irrefl Int.natCast_nonneg txt_eq get_nil appF elems belows AV.under AV.flat flats List.length_map List.map_append List.map_cons List.map_nil List.length_append take_map_all List.flatten_cons List.flatten_nil bld_nil imp_false false_imp_iff false_implies true_implies implies_true decide_eq_false_iff_not Nat.one_mul Nat.mul_one idsss_app renss_app belowss_app ev_mn ev_mx ev_isnils ev_sls ev_slx evo_none evo_some vals minV maxV minF maxF backId List.getElem?_nil putAll Option.all_none Option.all_some Option.isSome_some intOf aszI compactV_same compactV_new callP_any callQ_eq callN_any boxQ AV.id? ids_avR ren_av under_av snap_av renss_mapf belowss_mapf idsss_mapf isnilsF List.length_eq_zero_iff int_beq int_bne decide_not slx_av Int.toNat_zero ev_mkm ev_lk ev_mup ev_mdl ev_lenm ev_isnilm mpOf_s mapAt_s mapOf_nil mapOf_mp isnilm_nil isnilm_mp lkR Option.getD_some Option.getD_none Option.isSome_none Prim.rdo ev_snp snp_own snp_v
variable {E : Prog}
theorem plays_inner (hE : Std E fns) {L : Env × Store → Option (Sig × Env × Store)} (cap fuse fu i : Int) (acts : Sl ActT) (a : ActT) (l : List FX) (x : Sl FX) (hI : Inv cap l x.list)
    (hL : ∀ e st, L (e, st) = (IR.runL E.glob (callL E) [] ir_usufructlaw05_StorePlays_L0 e st).bind (seqK fun e st => L (compact [] 3 [0, 1, 5, 6, 7, 8, 9, 16, 17] e st))) :
    ∀ (rest : List FX) (k : Nat), x.list.drop k = rest → k ≤ x.list.length →
    L ([(0, vi cap), (1, acv acts), (5, .ref 0 0 0 0), (6, fv x), (7, vb false), (8, vi fu), (9, vi i), (16, (slOf (x.list.map FX.n)).av 1 nmC), (17, vi k)], sto cap fuse false l ++ [.box a.cells]) =
      some (.exit 2, [(0, vi cap), (1, acv acts), (5, .ref 0 0 0 0), (6, fv x), (7, vb false), (8, vi fu), (9, vi i)], sto cap fuse false l ++ [.box a.cells])
  | [], k, h, hk => by
    have h1 := drop_nil' h hk
    rw [hL]
    simp only [sto, ActT.cells, List.cons_append, List.nil_append]
    simp -implicitDefEqProofs only [go_sem, reduceIte, reduceCtorEq, Nat.reduceEqDiff, Nat.reduceAdd, Nat.reduceSub, Nat.reduceLT, Nat.reduceLeDiff, Nat.reduceBEq, Nat.reduceMul, Nat.reduceBNe, Int.reduceEq, Int.reduceLT, Int.reduceLE, Int.reduceNe, Int.reduceToNat, ir_usufructlaw05_StorePlays_L0, h1, ro_act, ro_fx, ro_nm, ro_by, ro_in, mapF_ids, mapF_ren]
  | f :: rest, k, h, hk => by
    obtain ⟨h1, h2, h3, h4, h5⟩ := drop_cons h
    have h6 := wrap_succ (i := k) (by have := hI.c; omega)
    have hfd : fndF f.n l = some f := fnd_of (nod_perm hI.p.symm hI.s.nod) (hI.p.mem_iff.2 (List.mem_of_getElem? h1)) rfl
    have hr := fn_read hE cap fuse false l f.n
    rw [hfd] at hr
    have hn1 := nm_get h1
    have ih := plays_inner hE cap fuse fu i acts a l x hI hL rest (k + 1) h2 h4
    simp only [sto, ActT.cells, Bool.false_eq_true, if_false, List.cons_append, List.nil_append] at hr ih ⊢
    rw [hL]
    simp -implicitDefEqProofs only [go_sem, reduceIte, reduceCtorEq, Nat.reduceEqDiff, Nat.reduceAdd, Nat.reduceSub, Nat.reduceLT, Nat.reduceLeDiff, Nat.reduceBEq, Nat.reduceMul, Nat.reduceBNe, Int.reduceEq, Int.reduceLT, Int.reduceLE, Int.reduceNe, Int.reduceToNat, ir_usufructlaw05_StorePlays_L0, h1, h3, h6, hn1, nmC, FX.cells, hr, ev_b2s, b2s_by, BAl_data, show ∀ xs : List UInt8, (Sl.mk xs).list = xs from fun _ => rfl, ro_act, ro_fx, ro_nm, ro_by, ro_in, mapF_ids, mapF_ren, ih]
theorem lenA_nil (st : Store) : lenAV st (.v (.slice none 0 0)) = some 0 := rfl
def GoodR (r : Option (Sig × Env × Store)) : Prop := (∃ c f d l, r = some (.exit 0, [], sto c f d l)) ∨ ∃ c f d l a, r = some (.ret, [(4, vb true)], sto c f d l ++ [.box (ActT.cells a)])
end Go.Proofs.YtaodpgpepmlfbaaDoor.Ev
set_option linter.unusedVariables false
set_option linter.unusedSimpArgs false
namespace Go.Proofs.YtaodpgpepmlfbaaDoor.Ev
attribute [local congr] bind_congr_head
attribute [local go_sem] opd_t opd_c opd_g opd_f opds_nil opds_cons get_cons put_some put_none keep_nil keepC_s keepC_n keep_cons runs_nil runs_cons run_op run_opr run_call run_gand run_gor run_gif seqK_norm seqK_exit seqK_ret blkK_norm blkK_exit blkK_ret runL_skip runL_exit runL_ret runL_items runL_seq runL_cond runL_block runL_loop fin_bind finK_norm finK_ret rvs_nil rvs_cons rv_tmp rv_cell tupOf_one tupOf_nil tupOf_two ev_mov ev_pick ev_alloc ev_box ev_build parts_nil parts_cons fills_nil fills_cons ev_bsl ev_bslo ev_load ev_store ev_nilck ev_bin ev_binb ev_aeq ev_un ev_i2i ev_i2t ev_isnilI nilIF ev_s2b ev_ext ev_fld ev_idxs ev_fa ev_ias ev_len ev_lens ev_s2s ev_mkf ev_rng ev_nxt ev_app bOf_s pvOf_s agOf_s tpOf_s iOf_s sOf_s ite_bind Option.bind_some Option.bind_none if_true if_false ite_true ite_false argEnv_nil argEnv_cons len_av elems_av ias_av cells_av tuple_av AV.tuple AV.cells faF ldAt liveRef aggOf nilckF binV binI binS binB unV Bool.not_true Bool.not_false List.length_nil List.length_cons List.nil_append List.cons_append List.append_nil List.getElem?_cons_zero List.getElem?_cons_succ List.drop_zero List.drop_succ_cons List.drop_nil List.take_zero List.take_succ_cons List.take_nil List.set_cons_zero List.set_cons_succ compact_same compact_new closedB nodupB envIds ids0 upto visit pos sel AV.ids idss idsss Ob.ids AV.ren rens renss Ob.ren renEnv AV.snap snaps stAt okSt putCells List.all_nil List.all_cons List.contains_nil List.contains_cons Bool.and_true Bool.true_and Bool.and_false Bool.false_and Bool.or_true Bool.true_or Bool.or_false Bool.false_or decide_eq_true_eq decide_true decide_false beq_iff_eq bne_iff_ne beq_self_eq_true Bool.not_eq_true' Bool.false_eq_true eq_self and_self and_true true_and and_false false_and or_true true_or or_false false_or not_true_eq_false not_false_eq_true ne_eq Nat.zero_add Nat.add_zero Nat.le_refl Nat.not_lt_zero Nat.lt_irrefl Nat.zero_le Int.toNat_natCast gt_iff_lt ge_iff_le Int.lt_irrefl Int.natCast_nonneg txt_eq get_nil appF elems belows AV.under AV.flat flats List.length_map List.map_append List.map_cons List.map_nil List.length_append take_map_all List.flatten_cons List.flatten_nil bld_nil imp_false false_imp_iff false_implies true_implies implies_true decide_eq_false_iff_not Nat.one_mul Nat.mul_one idsss_app renss_app belowss_app ev_mn ev_mx ev_isnils ev_sls ev_slx evo_none evo_some vals minV maxV minF maxF backId List.getElem?_nil putAll Option.all_none Option.all_some Option.isSome_some intOf aszI compactV_same compactV_new callP_any callQ_eq callN_any boxQ AV.id? ids_avR ren_av under_av snap_av renss_mapf belowss_mapf idsss_mapf isnilsF List.length_eq_zero_iff int_beq int_bne decide_not slx_av Int.toNat_zero ev_mkm ev_lk ev_mup ev_mdl ev_lenm ev_isnilm mpOf_s mapAt_s mapOf_nil mapOf_mp isnilm_nil isnilm_mp lkR Option.getD_some Option.getD_none Option.isSome_none Prim.rdo ev_snp snp_own snp_v
variable {E : Prog}
set_option maxHeartbeats 4000000 in
set_option maxRecDepth 20000 in
theorem plays_a (hE : Std E fns) (hS : SOK E) {L : Env × Store → Option (Sig × Env × Store)} (acts : Sl ActT) (cap : Int) (hc : 1 ≤ cap ∧ cap ≤ 16777216) (hal : acts.list.length ≤ 40)
    (hL : ∀ e st, L (e, st) = (IR.runL E.glob (callL E) [] ir_usufructlaw05_StorePlays_L1 e st).bind (seqK fun e st => L (compact [] 2 [0, 1, 5, 6, 7, 8, 9] e st)))
    (a : ActT) (rest : List ActT) (i : Nat) (l l2 : List FX) (x y : Sl FX) (down : Bool) (gone : Bool) (h : acts.list.drop i = a :: rest) (k0 : ¬ a.k < 0) (k8 : ¬ 7 < a.k) (k7 : ¬ a.k = 7) (r2 : Inv cap l2 y.list)
    (hr : callL E f_usufructlaw05_run [.ref 0 0 0 0, .agg a.cells] [] (sto cap 1 down l) = some (vi 12, sto cap 0 true l2))
    (hd : callP E f_usufructlaw05_do [fv x, vb down, vi cap, .agg a.cells] = some (.tup [fv y, vb gone, vi 0]))
    (k4 : a.k ≤ 4) (k5 : ¬ a.k = 5) (k1 : a.k ≤ 1) :
    L ([(0, vi cap), (1, acv acts), (5, .ref 0 0 0 0), (6, fv x), (7, vb down), (8, vi 1), (9, vi i)], sto cap 1 down l) = L ([(0, vi cap), (1, acv acts), (5, .ref 0 0 0 0), (6, fv y), (7, vb true), (8, vi 0), (9, vi ((i + 1 : Nat) : Int))], sto cap 0 true l2) := by
  obtain ⟨h1, h2, h3, h4, h5⟩ := drop_cons h
  have h6 := wrap_succ (i := i) (by omega)
  have hll2 : l2.length = y.list.length := r2.p.length_eq
  have hxc2 := r2.c
  have ht2 : totF l2 = totF y.list := tot_perm r2.p
  have htt := r2.t
  have hdn := fn_down hE cap 0 true l2
  have hnm := fn_Names hE hS cap 0 true l2 (by omega) (fun f hf => by have := (r2.n f (r2.p.mem_iff.1 hf)).1; omega)
  have hfr := fn_Free hE hS cap 0 true l2 ⟨by omega, by omega, by omega⟩
  have hU := fn_Used hE y (by omega) (by omega)
  have hwc : IntKind.i64.wrap (cap - (totF y.list : Int)) = cap - (totF y.list : Int) := by rw [IntKind.wrap_i64]; omega
  rw [ht2] at hfr
  rw [sort_names r2] at hnm
  simp only [sto, ActT.cells, Int.natCast_zero, Bool.false_eq_true, if_true, if_false, List.cons_append, List.nil_append] at hr hd hdn hnm hfr ⊢
  have z1 : (1 : Int) - 1 = 0 := by decide
  have z2 : IntKind.i64.wrap 0 = 0 := rfl
  rw [hL]
  simp -implicitDefEqProofs only [go_sem, reduceIte, reduceCtorEq, Nat.reduceEqDiff, Nat.reduceAdd, Nat.reduceSub, Nat.reduceLT, Nat.reduceLeDiff, Nat.reduceBEq, Nat.reduceMul, Nat.reduceBNe, Int.reduceEq, Int.reduceLT, Int.reduceLE, Int.reduceNe, Int.reduceToNat, ir_usufructlaw05_StorePlays_L1, ActT.cells, h1, h3, h6, k0, k8, k7, gand_b, gor_b, Bool.decide_eq_true, hr, hd, hdn, hnm, hfr, hU, hwc, nm_len, lenA_nil, Int.natCast_zero, ro_act, ro_fx, ro_by, ro_in, ro_nm, mapF_ids, mapF_ren, k4, k5, k1, z1, z2]
end Go.Proofs.YtaodpgpepmlfbaaDoor.Ev
set_option linter.unusedVariables false
set_option linter.unusedSimpArgs false
namespace Go.Proofs.YtaodpgpepmlfbaaDoor.Ev
attribute [local congr] bind_congr_head
attribute [local go_sem] opd_t opd_c opd_g opd_f opds_nil opds_cons get_cons put_some put_none keep_nil keepC_s keepC_n keep_cons runs_nil runs_cons run_op run_opr run_call run_gand run_gor run_gif seqK_norm seqK_exit seqK_ret blkK_norm blkK_exit blkK_ret runL_skip runL_exit runL_ret runL_items runL_seq runL_cond runL_block runL_loop fin_bind finK_norm finK_ret rvs_nil rvs_cons rv_tmp rv_cell tupOf_one tupOf_nil tupOf_two ev_mov ev_pick ev_alloc ev_box ev_build parts_nil parts_cons fills_nil fills_cons ev_bsl ev_bslo ev_load ev_store ev_nilck ev_bin ev_binb ev_aeq ev_un ev_i2i ev_i2t ev_isnilI nilIF ev_s2b ev_ext ev_fld ev_idxs ev_fa ev_ias ev_len ev_lens ev_s2s ev_mkf ev_rng ev_nxt ev_app bOf_s pvOf_s agOf_s tpOf_s iOf_s sOf_s ite_bind Option.bind_some Option.bind_none if_true if_false ite_true ite_false argEnv_nil argEnv_cons len_av elems_av ias_av cells_av tuple_av AV.tuple AV.cells faF ldAt liveRef aggOf nilckF binV binI binS binB unV Bool.not_true Bool.not_false List.length_nil List.length_cons List.nil_append List.cons_append List.append_nil List.getElem?_cons_zero List.getElem?_cons_succ List.drop_zero List.drop_succ_cons List.drop_nil List.take_zero List.take_succ_cons List.take_nil List.set_cons_zero List.set_cons_succ compact_same compact_new closedB nodupB envIds ids0 upto visit pos sel AV.ids idss idsss Ob.ids AV.ren rens renss Ob.ren renEnv AV.snap snaps stAt okSt putCells List.all_nil List.all_cons List.contains_nil List.contains_cons Bool.and_true Bool.true_and Bool.and_false Bool.false_and Bool.or_true Bool.true_or Bool.or_false Bool.false_or decide_eq_true_eq decide_true decide_false beq_iff_eq bne_iff_ne beq_self_eq_true Bool.not_eq_true' Bool.false_eq_true eq_self and_self and_true true_and and_false false_and or_true true_or or_false false_or not_true_eq_false not_false_eq_true ne_eq Nat.zero_add Nat.add_zero Nat.le_refl Nat.not_lt_zero Nat.lt_irrefl Nat.zero_le Int.toNat_natCast gt_iff_lt ge_iff_le Int.lt_irrefl Int.natCast_nonneg txt_eq get_nil appF elems belows AV.under AV.flat flats List.length_map List.map_append List.map_cons List.map_nil List.length_append take_map_all List.flatten_cons List.flatten_nil bld_nil imp_false false_imp_iff false_implies true_implies implies_true decide_eq_false_iff_not Nat.one_mul Nat.mul_one idsss_app renss_app belowss_app ev_mn ev_mx ev_isnils ev_sls ev_slx evo_none evo_some vals minV maxV minF maxF backId List.getElem?_nil putAll Option.all_none Option.all_some Option.isSome_some intOf aszI compactV_same compactV_new callP_any callQ_eq callN_any boxQ AV.id? ids_avR ren_av under_av snap_av renss_mapf belowss_mapf idsss_mapf isnilsF List.length_eq_zero_iff int_beq int_bne decide_not slx_av Int.toNat_zero ev_mkm ev_lk ev_mup ev_mdl ev_lenm ev_isnilm mpOf_s mapAt_s mapOf_nil mapOf_mp isnilm_nil isnilm_mp lkR Option.getD_some Option.getD_none Option.isSome_none Prim.rdo ev_snp snp_own snp_v
variable {E : Prog}
set_option maxHeartbeats 4000000 in
set_option maxRecDepth 20000 in
theorem plays_b (hE : Std E fns) (hS : SOK E) {L : Env × Store → Option (Sig × Env × Store)} (acts : Sl ActT) (cap : Int) (hc : 1 ≤ cap ∧ cap ≤ 16777216) (hal : acts.list.length ≤ 40)
    (hL : ∀ e st, L (e, st) = (IR.runL E.glob (callL E) [] ir_usufructlaw05_StorePlays_L1 e st).bind (seqK fun e st => L (compact [] 2 [0, 1, 5, 6, 7, 8, 9] e st)))
    (a : ActT) (rest : List ActT) (i : Nat) (l l2 : List FX) (x y : Sl FX) (down : Bool) (gone : Bool) (h : acts.list.drop i = a :: rest) (k0 : ¬ a.k < 0) (k8 : ¬ 7 < a.k) (k7 : ¬ a.k = 7) (r2 : Inv cap l2 x.list)
    (hr : callL E f_usufructlaw05_run [.ref 0 0 0 0, .agg a.cells] [] (sto cap 1 down l) = some (vi 12, sto cap 0 true l2))
    (hd : callP E f_usufructlaw05_do [fv x, vb down, vi cap, .agg a.cells] = some (.tup [fv y, vb gone, vi 0]))
    (k4 : a.k ≤ 4) (k5 : ¬ a.k = 5) (k1 : ¬ a.k ≤ 1) :
    L ([(0, vi cap), (1, acv acts), (5, .ref 0 0 0 0), (6, fv x), (7, vb down), (8, vi 1), (9, vi i)], sto cap 1 down l) = L ([(0, vi cap), (1, acv acts), (5, .ref 0 0 0 0), (6, fv x), (7, vb true), (8, vi 0), (9, vi ((i + 1 : Nat) : Int))], sto cap 0 true l2) := by
  obtain ⟨h1, h2, h3, h4, h5⟩ := drop_cons h
  have h6 := wrap_succ (i := i) (by omega)
  have hll2 : l2.length = x.list.length := r2.p.length_eq
  have hxc2 := r2.c
  have ht2 : totF l2 = totF x.list := tot_perm r2.p
  have htt := r2.t
  have hdn := fn_down hE cap 0 true l2
  have hnm := fn_Names hE hS cap 0 true l2 (by omega) (fun f hf => by have := (r2.n f (r2.p.mem_iff.1 hf)).1; omega)
  have hfr := fn_Free hE hS cap 0 true l2 ⟨by omega, by omega, by omega⟩
  have hU := fn_Used hE x (by omega) (by omega)
  have hwc : IntKind.i64.wrap (cap - (totF x.list : Int)) = cap - (totF x.list : Int) := by rw [IntKind.wrap_i64]; omega
  rw [ht2] at hfr
  rw [sort_names r2] at hnm
  simp only [sto, ActT.cells, Int.natCast_zero, Bool.false_eq_true, if_true, if_false, List.cons_append, List.nil_append] at hr hd hdn hnm hfr ⊢
  have z1 : (1 : Int) - 1 = 0 := by decide
  have z2 : IntKind.i64.wrap 0 = 0 := rfl
  rw [hL]
  simp -implicitDefEqProofs only [go_sem, reduceIte, reduceCtorEq, Nat.reduceEqDiff, Nat.reduceAdd, Nat.reduceSub, Nat.reduceLT, Nat.reduceLeDiff, Nat.reduceBEq, Nat.reduceMul, Nat.reduceBNe, Int.reduceEq, Int.reduceLT, Int.reduceLE, Int.reduceNe, Int.reduceToNat, ir_usufructlaw05_StorePlays_L1, ActT.cells, h1, h3, h6, k0, k8, k7, gand_b, gor_b, Bool.decide_eq_true, hr, hd, hdn, hnm, hfr, hU, hwc, nm_len, lenA_nil, Int.natCast_zero, ro_act, ro_fx, ro_by, ro_in, ro_nm, mapF_ids, mapF_ren, k4, k5, k1, z1, z2]
end Go.Proofs.YtaodpgpepmlfbaaDoor.Ev
set_option linter.unusedVariables false
set_option linter.unusedSimpArgs false
namespace Go.Proofs.YtaodpgpepmlfbaaDoor.Ev
attribute [local congr] bind_congr_head
attribute [local go_sem] opd_t opd_c opd_g opd_f opds_nil opds_cons get_cons put_some put_none keep_nil keepC_s keepC_n keep_cons runs_nil runs_cons run_op run_opr run_call run_gand run_gor run_gif seqK_norm seqK_exit seqK_ret blkK_norm blkK_exit blkK_ret runL_skip runL_exit runL_ret runL_items runL_seq runL_cond runL_block runL_loop fin_bind finK_norm finK_ret rvs_nil rvs_cons rv_tmp rv_cell tupOf_one tupOf_nil tupOf_two ev_mov ev_pick ev_alloc ev_box ev_build parts_nil parts_cons fills_nil fills_cons ev_bsl ev_bslo ev_load ev_store ev_nilck ev_bin ev_binb ev_aeq ev_un ev_i2i ev_i2t ev_isnilI nilIF ev_s2b ev_ext ev_fld ev_idxs ev_fa ev_ias ev_len ev_lens ev_s2s ev_mkf ev_rng ev_nxt ev_app bOf_s pvOf_s agOf_s tpOf_s iOf_s sOf_s ite_bind Option.bind_some Option.bind_none if_true if_false ite_true ite_false argEnv_nil argEnv_cons len_av elems_av ias_av cells_av tuple_av AV.tuple AV.cells faF ldAt liveRef aggOf nilckF binV binI binS binB unV Bool.not_true Bool.not_false List.length_nil List.length_cons List.nil_append List.cons_append List.append_nil List.getElem?_cons_zero List.getElem?_cons_succ List.drop_zero List.drop_succ_cons List.drop_nil List.take_zero List.take_succ_cons List.take_nil List.set_cons_zero List.set_cons_succ compact_same compact_new closedB nodupB envIds ids0 upto visit pos sel AV.ids idss idsss Ob.ids AV.ren rens renss Ob.ren renEnv AV.snap snaps stAt okSt putCells List.all_nil List.all_cons List.contains_nil List.contains_cons Bool.and_true Bool.true_and Bool.and_false Bool.false_and Bool.or_true Bool.true_or Bool.or_false Bool.false_or decide_eq_true_eq decide_true decide_false beq_iff_eq bne_iff_ne beq_self_eq_true Bool.not_eq_true' Bool.false_eq_true eq_self and_self and_true true_and and_false false_and or_true true_or or_false false_or not_true_eq_false not_false_eq_true ne_eq Nat.zero_add Nat.add_zero Nat.le_refl Nat.not_lt_zero Nat.lt_irrefl Nat.zero_le Int.toNat_natCast gt_iff_lt ge_iff_le Int.lt_irrefl Int.natCast_nonneg txt_eq get_nil appF elems belows AV.under AV.flat flats List.length_map List.map_append List.map_cons List.map_nil List.length_append take_map_all List.flatten_cons List.flatten_nil bld_nil imp_false false_imp_iff false_implies true_implies implies_true decide_eq_false_iff_not Nat.one_mul Nat.mul_one idsss_app renss_app belowss_app ev_mn ev_mx ev_isnils ev_sls ev_slx evo_none evo_some vals minV maxV minF maxF backId List.getElem?_nil putAll Option.all_none Option.all_some Option.isSome_some intOf aszI compactV_same compactV_new callP_any callQ_eq callN_any boxQ AV.id? ids_avR ren_av under_av snap_av renss_mapf belowss_mapf idsss_mapf isnilsF List.length_eq_zero_iff int_beq int_bne decide_not slx_av Int.toNat_zero ev_mkm ev_lk ev_mup ev_mdl ev_lenm ev_isnilm mpOf_s mapAt_s mapOf_nil mapOf_mp isnilm_nil isnilm_mp lkR Option.getD_some Option.getD_none Option.isSome_none Prim.rdo ev_snp snp_own snp_v
variable {E : Prog}
set_option maxHeartbeats 4000000 in
set_option maxRecDepth 20000 in
theorem plays_c (hE : Std E fns) (hS : SOK E) {L : Env × Store → Option (Sig × Env × Store)} (acts : Sl ActT) (cap : Int) (hc : 1 ≤ cap ∧ cap ≤ 16777216) (hal : acts.list.length ≤ 40)
    (hL : ∀ e st, L (e, st) = (IR.runL E.glob (callL E) [] ir_usufructlaw05_StorePlays_L1 e st).bind (seqK fun e st => L (compact [] 2 [0, 1, 5, 6, 7, 8, 9] e st)))
    (a : ActT) (rest : List ActT) (i : Nat) (l l2 : List FX) (x y : Sl FX) (down : Bool) (fuse : Int) (h : acts.list.drop i = a :: rest) (k0 : ¬ a.k < 0) (k8 : ¬ 7 < a.k) (k7 : ¬ a.k = 7) (r2 : Inv cap l2 y.list)
    (hr : callL E f_usufructlaw05_run [.ref 0 0 0 0, .agg a.cells] [] (sto cap fuse down l) = some (vi 0, sto cap (fuse - 1) true l2))
    (hd : callP E f_usufructlaw05_do [fv x, vb down, vi cap, .agg a.cells] = some (.tup [fv y, vb true, vi 0]))
    (k4 : a.k ≤ 4) (k5 : ¬ a.k = 5) (f0 : 0 < fuse) (f2 : ¬ fuse - 1 = 0) (hw : IntKind.i64.wrap (fuse - 1) = fuse - 1) :
    L ([(0, vi cap), (1, acv acts), (5, .ref 0 0 0 0), (6, fv x), (7, vb down), (8, vi fuse), (9, vi i)], sto cap fuse down l) = L ([(0, vi cap), (1, acv acts), (5, .ref 0 0 0 0), (6, fv y), (7, vb true), (8, vi (fuse - 1)), (9, vi ((i + 1 : Nat) : Int))], sto cap (fuse - 1) true l2) := by
  obtain ⟨h1, h2, h3, h4, h5⟩ := drop_cons h
  have h6 := wrap_succ (i := i) (by omega)
  have hll2 : l2.length = y.list.length := r2.p.length_eq
  have hxc2 := r2.c
  have ht2 : totF l2 = totF y.list := tot_perm r2.p
  have htt := r2.t
  have hdn := fn_down hE cap (fuse - 1) true l2
  have hnm := fn_Names hE hS cap (fuse - 1) true l2 (by omega) (fun f hf => by have := (r2.n f (r2.p.mem_iff.1 hf)).1; omega)
  have hfr := fn_Free hE hS cap (fuse - 1) true l2 ⟨by omega, by omega, by omega⟩
  have hU := fn_Used hE y (by omega) (by omega)
  have hwc : IntKind.i64.wrap (cap - (totF y.list : Int)) = cap - (totF y.list : Int) := by rw [IntKind.wrap_i64]; omega
  rw [ht2] at hfr
  rw [sort_names r2] at hnm
  simp only [sto, ActT.cells, Int.natCast_zero, Bool.false_eq_true, if_true, if_false, List.cons_append, List.nil_append] at hr hd hdn hnm hfr ⊢
  rw [hL]
  simp -implicitDefEqProofs only [go_sem, reduceIte, reduceCtorEq, Nat.reduceEqDiff, Nat.reduceAdd, Nat.reduceSub, Nat.reduceLT, Nat.reduceLeDiff, Nat.reduceBEq, Nat.reduceMul, Nat.reduceBNe, Int.reduceEq, Int.reduceLT, Int.reduceLE, Int.reduceNe, Int.reduceToNat, ir_usufructlaw05_StorePlays_L1, ActT.cells, h1, h3, h6, k0, k8, k7, gand_b, gor_b, Bool.decide_eq_true, hr, hd, hdn, hnm, hfr, hU, hwc, nm_len, lenA_nil, Int.natCast_zero, ro_act, ro_fx, ro_by, ro_in, ro_nm, mapF_ids, mapF_ren, k4, k5, f0, f2, hw]
end Go.Proofs.YtaodpgpepmlfbaaDoor.Ev
set_option linter.unusedVariables false
set_option linter.unusedSimpArgs false
namespace Go.Proofs.YtaodpgpepmlfbaaDoor.Ev
attribute [local congr] bind_congr_head
attribute [local go_sem] opd_t opd_c opd_g opd_f opds_nil opds_cons get_cons put_some put_none keep_nil keepC_s keepC_n keep_cons runs_nil runs_cons run_op run_opr run_call run_gand run_gor run_gif seqK_norm seqK_exit seqK_ret blkK_norm blkK_exit blkK_ret runL_skip runL_exit runL_ret runL_items runL_seq runL_cond runL_block runL_loop fin_bind finK_norm finK_ret rvs_nil rvs_cons rv_tmp rv_cell tupOf_one tupOf_nil tupOf_two ev_mov ev_pick ev_alloc ev_box ev_build parts_nil parts_cons fills_nil fills_cons ev_bsl ev_bslo ev_load ev_store ev_nilck ev_bin ev_binb ev_aeq ev_un ev_i2i ev_i2t ev_isnilI nilIF ev_s2b ev_ext ev_fld ev_idxs ev_fa ev_ias ev_len ev_lens ev_s2s ev_mkf ev_rng ev_nxt ev_app bOf_s pvOf_s agOf_s tpOf_s iOf_s sOf_s ite_bind Option.bind_some Option.bind_none if_true if_false ite_true ite_false argEnv_nil argEnv_cons len_av elems_av ias_av cells_av tuple_av AV.tuple AV.cells faF ldAt liveRef aggOf nilckF binV binI binS binB unV Bool.not_true Bool.not_false List.length_nil List.length_cons List.nil_append List.cons_append List.append_nil List.getElem?_cons_zero List.getElem?_cons_succ List.drop_zero List.drop_succ_cons List.drop_nil List.take_zero List.take_succ_cons List.take_nil List.set_cons_zero List.set_cons_succ compact_same compact_new closedB nodupB envIds ids0 upto visit pos sel AV.ids idss idsss Ob.ids AV.ren rens renss Ob.ren renEnv AV.snap snaps stAt okSt putCells List.all_nil List.all_cons List.contains_nil List.contains_cons Bool.and_true Bool.true_and Bool.and_false Bool.false_and Bool.or_true Bool.true_or Bool.or_false Bool.false_or decide_eq_true_eq decide_true decide_false beq_iff_eq bne_iff_ne beq_self_eq_true Bool.not_eq_true' Bool.false_eq_true eq_self and_self and_true true_and and_false false_and or_true true_or or_false false_or not_true_eq_false not_false_eq_true ne_eq Nat.zero_add Nat.add_zero Nat.le_refl Nat.not_lt_zero Nat.lt_irrefl Nat.zero_le Int.toNat_natCast gt_iff_lt ge_iff_le Int.lt_irrefl Int.natCast_nonneg txt_eq get_nil appF elems belows AV.under AV.flat flats List.length_map List.map_append List.map_cons List.map_nil List.length_append take_map_all List.flatten_cons List.flatten_nil bld_nil imp_false false_imp_iff false_implies true_implies implies_true decide_eq_false_iff_not Nat.one_mul Nat.mul_one idsss_app renss_app belowss_app ev_mn ev_mx ev_isnils ev_sls ev_slx evo_none evo_some vals minV maxV minF maxF backId List.getElem?_nil putAll Option.all_none Option.all_some Option.isSome_some intOf aszI compactV_same compactV_new callP_any callQ_eq callN_any boxQ AV.id? ids_avR ren_av under_av snap_av renss_mapf belowss_mapf idsss_mapf isnilsF List.length_eq_zero_iff int_beq int_bne decide_not slx_av Int.toNat_zero ev_mkm ev_lk ev_mup ev_mdl ev_lenm ev_isnilm mpOf_s mapAt_s mapOf_nil mapOf_mp isnilm_nil isnilm_mp lkR Option.getD_some Option.getD_none Option.isSome_none Prim.rdo ev_snp snp_own snp_v
variable {E : Prog}
set_option maxHeartbeats 4000000 in
set_option maxRecDepth 20000 in
theorem plays_d (hE : Std E fns) (hS : SOK E) {L : Env × Store → Option (Sig × Env × Store)} (acts : Sl ActT) (cap : Int) (hc : 1 ≤ cap ∧ cap ≤ 16777216) (hal : acts.list.length ≤ 40)
    (hL : ∀ e st, L (e, st) = (IR.runL E.glob (callL E) [] ir_usufructlaw05_StorePlays_L1 e st).bind (seqK fun e st => L (compact [] 2 [0, 1, 5, 6, 7, 8, 9] e st)))
    (a : ActT) (rest : List ActT) (i : Nat) (l l2 : List FX) (x y : Sl FX) (down : Bool) (fuse : Int) (h : acts.list.drop i = a :: rest) (k0 : ¬ a.k < 0) (k8 : ¬ 7 < a.k) (k7 : ¬ a.k = 7) (r2 : Inv cap l2 y.list)
    (hr : callL E f_usufructlaw05_run [.ref 0 0 0 0, .agg a.cells] [] (sto cap fuse down l) = some (vi 0, sto cap (fuse - 1) false l2))
    (hd : callP E f_usufructlaw05_do [fv x, vb down, vi cap, .agg a.cells] = some (.tup [fv y, vb false, vi 0]))
    (k4 : a.k ≤ 4) (k5 : ¬ a.k = 5) (f0 : 0 < fuse) (f2 : ¬ fuse - 1 = 0) (hw : IntKind.i64.wrap (fuse - 1) = fuse - 1) :
    L ([(0, vi cap), (1, acv acts), (5, .ref 0 0 0 0), (6, fv x), (7, vb down), (8, vi fuse), (9, vi i)], sto cap fuse down l) = L ([(0, vi cap), (1, acv acts), (5, .ref 0 0 0 0), (6, fv y), (7, vb false), (8, vi (fuse - 1)), (9, vi ((i + 1 : Nat) : Int))], sto cap (fuse - 1) false l2) := by
  obtain ⟨h1, h2, h3, h4, h5⟩ := drop_cons h
  have h6 := wrap_succ (i := i) (by omega)
  have hll2 : l2.length = y.list.length := r2.p.length_eq
  have hxc2 := r2.c
  have ht2 : totF l2 = totF y.list := tot_perm r2.p
  have htt := r2.t
  have hdn := fn_down hE cap (fuse - 1) false l2
  have hnm := fn_Names hE hS cap (fuse - 1) false l2 (by omega) (fun f hf => by have := (r2.n f (r2.p.mem_iff.1 hf)).1; omega)
  have hfr := fn_Free hE hS cap (fuse - 1) false l2 ⟨by omega, by omega, by omega⟩
  have hU := fn_Used hE y (by omega) (by omega)
  have hwc : IntKind.i64.wrap (cap - (totF y.list : Int)) = cap - (totF y.list : Int) := by rw [IntKind.wrap_i64]; omega
  rw [ht2] at hfr
  rw [sort_names r2] at hnm
  have hlp := plays_inner hE cap (fuse - 1) (fuse - 1) i acts a l2 y r2 (loopL_eq (IR.runL E.glob (callL E) [] ir_usufructlaw05_StorePlays_L0) (compact [] 3 [0, 1, 5, 6, 7, 8, 9, 16, 17])) y.list 0 rfl (Nat.zero_le _)
  simp only [sto, ActT.cells, Int.natCast_zero, Bool.false_eq_true, if_true, if_false, List.cons_append, List.nil_append] at hr hd hdn hnm hfr hlp ⊢
  rw [hL]
  simp -implicitDefEqProofs only [go_sem, reduceIte, reduceCtorEq, Nat.reduceEqDiff, Nat.reduceAdd, Nat.reduceSub, Nat.reduceLT, Nat.reduceLeDiff, Nat.reduceBEq, Nat.reduceMul, Nat.reduceBNe, Int.reduceEq, Int.reduceLT, Int.reduceLE, Int.reduceNe, Int.reduceToNat, ir_usufructlaw05_StorePlays_L1, ActT.cells, h1, h3, h6, k0, k8, k7, gand_b, gor_b, Bool.decide_eq_true, hr, hd, hdn, hnm, hfr, hU, hwc, nm_len, lenA_nil, Int.natCast_zero, ro_act, ro_fx, ro_by, ro_in, ro_nm, mapF_ids, mapF_ren, k4, k5, f0, f2, hw, hlp]
end Go.Proofs.YtaodpgpepmlfbaaDoor.Ev
set_option linter.unusedVariables false
set_option linter.unusedSimpArgs false
namespace Go.Proofs.YtaodpgpepmlfbaaDoor.Ev
attribute [local congr] bind_congr_head
attribute [local go_sem] opd_t opd_c opd_g opd_f opds_nil opds_cons get_cons put_some put_none keep_nil keepC_s keepC_n keep_cons runs_nil runs_cons run_op run_opr run_call run_gand run_gor run_gif seqK_norm seqK_exit seqK_ret blkK_norm blkK_exit blkK_ret runL_skip runL_exit runL_ret runL_items runL_seq runL_cond runL_block runL_loop fin_bind finK_norm finK_ret rvs_nil rvs_cons rv_tmp rv_cell tupOf_one tupOf_nil tupOf_two ev_mov ev_pick ev_alloc ev_box ev_build parts_nil parts_cons fills_nil fills_cons ev_bsl ev_bslo ev_load ev_store ev_nilck ev_bin ev_binb ev_aeq ev_un ev_i2i ev_i2t ev_isnilI nilIF ev_s2b ev_ext ev_fld ev_idxs ev_fa ev_ias ev_len ev_lens ev_s2s ev_mkf ev_rng ev_nxt ev_app bOf_s pvOf_s agOf_s tpOf_s iOf_s sOf_s ite_bind Option.bind_some Option.bind_none if_true if_false ite_true ite_false argEnv_nil argEnv_cons len_av elems_av ias_av cells_av tuple_av AV.tuple AV.cells faF ldAt liveRef aggOf nilckF binV binI binS binB unV Bool.not_true Bool.not_false List.length_nil List.length_cons List.nil_append List.cons_append List.append_nil List.getElem?_cons_zero List.getElem?_cons_succ List.drop_zero List.drop_succ_cons List.drop_nil List.take_zero List.take_succ_cons List.take_nil List.set_cons_zero List.set_cons_succ compact_same compact_new closedB nodupB envIds ids0 upto visit pos sel AV.ids idss idsss Ob.ids AV.ren rens renss Ob.ren renEnv AV.snap snaps stAt okSt putCells List.all_nil List.all_cons List.contains_nil List.contains_cons Bool.and_true Bool.true_and Bool.and_false Bool.false_and Bool.or_true Bool.true_or Bool.or_false Bool.false_or decide_eq_true_eq decide_true decide_false beq_iff_eq bne_iff_ne beq_self_eq_true Bool.not_eq_true' Bool.false_eq_true eq_self and_self and_true true_and and_false false_and or_true true_or or_false false_or not_true_eq_false not_false_eq_true ne_eq Nat.zero_add Nat.add_zero Nat.le_refl Nat.not_lt_zero Nat.lt_irrefl Nat.zero_le Int.toNat_natCast gt_iff_lt ge_iff_le Int.lt_irrefl Int.natCast_nonneg txt_eq get_nil appF elems belows AV.under AV.flat flats List.length_map List.map_append List.map_cons List.map_nil List.length_append take_map_all List.flatten_cons List.flatten_nil bld_nil imp_false false_imp_iff false_implies true_implies implies_true decide_eq_false_iff_not Nat.one_mul Nat.mul_one idsss_app renss_app belowss_app ev_mn ev_mx ev_isnils ev_sls ev_slx evo_none evo_some vals minV maxV minF maxF backId List.getElem?_nil putAll Option.all_none Option.all_some Option.isSome_some intOf aszI compactV_same compactV_new callP_any callQ_eq callN_any boxQ AV.id? ids_avR ren_av under_av snap_av renss_mapf belowss_mapf idsss_mapf isnilsF List.length_eq_zero_iff int_beq int_bne decide_not slx_av Int.toNat_zero ev_mkm ev_lk ev_mup ev_mdl ev_lenm ev_isnilm mpOf_s mapAt_s mapOf_nil mapOf_mp isnilm_nil isnilm_mp lkR Option.getD_some Option.getD_none Option.isSome_none Prim.rdo ev_snp snp_own snp_v
variable {E : Prog}
set_option maxHeartbeats 4000000 in
set_option maxRecDepth 20000 in
theorem plays_e (hE : Std E fns) (hS : SOK E) {L : Env × Store → Option (Sig × Env × Store)} (acts : Sl ActT) (cap : Int) (hc : 1 ≤ cap ∧ cap ≤ 16777216) (hal : acts.list.length ≤ 40)
    (hL : ∀ e st, L (e, st) = (IR.runL E.glob (callL E) [] ir_usufructlaw05_StorePlays_L1 e st).bind (seqK fun e st => L (compact [] 2 [0, 1, 5, 6, 7, 8, 9] e st)))
    (a : ActT) (rest : List ActT) (i : Nat) (l l2 : List FX) (x y : Sl FX) (down : Bool) (fuse : Int) (want : Int) (h : acts.list.drop i = a :: rest) (k0 : ¬ a.k < 0) (k8 : ¬ 7 < a.k) (k7 : ¬ a.k = 7) (r2 : Inv cap l2 y.list)
    (hr : callL E f_usufructlaw05_run [.ref 0 0 0 0, .agg a.cells] [] (sto cap fuse down l) = some (vi want, sto cap 0 true l2))
    (hd : callP E f_usufructlaw05_do [fv x, vb down, vi cap, .agg a.cells] = some (.tup [fv y, vb true, vi want]))
    (hno : (decide (a.k ≤ 4) && decide (want = 0) && decide (0 < fuse)) = false) (k5 : a.k = 5) :
    L ([(0, vi cap), (1, acv acts), (5, .ref 0 0 0 0), (6, fv x), (7, vb down), (8, vi fuse), (9, vi i)], sto cap fuse down l) = L ([(0, vi cap), (1, acv acts), (5, .ref 0 0 0 0), (6, fv y), (7, vb true), (8, vi 0), (9, vi ((i + 1 : Nat) : Int))], sto cap 0 true l2) := by
  obtain ⟨h1, h2, h3, h4, h5⟩ := drop_cons h
  have h6 := wrap_succ (i := i) (by omega)
  have hll2 : l2.length = y.list.length := r2.p.length_eq
  have hxc2 := r2.c
  have ht2 : totF l2 = totF y.list := tot_perm r2.p
  have htt := r2.t
  have hdn := fn_down hE cap 0 true l2
  have hnm := fn_Names hE hS cap 0 true l2 (by omega) (fun f hf => by have := (r2.n f (r2.p.mem_iff.1 hf)).1; omega)
  have hfr := fn_Free hE hS cap 0 true l2 ⟨by omega, by omega, by omega⟩
  have hU := fn_Used hE y (by omega) (by omega)
  have hwc : IntKind.i64.wrap (cap - (totF y.list : Int)) = cap - (totF y.list : Int) := by rw [IntKind.wrap_i64]; omega
  rw [ht2] at hfr
  rw [sort_names r2] at hnm
  simp only [sto, ActT.cells, Int.natCast_zero, Bool.false_eq_true, if_true, if_false, List.cons_append, List.nil_append] at hr hd hdn hnm hfr ⊢
  simp only [k5] at hr hd hno
  rw [hL]
  simp -implicitDefEqProofs only [go_sem, reduceIte, reduceCtorEq, Nat.reduceEqDiff, Nat.reduceAdd, Nat.reduceSub, Nat.reduceLT, Nat.reduceLeDiff, Nat.reduceBEq, Nat.reduceMul, Nat.reduceBNe, Int.reduceEq, Int.reduceLT, Int.reduceLE, Int.reduceNe, Int.reduceToNat, ir_usufructlaw05_StorePlays_L1, ActT.cells, h1, h3, h6, k0, k8, k7, gand_b, gor_b, Bool.decide_eq_true, hr, hd, hdn, hnm, hfr, hU, hwc, nm_len, lenA_nil, Int.natCast_zero, ro_act, ro_fx, ro_by, ro_in, ro_nm, mapF_ids, mapF_ren, k5, hno]
end Go.Proofs.YtaodpgpepmlfbaaDoor.Ev
set_option linter.unusedVariables false
set_option linter.unusedSimpArgs false
namespace Go.Proofs.YtaodpgpepmlfbaaDoor.Ev
attribute [local congr] bind_congr_head
attribute [local go_sem] opd_t opd_c opd_g opd_f opds_nil opds_cons get_cons put_some put_none keep_nil keepC_s keepC_n keep_cons runs_nil runs_cons run_op run_opr run_call run_gand run_gor run_gif seqK_norm seqK_exit seqK_ret blkK_norm blkK_exit blkK_ret runL_skip runL_exit runL_ret runL_items runL_seq runL_cond runL_block runL_loop fin_bind finK_norm finK_ret rvs_nil rvs_cons rv_tmp rv_cell tupOf_one tupOf_nil tupOf_two ev_mov ev_pick ev_alloc ev_box ev_build parts_nil parts_cons fills_nil fills_cons ev_bsl ev_bslo ev_load ev_store ev_nilck ev_bin ev_binb ev_aeq ev_un ev_i2i ev_i2t ev_isnilI nilIF ev_s2b ev_ext ev_fld ev_idxs ev_fa ev_ias ev_len ev_lens ev_s2s ev_mkf ev_rng ev_nxt ev_app bOf_s pvOf_s agOf_s tpOf_s iOf_s sOf_s ite_bind Option.bind_some Option.bind_none if_true if_false ite_true ite_false argEnv_nil argEnv_cons len_av elems_av ias_av cells_av tuple_av AV.tuple AV.cells faF ldAt liveRef aggOf nilckF binV binI binS binB unV Bool.not_true Bool.not_false List.length_nil List.length_cons List.nil_append List.cons_append List.append_nil List.getElem?_cons_zero List.getElem?_cons_succ List.drop_zero List.drop_succ_cons List.drop_nil List.take_zero List.take_succ_cons List.take_nil List.set_cons_zero List.set_cons_succ compact_same compact_new closedB nodupB envIds ids0 upto visit pos sel AV.ids idss idsss Ob.ids AV.ren rens renss Ob.ren renEnv AV.snap snaps stAt okSt putCells List.all_nil List.all_cons List.contains_nil List.contains_cons Bool.and_true Bool.true_and Bool.and_false Bool.false_and Bool.or_true Bool.true_or Bool.or_false Bool.false_or decide_eq_true_eq decide_true decide_false beq_iff_eq bne_iff_ne beq_self_eq_true Bool.not_eq_true' Bool.false_eq_true eq_self and_self and_true true_and and_false false_and or_true true_or or_false false_or not_true_eq_false not_false_eq_true ne_eq Nat.zero_add Nat.add_zero Nat.le_refl Nat.not_lt_zero Nat.lt_irrefl Nat.zero_le Int.toNat_natCast gt_iff_lt ge_iff_le Int.lt_irrefl Int.natCast_nonneg txt_eq get_nil appF elems belows AV.under AV.flat flats List.length_map List.map_append List.map_cons List.map_nil List.length_append take_map_all List.flatten_cons List.flatten_nil bld_nil imp_false false_imp_iff false_implies true_implies implies_true decide_eq_false_iff_not Nat.one_mul Nat.mul_one idsss_app renss_app belowss_app ev_mn ev_mx ev_isnils ev_sls ev_slx evo_none evo_some vals minV maxV minF maxF backId List.getElem?_nil putAll Option.all_none Option.all_some Option.isSome_some intOf aszI compactV_same compactV_new callP_any callQ_eq callN_any boxQ AV.id? ids_avR ren_av under_av snap_av renss_mapf belowss_mapf idsss_mapf isnilsF List.length_eq_zero_iff int_beq int_bne decide_not slx_av Int.toNat_zero ev_mkm ev_lk ev_mup ev_mdl ev_lenm ev_isnilm mpOf_s mapAt_s mapOf_nil mapOf_mp isnilm_nil isnilm_mp lkR Option.getD_some Option.getD_none Option.isSome_none Prim.rdo ev_snp snp_own snp_v
variable {E : Prog}
set_option maxHeartbeats 4000000 in
set_option maxRecDepth 20000 in
theorem plays_f (hE : Std E fns) (hS : SOK E) {L : Env × Store → Option (Sig × Env × Store)} (acts : Sl ActT) (cap : Int) (hc : 1 ≤ cap ∧ cap ≤ 16777216) (hal : acts.list.length ≤ 40)
    (hL : ∀ e st, L (e, st) = (IR.runL E.glob (callL E) [] ir_usufructlaw05_StorePlays_L1 e st).bind (seqK fun e st => L (compact [] 2 [0, 1, 5, 6, 7, 8, 9] e st)))
    (a : ActT) (rest : List ActT) (i : Nat) (l l2 : List FX) (x y : Sl FX) (down : Bool) (fuse : Int) (want : Int) (h : acts.list.drop i = a :: rest) (k0 : ¬ a.k < 0) (k8 : ¬ 7 < a.k) (k7 : ¬ a.k = 7) (r2 : Inv cap l2 y.list)
    (hr : callL E f_usufructlaw05_run [.ref 0 0 0 0, .agg a.cells] [] (sto cap fuse down l) = some (vi want, sto cap fuse true l2))
    (hd : callP E f_usufructlaw05_do [fv x, vb down, vi cap, .agg a.cells] = some (.tup [fv y, vb true, vi want]))
    (hno : (decide (a.k ≤ 4) && decide (want = 0) && decide (0 < fuse)) = false) (k5 : ¬ a.k = 5) :
    L ([(0, vi cap), (1, acv acts), (5, .ref 0 0 0 0), (6, fv x), (7, vb down), (8, vi fuse), (9, vi i)], sto cap fuse down l) = L ([(0, vi cap), (1, acv acts), (5, .ref 0 0 0 0), (6, fv y), (7, vb true), (8, vi fuse), (9, vi ((i + 1 : Nat) : Int))], sto cap fuse true l2) := by
  obtain ⟨h1, h2, h3, h4, h5⟩ := drop_cons h
  have h6 := wrap_succ (i := i) (by omega)
  have hll2 : l2.length = y.list.length := r2.p.length_eq
  have hxc2 := r2.c
  have ht2 : totF l2 = totF y.list := tot_perm r2.p
  have htt := r2.t
  have hdn := fn_down hE cap fuse true l2
  have hnm := fn_Names hE hS cap fuse true l2 (by omega) (fun f hf => by have := (r2.n f (r2.p.mem_iff.1 hf)).1; omega)
  have hfr := fn_Free hE hS cap fuse true l2 ⟨by omega, by omega, by omega⟩
  have hU := fn_Used hE y (by omega) (by omega)
  have hwc : IntKind.i64.wrap (cap - (totF y.list : Int)) = cap - (totF y.list : Int) := by rw [IntKind.wrap_i64]; omega
  rw [ht2] at hfr
  rw [sort_names r2] at hnm
  simp only [sto, ActT.cells, Int.natCast_zero, Bool.false_eq_true, if_true, if_false, List.cons_append, List.nil_append] at hr hd hdn hnm hfr ⊢
  rw [hL]
  simp -implicitDefEqProofs only [go_sem, reduceIte, reduceCtorEq, Nat.reduceEqDiff, Nat.reduceAdd, Nat.reduceSub, Nat.reduceLT, Nat.reduceLeDiff, Nat.reduceBEq, Nat.reduceMul, Nat.reduceBNe, Int.reduceEq, Int.reduceLT, Int.reduceLE, Int.reduceNe, Int.reduceToNat, ir_usufructlaw05_StorePlays_L1, ActT.cells, h1, h3, h6, k0, k8, k7, gand_b, gor_b, Bool.decide_eq_true, hr, hd, hdn, hnm, hfr, hU, hwc, nm_len, lenA_nil, Int.natCast_zero, ro_act, ro_fx, ro_by, ro_in, ro_nm, mapF_ids, mapF_ren, k5, hno]
end Go.Proofs.YtaodpgpepmlfbaaDoor.Ev
set_option linter.unusedVariables false
set_option linter.unusedSimpArgs false
namespace Go.Proofs.YtaodpgpepmlfbaaDoor.Ev
attribute [local congr] bind_congr_head
attribute [local go_sem] opd_t opd_c opd_g opd_f opds_nil opds_cons get_cons put_some put_none keep_nil keepC_s keepC_n keep_cons runs_nil runs_cons run_op run_opr run_call run_gand run_gor run_gif seqK_norm seqK_exit seqK_ret blkK_norm blkK_exit blkK_ret runL_skip runL_exit runL_ret runL_items runL_seq runL_cond runL_block runL_loop fin_bind finK_norm finK_ret rvs_nil rvs_cons rv_tmp rv_cell tupOf_one tupOf_nil tupOf_two ev_mov ev_pick ev_alloc ev_box ev_build parts_nil parts_cons fills_nil fills_cons ev_bsl ev_bslo ev_load ev_store ev_nilck ev_bin ev_binb ev_aeq ev_un ev_i2i ev_i2t ev_isnilI nilIF ev_s2b ev_ext ev_fld ev_idxs ev_fa ev_ias ev_len ev_lens ev_s2s ev_mkf ev_rng ev_nxt ev_app bOf_s pvOf_s agOf_s tpOf_s iOf_s sOf_s ite_bind Option.bind_some Option.bind_none if_true if_false ite_true ite_false argEnv_nil argEnv_cons len_av elems_av ias_av cells_av tuple_av AV.tuple AV.cells faF ldAt liveRef aggOf nilckF binV binI binS binB unV Bool.not_true Bool.not_false List.length_nil List.length_cons List.nil_append List.cons_append List.append_nil List.getElem?_cons_zero List.getElem?_cons_succ List.drop_zero List.drop_succ_cons List.drop_nil List.take_zero List.take_succ_cons List.take_nil List.set_cons_zero List.set_cons_succ compact_same compact_new closedB nodupB envIds ids0 upto visit pos sel AV.ids idss idsss Ob.ids AV.ren rens renss Ob.ren renEnv AV.snap snaps stAt okSt putCells List.all_nil List.all_cons List.contains_nil List.contains_cons Bool.and_true Bool.true_and Bool.and_false Bool.false_and Bool.or_true Bool.true_or Bool.or_false Bool.false_or decide_eq_true_eq decide_true decide_false beq_iff_eq bne_iff_ne beq_self_eq_true Bool.not_eq_true' Bool.false_eq_true eq_self and_self and_true true_and and_false false_and or_true true_or or_false false_or not_true_eq_false not_false_eq_true ne_eq Nat.zero_add Nat.add_zero Nat.le_refl Nat.not_lt_zero Nat.lt_irrefl Nat.zero_le Int.toNat_natCast gt_iff_lt ge_iff_le Int.lt_irrefl Int.natCast_nonneg txt_eq get_nil appF elems belows AV.under AV.flat flats List.length_map List.map_append List.map_cons List.map_nil List.length_append take_map_all List.flatten_cons List.flatten_nil bld_nil imp_false false_imp_iff false_implies true_implies implies_true decide_eq_false_iff_not Nat.one_mul Nat.mul_one idsss_app renss_app belowss_app ev_mn ev_mx ev_isnils ev_sls ev_slx evo_none evo_some vals minV maxV minF maxF backId List.getElem?_nil putAll Option.all_none Option.all_some Option.isSome_some intOf aszI compactV_same compactV_new callP_any callQ_eq callN_any boxQ AV.id? ids_avR ren_av under_av snap_av renss_mapf belowss_mapf idsss_mapf isnilsF List.length_eq_zero_iff int_beq int_bne decide_not slx_av Int.toNat_zero ev_mkm ev_lk ev_mup ev_mdl ev_lenm ev_isnilm mpOf_s mapAt_s mapOf_nil mapOf_mp isnilm_nil isnilm_mp lkR Option.getD_some Option.getD_none Option.isSome_none Prim.rdo ev_snp snp_own snp_v
variable {E : Prog}
set_option maxHeartbeats 4000000 in
set_option maxRecDepth 20000 in
theorem plays_g (hE : Std E fns) (hS : SOK E) {L : Env × Store → Option (Sig × Env × Store)} (acts : Sl ActT) (cap : Int) (hc : 1 ≤ cap ∧ cap ≤ 16777216) (hal : acts.list.length ≤ 40)
    (hL : ∀ e st, L (e, st) = (IR.runL E.glob (callL E) [] ir_usufructlaw05_StorePlays_L1 e st).bind (seqK fun e st => L (compact [] 2 [0, 1, 5, 6, 7, 8, 9] e st)))
    (a : ActT) (rest : List ActT) (i : Nat) (l l2 : List FX) (x y : Sl FX) (down : Bool) (fuse : Int) (want : Int) (h : acts.list.drop i = a :: rest) (k0 : ¬ a.k < 0) (k8 : ¬ 7 < a.k) (k7 : ¬ a.k = 7) (r2 : Inv cap l2 y.list)
    (hr : callL E f_usufructlaw05_run [.ref 0 0 0 0, .agg a.cells] [] (sto cap fuse down l) = some (vi want, sto cap fuse false l2))
    (hd : callP E f_usufructlaw05_do [fv x, vb down, vi cap, .agg a.cells] = some (.tup [fv y, vb false, vi want]))
    (hno : (decide (a.k ≤ 4) && decide (want = 0) && decide (0 < fuse)) = false) (k5 : ¬ a.k = 5) :
    L ([(0, vi cap), (1, acv acts), (5, .ref 0 0 0 0), (6, fv x), (7, vb down), (8, vi fuse), (9, vi i)], sto cap fuse down l) = L ([(0, vi cap), (1, acv acts), (5, .ref 0 0 0 0), (6, fv y), (7, vb false), (8, vi fuse), (9, vi ((i + 1 : Nat) : Int))], sto cap fuse false l2) := by
  obtain ⟨h1, h2, h3, h4, h5⟩ := drop_cons h
  have h6 := wrap_succ (i := i) (by omega)
  have hll2 : l2.length = y.list.length := r2.p.length_eq
  have hxc2 := r2.c
  have ht2 : totF l2 = totF y.list := tot_perm r2.p
  have htt := r2.t
  have hdn := fn_down hE cap fuse false l2
  have hnm := fn_Names hE hS cap fuse false l2 (by omega) (fun f hf => by have := (r2.n f (r2.p.mem_iff.1 hf)).1; omega)
  have hfr := fn_Free hE hS cap fuse false l2 ⟨by omega, by omega, by omega⟩
  have hU := fn_Used hE y (by omega) (by omega)
  have hwc : IntKind.i64.wrap (cap - (totF y.list : Int)) = cap - (totF y.list : Int) := by rw [IntKind.wrap_i64]; omega
  rw [ht2] at hfr
  rw [sort_names r2] at hnm
  have hlp := plays_inner hE cap fuse fuse i acts a l2 y r2 (loopL_eq (IR.runL E.glob (callL E) [] ir_usufructlaw05_StorePlays_L0) (compact [] 3 [0, 1, 5, 6, 7, 8, 9, 16, 17])) y.list 0 rfl (Nat.zero_le _)
  simp only [sto, ActT.cells, Int.natCast_zero, Bool.false_eq_true, if_true, if_false, List.cons_append, List.nil_append] at hr hd hdn hnm hfr hlp ⊢
  rw [hL]
  simp -implicitDefEqProofs only [go_sem, reduceIte, reduceCtorEq, Nat.reduceEqDiff, Nat.reduceAdd, Nat.reduceSub, Nat.reduceLT, Nat.reduceLeDiff, Nat.reduceBEq, Nat.reduceMul, Nat.reduceBNe, Int.reduceEq, Int.reduceLT, Int.reduceLE, Int.reduceNe, Int.reduceToNat, ir_usufructlaw05_StorePlays_L1, ActT.cells, h1, h3, h6, k0, k8, k7, gand_b, gor_b, Bool.decide_eq_true, hr, hd, hdn, hnm, hfr, hU, hwc, nm_len, lenA_nil, Int.natCast_zero, ro_act, ro_fx, ro_by, ro_in, ro_nm, mapF_ids, mapF_ren, k5, hno, hlp]
end Go.Proofs.YtaodpgpepmlfbaaDoor.Ev
set_option linter.unusedVariables false
set_option linter.unusedSimpArgs false
namespace Go.Proofs.YtaodpgpepmlfbaaDoor.Ev
attribute [local congr] bind_congr_head
attribute [local go_sem] opd_t opd_c opd_g opd_f opds_nil opds_cons get_cons put_some put_none keep_nil keepC_s keepC_n keep_cons runs_nil runs_cons run_op run_opr run_call run_gand run_gor run_gif seqK_norm seqK_exit seqK_ret blkK_norm blkK_exit blkK_ret runL_skip runL_exit runL_ret runL_items runL_seq runL_cond runL_block runL_loop fin_bind finK_norm finK_ret rvs_nil rvs_cons rv_tmp rv_cell tupOf_one tupOf_nil tupOf_two ev_mov ev_pick ev_alloc ev_box ev_build parts_nil parts_cons fills_nil fills_cons ev_bsl ev_bslo ev_load ev_store ev_nilck ev_bin ev_binb ev_aeq ev_un ev_i2i ev_i2t ev_isnilI nilIF ev_s2b ev_ext ev_fld ev_idxs ev_fa ev_ias ev_len ev_lens ev_s2s ev_mkf ev_rng ev_nxt ev_app bOf_s pvOf_s agOf_s tpOf_s iOf_s sOf_s ite_bind Option.bind_some Option.bind_none if_true if_false ite_true ite_false argEnv_nil argEnv_cons len_av elems_av ias_av cells_av tuple_av AV.tuple AV.cells faF ldAt liveRef aggOf nilckF binV binI binS binB unV Bool.not_true Bool.not_false List.length_nil List.length_cons List.nil_append List.cons_append List.append_nil List.getElem?_cons_zero List.getElem?_cons_succ List.drop_zero List.drop_succ_cons List.drop_nil List.take_zero List.take_succ_cons List.take_nil List.set_cons_zero List.set_cons_succ compact_same compact_new closedB nodupB envIds ids0 upto visit pos sel AV.ids idss idsss Ob.ids AV.ren rens renss Ob.ren renEnv AV.snap snaps stAt okSt putCells List.all_nil List.all_cons List.contains_nil List.contains_cons Bool.and_true Bool.true_and Bool.and_false Bool.false_and Bool.or_true Bool.true_or Bool.or_false Bool.false_or decide_eq_true_eq decide_true decide_false beq_iff_eq bne_iff_ne beq_self_eq_true Bool.not_eq_true' Bool.false_eq_true eq_self and_self and_true true_and and_false false_and or_true true_or or_false false_or not_true_eq_false not_false_eq_true ne_eq Nat.zero_add Nat.add_zero Nat.le_refl Nat.not_lt_zero Nat.lt_irrefl Nat.zero_le Int.toNat_natCast gt_iff_lt ge_iff_le Int.lt_irrefl Int.natCast_nonneg txt_eq get_nil appF elems belows AV.under AV.flat flats List.length_map List.map_append List.map_cons List.map_nil List.length_append take_map_all List.flatten_cons List.flatten_nil bld_nil imp_false false_imp_iff false_implies true_implies implies_true decide_eq_false_iff_not Nat.one_mul Nat.mul_one idsss_app renss_app belowss_app ev_mn ev_mx ev_isnils ev_sls ev_slx evo_none evo_some vals minV maxV minF maxF backId List.getElem?_nil putAll Option.all_none Option.all_some Option.isSome_some intOf aszI compactV_same compactV_new callP_any callQ_eq callN_any boxQ AV.id? ids_avR ren_av under_av snap_av renss_mapf belowss_mapf idsss_mapf isnilsF List.length_eq_zero_iff int_beq int_bne decide_not slx_av Int.toNat_zero ev_mkm ev_lk ev_mup ev_mdl ev_lenm ev_isnilm mpOf_s mapAt_s mapOf_nil mapOf_mp isnilm_nil isnilm_mp lkR Option.getD_some Option.getD_none Option.isSome_none Prim.rdo ev_snp snp_own snp_v
variable {E : Prog}
set_option maxHeartbeats 8000000 in
set_option maxRecDepth 20000 in
theorem plays_loop (hE : Std E fns) (hv : VOK E) (hS : SOK E) (hB : RefBoot E) {L : Env × Store → Option (Sig × Env × Store)} (acts : Sl ActT) (cap : Int) (hc : 1 ≤ cap ∧ cap ≤ 16777216) (hal : acts.list.length ≤ 40) (hok : ∀ a, a ∈ acts.list → okA a = true)
    (hn : ∀ a, a ∈ acts.list → a.n ≤ 9223372036854775807)
    (hL : ∀ e st, L (e, st) = (IR.runL E.glob (callL E) [] ir_usufructlaw05_StorePlays_L1 e st).bind (seqK fun e st => L (compact [] 2 [0, 1, 5, 6, 7, 8, 9] e st))) :
    ∀ (rest : List ActT) (i : Nat) (l : List FX) (x : Sl FX) (down : Bool) (fuse : Int), acts.list.drop i = rest → i ≤ acts.list.length → Inv cap l x.list → (0 ≤ fuse ∧ fuse ≤ 9223372036854775807) →
    GoodR (L ([(0, vi cap), (1, acv acts), (5, .ref 0 0 0 0), (6, fv x), (7, vb down), (8, vi fuse), (9, vi i)], sto cap fuse down l))
  | [], i, l, x, down, fuse, h, hi, hI, hf => by
    have h1 := drop_nil' h hi
    refine .inl ⟨cap, fuse, down, l, ?_⟩
    rw [hL]
    simp -implicitDefEqProofs only [go_sem, reduceIte, reduceCtorEq, Nat.reduceEqDiff, Nat.reduceAdd, Nat.reduceSub, Nat.reduceLT, Nat.reduceLeDiff, Nat.reduceBEq, Nat.reduceMul, Nat.reduceBNe, Int.reduceEq, Int.reduceLT, Int.reduceLE, Int.reduceNe, Int.reduceToNat, ir_usufructlaw05_StorePlays_L1, h1, ro_act, ro_fx, sto, mapF_ids, mapF_ren]
  | a :: rest, i, l, x, down, fuse, h, hi, hI, hf => by
    obtain ⟨h1, h2, h3, h4, h5⟩ := drop_cons h
    have h6 := wrap_succ (i := i) (by omega)
    have ha := hok a (List.mem_of_getElem? h1)
    have han := hn a (List.mem_of_getElem? h1)
    by_cases k0 : a.k < 0
    · refine .inr ⟨cap, fuse, down, l, a, ?_⟩
      rw [hL]
      simp only [sto, ActT.cells, List.cons_append, List.nil_append]
      simp -implicitDefEqProofs only [go_sem, reduceIte, reduceCtorEq, Nat.reduceEqDiff, Nat.reduceAdd, Nat.reduceSub, Nat.reduceLT, Nat.reduceLeDiff, Nat.reduceBEq, Nat.reduceMul, Nat.reduceBNe, Int.reduceEq, Int.reduceLT, Int.reduceLE, Int.reduceNe, Int.reduceToNat, ir_usufructlaw05_StorePlays_L1, ActT.cells, h1, h3, k0, ro_act, ro_fx, ro_by, ro_in, mapF_ids, mapF_ren]
    · by_cases k8 : 7 < a.k
      · refine .inr ⟨cap, fuse, down, l, a, ?_⟩
        rw [hL]
        simp only [sto, ActT.cells, List.cons_append, List.nil_append]
        simp -implicitDefEqProofs only [go_sem, reduceIte, reduceCtorEq, Nat.reduceEqDiff, Nat.reduceAdd, Nat.reduceSub, Nat.reduceLT, Nat.reduceLeDiff, Nat.reduceBEq, Nat.reduceMul, Nat.reduceBNe, Int.reduceEq, Int.reduceLT, Int.reduceLE, Int.reduceNe, Int.reduceToNat, ir_usufructlaw05_StorePlays_L1, ActT.cells, h1, h3, k0, k8, ro_act, ro_fx, ro_by, ro_in, mapF_ids, mapF_ren]
      · by_cases k7 : a.k = 7
        · have hfu := fn_fuse hE cap fuse a.n down l
          have hm : 0 ≤ mx0 a.n ∧ mx0 a.n ≤ 9223372036854775807 := by unfold mx0; split <;> omega
          have ih := plays_loop hE hv hS hB acts cap hc hal hok hn hL rest (i + 1) l x down (mx0 a.n) h2 h4 hI hm
          have e : L ([(0, vi cap), (1, acv acts), (5, .ref 0 0 0 0), (6, fv x), (7, vb down), (8, vi fuse), (9, vi i)], sto cap fuse down l) = L ([(0, vi cap), (1, acv acts), (5, .ref 0 0 0 0), (6, fv x), (7, vb down), (8, vi (mx0 a.n)), (9, vi ((i + 1 : Nat) : Int))], sto cap (mx0 a.n) down l) := by
            rw [hL]
            simp only [sto] at hfu ⊢
            have k7' : ¬ (7 : Int) < 0 := by decide
            unfold mx0 at hfu ⊢
            simp -implicitDefEqProofs only [go_sem, reduceIte, reduceCtorEq, Nat.reduceEqDiff, Nat.reduceAdd, Nat.reduceSub, Nat.reduceLT, Nat.reduceLeDiff, Nat.reduceBEq, Nat.reduceMul, Nat.reduceBNe, Int.reduceEq, Int.reduceLT, Int.reduceLE, Int.reduceNe, Int.reduceToNat, ir_usufructlaw05_StorePlays_L1, ActT.cells, h1, h3, h6, k7, k7', hfu, ro_act, ro_fx, ro_by, ro_in, mapF_ids, mapF_ren]
          rw [e]
          exact ih
        · have hk : 0 ≤ a.k ∧ a.k ≤ 6 := by omega
          have hcc : 0 ≤ cap ∧ cap ≤ 4611686018427387904 := by omega
          have haa := ha
          simp only [okA, Bool.and_eq_true, decide_eq_true_eq] at haa
          obtain ⟨l2, r1, r2⟩ := run_do (fuse := fuse) (down := down) hI hcc hf.1 haa.1.1 hk
          have hr := fn_run hE hv hS cap fuse down l a (run_ok hI hcc ha hf)
          rw [r1] at hr
          obtain ⟨y, hy, hd⟩ := fn_do hE hB x down cap a hI.c hI.s (fun f hf => hI.okF hcc.2 hf) hI.t ⟨by omega, hc.2⟩ haa.1.1 haa.1.2
          clear r1
          have hk5 : a.k = 5 → (doS cap x.list down a).2.1 = true := fun q => by
            unfold doS
            rw [if_neg (by omega), if_pos q]
          generalize doS cap x.list down a = D at hr hd hy r2 hk5
          obtain ⟨Dy, gone, want⟩ := D
          simp only at hr hd hy r2 hk5
          rw [← hy] at r2
          by_cases c : a.k ≤ 4 ∧ want = 0 ∧ 0 < fuse
          · obtain ⟨k4, w0, f0⟩ := c
            subst w0
            have k5 : ¬ a.k = 5 := by omega
            have hfs : fuS a.k 0 fuse = fuse - 1 := by unfold fuS; rw [if_neg k5, if_pos ⟨k4, rfl, f0⟩]
            have hw : IntKind.i64.wrap (fuse - 1) = fuse - 1 := by rw [IntKind.wrap_i64]; omega
            rw [hfs] at hr
            by_cases f1 : fuse = 1
            · have hb : buS a.k 0 fuse = true := by simp [buS, k4, f1]
              subst f1
              simp only [hb, Bool.or_true, if_true, Bool.not_true, Bool.false_or, decide_eq_true_eq] at hr r2
              have z1 : (1 : Int) - 1 = 0 := by decide
              rw [z1] at hr
              by_cases k1 : a.k ≤ 1
              · rw [if_pos k1] at r2
                rw [plays_a hE hS acts cap hc hal hL a rest i l l2 x y down gone h k0 k8 k7 r2 hr hd k4 k5 k1]
                exact plays_loop hE hv hS hB acts cap hc hal hok hn hL rest (i + 1) l2 y true 0 h2 h4 r2 (by omega)
              · rw [if_neg k1] at r2
                rw [plays_b hE hS acts cap hc hal hL a rest i l l2 x y down gone h k0 k8 k7 r2 hr hd k4 k5 k1]
                exact plays_loop hE hv hS hB acts cap hc hal hok hn hL rest (i + 1) l2 x true 0 h2 h4 r2 (by omega)
            · have hb : buS a.k 0 fuse = false := by simp [buS, f1]
              have f2 : ¬ fuse - 1 = 0 := by omega
              simp only [hb, Bool.or_false, Bool.false_eq_true, if_false, Bool.not_false, Bool.true_or, if_true] at hr r2
              cases gone with
              | true =>
                rw [plays_c hE hS acts cap hc hal hL a rest i l l2 x y down fuse h k0 k8 k7 r2 hr hd k4 k5 f0 f2 hw]
                exact plays_loop hE hv hS hB acts cap hc hal hok hn hL rest (i + 1) l2 y true (fuse - 1) h2 h4 r2 (by omega)
              | false =>
                rw [plays_d hE hS acts cap hc hal hL a rest i l l2 x y down fuse h k0 k8 k7 r2 hr hd k4 k5 f0 f2 hw]
                exact plays_loop hE hv hS hB acts cap hc hal hok hn hL rest (i + 1) l2 y false (fuse - 1) h2 h4 r2 (by omega)
          · have hb : buS a.k want fuse = false := by
              unfold buS
              rw [Bool.eq_false_iff]
              intro q
              simp only [Bool.and_eq_true, decide_eq_true_eq] at q
              exact c ⟨q.1.1, q.1.2, by omega⟩
            have hno : (decide (a.k ≤ 4) && decide (want = 0) && decide (0 < fuse)) = false := by
              rw [Bool.eq_false_iff]
              intro q
              simp only [Bool.and_eq_true, decide_eq_true_eq] at q
              exact c ⟨q.1.1, q.1.2, q.2⟩
            simp only [hb, Bool.or_false, Bool.false_eq_true, if_false, Bool.not_false, Bool.true_or, if_true] at hr r2
            by_cases k5 : a.k = 5
            · have hfs : fuS a.k want fuse = 0 := by unfold fuS; rw [if_pos k5]
              rw [hfs] at hr
              have hg := hk5 k5
              subst hg
              rw [plays_e hE hS acts cap hc hal hL a rest i l l2 x y down fuse want h k0 k8 k7 r2 hr hd hno k5]
              exact plays_loop hE hv hS hB acts cap hc hal hok hn hL rest (i + 1) l2 y true 0 h2 h4 r2 (by omega)
            · have hfs : fuS a.k want fuse = fuse := by unfold fuS; rw [if_neg k5, if_neg c]
              rw [hfs] at hr
              cases gone with
              | true =>
                rw [plays_f hE hS acts cap hc hal hL a rest i l l2 x y down fuse want h k0 k8 k7 r2 hr hd hno k5]
                exact plays_loop hE hv hS hB acts cap hc hal hok hn hL rest (i + 1) l2 y true fuse h2 h4 r2 (by omega)
              | false =>
                rw [plays_g hE hS acts cap hc hal hL a rest i l l2 x y down fuse want h k0 k8 k7 r2 hr hd hno k5]
                exact plays_loop hE hv hS hB acts cap hc hal hok hn hL rest (i + 1) l2 y false fuse h2 h4 r2 (by omega)
end Go.Proofs.YtaodpgpepmlfbaaDoor.Ev
set_option linter.unusedVariables false
set_option linter.unusedSimpArgs false
namespace Go.Proofs.YtaodpgpepmlfbaaDoor.Ev
attribute [local congr] bind_congr_head
attribute [local go_sem] opd_t opd_c opd_g opd_f opds_nil opds_cons get_cons put_some put_none keep_nil keepC_s keepC_n keep_cons runs_nil runs_cons run_op run_opr run_call run_gand run_gor run_gif seqK_norm seqK_exit seqK_ret blkK_norm blkK_exit blkK_ret runL_skip runL_exit runL_ret runL_items runL_seq runL_cond runL_block runL_loop fin_bind finK_norm finK_ret rvs_nil rvs_cons rv_tmp rv_cell tupOf_one tupOf_nil tupOf_two ev_mov ev_pick ev_alloc ev_box ev_build parts_nil parts_cons fills_nil fills_cons ev_bsl ev_bslo ev_load ev_store ev_nilck ev_bin ev_binb ev_aeq ev_un ev_i2i ev_i2t ev_isnilI nilIF ev_s2b ev_ext ev_fld ev_idxs ev_fa ev_ias ev_len ev_lens ev_s2s ev_mkf ev_rng ev_nxt ev_app bOf_s pvOf_s agOf_s tpOf_s iOf_s sOf_s ite_bind Option.bind_some Option.bind_none if_true if_false ite_true ite_false argEnv_nil argEnv_cons len_av elems_av ias_av cells_av tuple_av AV.tuple AV.cells faF ldAt liveRef aggOf nilckF binV binI binS binB unV Bool.not_true Bool.not_false List.length_nil List.length_cons List.nil_append List.cons_append List.append_nil List.getElem?_cons_zero List.getElem?_cons_succ List.drop_zero List.drop_succ_cons List.drop_nil List.take_zero List.take_succ_cons List.take_nil List.set_cons_zero List.set_cons_succ compact_same compact_new closedB nodupB envIds ids0 upto visit pos sel AV.ids idss idsss Ob.ids AV.ren rens renss Ob.ren renEnv AV.snap snaps stAt okSt putCells List.all_nil List.all_cons List.contains_nil List.contains_cons Bool.and_true Bool.true_and Bool.and_false Bool.false_and Bool.or_true Bool.true_or Bool.or_false Bool.false_or decide_eq_true_eq decide_true decide_false beq_iff_eq bne_iff_ne beq_self_eq_true Bool.not_eq_true' Bool.false_eq_true eq_self and_self and_true true_and and_false false_and or_true true_or or_false false_or not_true_eq_false not_false_eq_true ne_eq Nat.zero_add Nat.add_zero Nat.le_refl Nat.not_lt_zero Nat.lt_irrefl Nat.zero_le Int.toNat_natCast gt_iff_lt ge_iff_le Int.lt_irrefl Int.natCast_nonneg txt_eq get_nil appF elems belows AV.under AV.flat flats List.length_map List.map_append List.map_cons List.map_nil List.length_append take_map_all List.flatten_cons List.flatten_nil bld_nil imp_false false_imp_iff false_implies true_implies implies_true decide_eq_false_iff_not Nat.one_mul Nat.mul_one idsss_app renss_app belowss_app ev_mn ev_mx ev_isnils ev_sls ev_slx evo_none evo_some vals minV maxV minF maxF backId List.getElem?_nil putAll Option.all_none Option.all_some Option.isSome_some intOf aszI compactV_same compactV_new callP_any callQ_eq callN_any boxQ AV.id? ids_avR ren_av under_av snap_av renss_mapf belowss_mapf idsss_mapf isnilsF List.length_eq_zero_iff int_beq int_bne decide_not slx_av Int.toNat_zero ev_mkm ev_lk ev_mup ev_mdl ev_lenm ev_isnilm mpOf_s mapAt_s mapOf_nil mapOf_mp isnilm_nil isnilm_mp lkR Option.getD_some Option.getD_none Option.isSome_none Prim.rdo ev_snp snp_own snp_v
variable {E : Prog}
theorem fn_StorePlays (hE : Std E fns) (hv : VOK E) (hS : SOK E) (hB : RefBoot E) (haw : callP E f_usufructlaw05_awake [] = some (vb true)) (c : Int) (acts : Sl ActT) (hx : acts.list.length < 9223372036854775808) (hn : ∀ a, a ∈ acts.list → a.n ≤ 9223372036854775807) :
    callP E f_usufructlaw05_StorePlays [vi c, acv acts] = some (vb true) := by
  have hfw := fn_few hE acts hx
  cases hf : fewS acts.list with
  | false =>
    rw [hf] at hfw
    rw [hE.run rfl rfl]
    simp -implicitDefEqProofs only [go_sem, reduceIte, reduceCtorEq, Nat.reduceEqDiff, Nat.reduceAdd, Nat.reduceSub, Nat.reduceLT, Nat.reduceLeDiff, Nat.reduceBEq, Nat.reduceMul, Nat.reduceBNe, Int.reduceEq, Int.reduceLT, Int.reduceLE, Int.reduceNe, Int.reduceToNat, ir_usufructlaw05_StorePlays, haw, hfw, ro_act]
  | true =>
    rw [hf] at hfw
    simp only [fewS, Bool.and_eq_true, decide_eq_true_eq] at hf
    have hN := fn_new hE c
    by_cases c1 : c < 1
    · rw [if_pos (.inl c1)] at hN
      rw [hE.run rfl rfl]
      simp -implicitDefEqProofs only [go_sem, reduceIte, reduceCtorEq, Nat.reduceEqDiff, Nat.reduceAdd, Nat.reduceSub, Nat.reduceLT, Nat.reduceLeDiff, Nat.reduceBEq, Nat.reduceMul, Nat.reduceBNe, Int.reduceEq, Int.reduceLT, Int.reduceLE, Int.reduceNe, Int.reduceToNat, ir_usufructlaw05_StorePlays, haw, hfw, ro_act, hN, c1, ev_isnil, isnilP_nil]
    · by_cases c2 : 16777216 < c
      · rw [if_pos (.inr c2)] at hN
        rw [hE.run rfl rfl]
        simp -implicitDefEqProofs only [go_sem, reduceIte, reduceCtorEq, Nat.reduceEqDiff, Nat.reduceAdd, Nat.reduceSub, Nat.reduceLT, Nat.reduceLeDiff, Nat.reduceBEq, Nat.reduceMul, Nat.reduceBNe, Int.reduceEq, Int.reduceLT, Int.reduceLE, Int.reduceNe, Int.reduceToNat, ir_usufructlaw05_StorePlays, haw, hfw, ro_act, hN, c1, c2, ev_isnil, isnilP_nil]
      · rw [if_neg (by omega)] at hN
        have hlp := plays_loop hE hv hS hB acts c ⟨by omega, by omega⟩ hf.1 (fun a ha => List.all_eq_true.1 hf.2 a ha) hn (loopL_eq (IR.runL E.glob (callL E) [] ir_usufructlaw05_StorePlays_L1) (compact [] 2 [0, 1, 5, 6, 7, 8, 9])) acts.list 0 [] .nil false 0 rfl (Nat.zero_le _) (inv_nil _ (by omega)) ⟨by omega, by omega⟩
        simp only [fv, Sl.av, sto, Int.natCast_zero] at hN hlp
        rcases hlp with ⟨c3, f3, d3, l3, h⟩ | ⟨c3, f3, d3, l3, a3, h⟩
        · simp only [sto] at h
          rw [hE.run rfl rfl]
          simp -implicitDefEqProofs only [go_sem, reduceIte, reduceCtorEq, Nat.reduceEqDiff, Nat.reduceAdd, Nat.reduceSub, Nat.reduceLT, Nat.reduceLeDiff, Nat.reduceBEq, Nat.reduceMul, Nat.reduceBNe, Int.reduceEq, Int.reduceLT, Int.reduceLE, Int.reduceNe, Int.reduceToNat, ir_usufructlaw05_StorePlays, haw, hfw, ro_act, c1, c2, hN, h, ev_isnil, isnilP_ref, isnilP_nil, mapF_ids, mapF_ren]
        · simp only [sto, ActT.cells, List.cons_append, List.nil_append] at h
          rw [hE.run rfl rfl]
          simp -implicitDefEqProofs only [go_sem, reduceIte, reduceCtorEq, Nat.reduceEqDiff, Nat.reduceAdd, Nat.reduceSub, Nat.reduceLT, Nat.reduceLeDiff, Nat.reduceBEq, Nat.reduceMul, Nat.reduceBNe, Int.reduceEq, Int.reduceLT, Int.reduceLE, Int.reduceNe, Int.reduceToNat, ir_usufructlaw05_StorePlays, haw, hfw, ro_act, c1, c2, hN, h, ev_isnil, isnilP_ref, isnilP_nil, mapF_ids, mapF_ren, ActT.cells, ro_by, ro_in]
end Go.Proofs.YtaodpgpepmlfbaaDoor.Ev
