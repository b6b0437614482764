/-
  An act that is done to a store.
-/
import Derived.Test.YtaodpgpepmlfbaaDoorEvSt4
set_option linter.unusedVariables false
set_option linter.unusedSimpArgs false
namespace Go.Proofs.YtaodpgpepmlfbaaDoor.Ev
attribute [local congr] bind_congr_head
attribute [local go_sem] opd_t opd_c opd_g opd_f opds_nil opds_cons get_cons put_some put_none keep_nil keepC_s keepC_n keep_cons runs_nil runs_cons run_op run_opr run_call run_gand run_gor run_gif seqK_norm seqK_exit seqK_ret blkK_norm blkK_exit blkK_ret runL_skip runL_exit runL_ret runL_items runL_seq runL_cond runL_block runL_loop fin_bind finK_norm finK_ret rvs_nil rvs_cons rv_tmp rv_cell tupOf_one tupOf_nil tupOf_two ev_mov ev_pick ev_alloc ev_box ev_build parts_nil parts_cons fills_nil fills_cons ev_bsl ev_bslo ev_load ev_store ev_nilck ev_bin ev_binb ev_aeq ev_un ev_i2i ev_i2t ev_isnilI nilIF ev_s2b ev_ext ev_fld ev_idxs ev_fa ev_ias ev_len ev_lens ev_s2s ev_mkf ev_rng ev_nxt ev_app bOf_s pvOf_s agOf_s tpOf_s iOf_s sOf_s ite_bind Option.bind_some Option.bind_none if_true if_false ite_true ite_false argEnv_nil argEnv_cons len_av elems_av ias_av cells_av tuple_av AV.tuple AV.cells faF ldAt liveRef aggOf nilckF binV binI binS binB unV Bool.not_true Bool.not_false List.length_nil List.length_cons List.nil_append List.cons_append List.append_nil List.getElem?_cons_zero List.getElem?_cons_succ List.drop_zero List.drop_succ_cons List.drop_nil List.take_zero List.take_succ_cons List.take_nil List.set_cons_zero List.set_cons_succ compact_same compact_new closedB nodupB envIds ids0 upto visit pos sel AV.ids idss idsss Ob.ids AV.ren rens renss Ob.ren renEnv AV.snap snaps stAt okSt putCells List.all_nil List.all_cons List.contains_nil List.contains_cons Bool.and_true Bool.true_and Bool.and_false Bool.false_and Bool.or_true Bool.true_or Bool.or_false Bool.false_or decide_eq_true_eq decide_true decide_false beq_iff_eq bne_iff_ne beq_self_eq_true Bool.not_eq_true' Bool.false_eq_true eq_self and_self and_true true_and and_false false_and or_true true_or or_false false_or not_true_eq_false not_false_eq_true ne_eq Nat.zero_add Nat.add_zero Nat.le_refl Nat.not_lt_zero Nat.lt_irrefl Nat.zero_le Int.toNat_natCast gt_iff_lt ge_iff_le Int.lt_irrefl Int.natCast_nonneg txt_eq get_nil appF elems belows AV.under AV.flat flats List.length_map List.map_append List.map_cons List.map_nil List.length_append take_map_all List.flatten_cons List.flatten_nil bld_nil imp_false false_imp_iff false_implies true_implies implies_true decide_eq_false_iff_not Nat.one_mul Nat.mul_one idsss_app renss_app belowss_app ev_mn ev_mx ev_isnils ev_sls ev_slx evo_none evo_some vals minV maxV minF maxF backId List.getElem?_nil putAll Option.all_none Option.all_some Option.isSome_some intOf aszI compactV_same compactV_new callP_any callQ_eq callN_any boxQ AV.id? ids_avR ren_av under_av snap_av renss_mapf belowss_mapf idsss_mapf isnilsF List.length_eq_zero_iff int_beq int_bne decide_not slx_av Int.toNat_zero ev_mkm ev_lk ev_mup ev_mdl ev_lenm ev_isnilm mpOf_s mapAt_s mapOf_nil mapOf_mp isnilm_nil isnilm_mp lkR Option.getD_some Option.getD_none Option.isSome_none Prim.rdo ev_snp snp_own snp_v
structure ActT where
  (k n : Int) (nm : ByteArray) (b : Sl UInt8) (kp : Sl Int)
def ActT.cells (a : ActT) : List AV := [vi a.k, vi a.n, vs a.nm, a.b.av 1 byC, a.kp.av 1 inC]
theorem ro_act : Ro ActT.cells := fun a => by
  simp only [ActT.cells, idss, ids_avR ro_by, ids_avR ro_in, AV.ids, List.append_nil]
variable {E : Prog}
def crashS (l : List FX) : Int × Int × Bool × List FX := (0, 0, true, l)
def bootS (l : List FX) (down : Bool) (fuse : Int) (keep : List Int) : Int × Int × Bool × List FX :=
  if down = true then (0, fuse, false, bootL keep (sortN (l.map FX.n)) 0 l) else (9, fuse, down, l)
def runS (cap : Int) (l : List FX) (down : Bool) (fuse : Int) (a : ActT) : Int × Int × Bool × List FX :=
  if a.k = 0 ∨ a.k = 1 then appS cap l down fuse a.nm a.b.list else if a.k = 2 then syncS l down fuse a.nm else if a.k = 3 then truncS l down fuse a.nm a.n
  else if a.k = 4 then removeS l down fuse a.nm else if a.k = 5 then crashS l else if a.k = 6 then bootS l down fuse a.kp.list else (0, fuse, down, l)
structure RunOK (cap fuse : Int) (l : List FX) (a : ActT) : Prop where
  hf : 0 ≤ fuse ∧ fuse ≤ 9223372036854775807
  hc : 0 ≤ cap ∧ cap ≤ 4611686018427387904 ∧ (totF l : Int) ≤ cap
  hn : a.nm.size < 9223372036854775807
  hk : a.kp.list.length ≤ 100000
  hl : l.length ≤ 100000
  hm : ∀ f, f ∈ l → f.n.size ≤ 100000
  ho : okB a.kp.list (sortN (l.map FX.n)) 0 l
theorem fn_run (hE : Std E fns) (hv : VOK E) (hS : SOK E) (cap fuse : Int) (down : Bool) (l : List FX) (a : ActT) (h : RunOK cap fuse l a) :
    callL E f_usufructlaw05_run [.ref 0 0 0 0, .agg a.cells] [] (sto cap fuse down l) = some (vi (runS cap l down fuse a).1, sto cap (runS cap l down fuse a).2.1 (runS cap l down fuse a).2.2.1 (runS cap l down fuse a).2.2.2) := by
  have h1 := fn_append hE hv hS cap fuse down l a.nm a.b h.hf h.hn h.hc
  have h2 := fn_sync hE cap fuse down l a.nm h.hf
  have h3 := fn_trunc hE cap fuse down l a.nm a.n h.hf
  have h4 := fn_remove hE cap fuse down l a.nm h.hf
  have h5 := fn_crash hE cap fuse down l
  have h6 := fn_boot hE hS cap fuse down l a.kp h.hk h.hl h.hm h.ho
  have e6 : (if down = true then (vi 0, sto cap fuse false (bootL a.kp.list (sortN (l.map FX.n)) 0 l)) else (vi 9, sto cap fuse down l)) = (vi (bootS l down fuse a.kp.list).1, sto cap (bootS l down fuse a.kp.list).2.1 (bootS l down fuse a.kp.list).2.2.1 (bootS l down fuse a.kp.list).2.2.2) := by
    unfold bootS; cases down <;> rfl
  rw [e6] at h6
  rw [hE.runN rfl rfl]
  unfold runS
  by_cases k0 : a.k = 0
  · simp only [k0, true_or, if_true]
    generalize appS cap l down fuse a.nm a.b.list = r at *
    simp only [sto] at h1 ⊢
    simp -implicitDefEqProofs only [go_sem, reduceIte, reduceCtorEq, Nat.reduceEqDiff, Nat.reduceAdd, Nat.reduceSub, Nat.reduceLT, Nat.reduceLeDiff, Nat.reduceBEq, Nat.reduceMul, Nat.reduceBNe, Int.reduceEq, Int.reduceLT, Int.reduceLE, Int.reduceNe, Int.reduceToNat, ir_usufructlaw05_run, ActT.cells, k0, h1, mapF_ids, mapF_ren, ro_by, ro_in]
  · by_cases k1 : a.k = 1
    · simp only [k1, or_true, if_true]
      generalize appS cap l down fuse a.nm a.b.list = r at *
      simp only [sto] at h1 ⊢
      simp -implicitDefEqProofs only [go_sem, reduceIte, reduceCtorEq, Nat.reduceEqDiff, Nat.reduceAdd, Nat.reduceSub, Nat.reduceLT, Nat.reduceLeDiff, Nat.reduceBEq, Nat.reduceMul, Nat.reduceBNe, Int.reduceEq, Int.reduceLT, Int.reduceLE, Int.reduceNe, Int.reduceToNat, ir_usufructlaw05_run, ActT.cells, k1, h1, mapF_ids, mapF_ren, ro_by, ro_in]
    · rw [if_neg (show ¬ (a.k = 0 ∨ a.k = 1) by omega)]
      by_cases k2 : a.k = 2
      · simp only [k2, if_true]
        generalize syncS l down fuse a.nm = r at *
        simp only [sto] at h2 ⊢
        simp -implicitDefEqProofs only [go_sem, reduceIte, reduceCtorEq, Nat.reduceEqDiff, Nat.reduceAdd, Nat.reduceSub, Nat.reduceLT, Nat.reduceLeDiff, Nat.reduceBEq, Nat.reduceMul, Nat.reduceBNe, Int.reduceEq, Int.reduceLT, Int.reduceLE, Int.reduceNe, Int.reduceToNat, ir_usufructlaw05_run, ActT.cells, k2, h2, mapF_ids, mapF_ren, ro_by, ro_in]
      · rw [if_neg k2]
        by_cases k3 : a.k = 3
        · simp only [k3, if_true]
          generalize truncS l down fuse a.nm a.n = r at *
          simp only [sto] at h3 ⊢
          simp -implicitDefEqProofs only [go_sem, reduceIte, reduceCtorEq, Nat.reduceEqDiff, Nat.reduceAdd, Nat.reduceSub, Nat.reduceLT, Nat.reduceLeDiff, Nat.reduceBEq, Nat.reduceMul, Nat.reduceBNe, Int.reduceEq, Int.reduceLT, Int.reduceLE, Int.reduceNe, Int.reduceToNat, ir_usufructlaw05_run, ActT.cells, k3, h3, mapF_ids, mapF_ren, ro_by, ro_in]
        · rw [if_neg k3]
          by_cases k4 : a.k = 4
          · simp only [k4, if_true]
            generalize removeS l down fuse a.nm = r at *
            simp only [sto] at h4 ⊢
            simp -implicitDefEqProofs only [go_sem, reduceIte, reduceCtorEq, Nat.reduceEqDiff, Nat.reduceAdd, Nat.reduceSub, Nat.reduceLT, Nat.reduceLeDiff, Nat.reduceBEq, Nat.reduceMul, Nat.reduceBNe, Int.reduceEq, Int.reduceLT, Int.reduceLE, Int.reduceNe, Int.reduceToNat, ir_usufructlaw05_run, ActT.cells, k4, h4, mapF_ids, mapF_ren, ro_by, ro_in]
          · rw [if_neg k4]
            by_cases k5 : a.k = 5
            · simp only [k5, if_true, crashS]
              simp only [sto] at h5 ⊢
              simp -implicitDefEqProofs only [go_sem, reduceIte, reduceCtorEq, Nat.reduceEqDiff, Nat.reduceAdd, Nat.reduceSub, Nat.reduceLT, Nat.reduceLeDiff, Nat.reduceBEq, Nat.reduceMul, Nat.reduceBNe, Int.reduceEq, Int.reduceLT, Int.reduceLE, Int.reduceNe, Int.reduceToNat, ir_usufructlaw05_run, ActT.cells, k5, h5, mapF_ids, mapF_ren, ro_by, ro_in]
            · rw [if_neg k5]
              by_cases k6 : a.k = 6
              · simp only [k6, if_true]
                generalize bootS l down fuse a.kp.list = r at *
                simp only [sto] at h6 ⊢
                simp -implicitDefEqProofs only [go_sem, reduceIte, reduceCtorEq, Nat.reduceEqDiff, Nat.reduceAdd, Nat.reduceSub, Nat.reduceLT, Nat.reduceLeDiff, Nat.reduceBEq, Nat.reduceMul, Nat.reduceBNe, Int.reduceEq, Int.reduceLT, Int.reduceLE, Int.reduceNe, Int.reduceToNat, ir_usufructlaw05_run, ActT.cells, k6, h6, mapF_ids, mapF_ren, ro_by, ro_in]
              · rw [if_neg k6]
                simp only [sto]
                simp -implicitDefEqProofs only [go_sem, reduceIte, reduceCtorEq, Nat.reduceEqDiff, Nat.reduceAdd, Nat.reduceSub, Nat.reduceLT, Nat.reduceLeDiff, Nat.reduceBEq, Nat.reduceMul, Nat.reduceBNe, Int.reduceEq, Int.reduceLT, Int.reduceLE, Int.reduceNe, Int.reduceToNat, ir_usufructlaw05_run, ActT.cells, k0, k1, k2, k3, k4, k5, k6, mapF_ids, mapF_ren, ro_by, ro_in]
end Go.Proofs.YtaodpgpepmlfbaaDoor.Ev
