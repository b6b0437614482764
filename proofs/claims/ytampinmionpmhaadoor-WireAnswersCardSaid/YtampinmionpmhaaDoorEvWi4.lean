/-
  Lines of commands and replies: what is read of a command's line, and the lines.
-/
import Derived.Test.YtampinmionpmhaaDoorEvWi3
set_option linter.unusedVariables false
set_option linter.unusedSimpArgs false
namespace Go.Proofs.YtampinmionpmhaaDoor.Ev
attribute [local congr] bind_congr_head
attribute [local go_sem] opd_t opd_c opd_g opd_f opds_nil opds_cons get_cons put_some put_none keep_nil keepC_s keepC_n keep_cons runs_nil runs_cons run_op run_opr run_call run_gand run_gor run_gif seqK_norm seqK_exit seqK_ret blkK_norm blkK_exit blkK_ret runL_skip runL_exit runL_ret runL_items runL_seq runL_cond runL_block runL_loop fin_bind finK_norm finK_ret rvs_nil rvs_cons rv_tmp rv_cell tupOf_one tupOf_nil tupOf_two ev_mov ev_pick ev_alloc ev_box ev_build parts_nil parts_cons fills_nil fills_cons ev_bsl ev_bslo ev_load ev_store ev_nilck ev_bin ev_binb ev_aeq ev_un ev_i2i ev_i2t ev_isnilI nilIF ev_s2b ev_ext ev_fld ev_idxs ev_fa ev_ias ev_len ev_lens ev_s2s ev_mkf ev_rng ev_nxt ev_app bOf_s pvOf_s agOf_s tpOf_s iOf_s sOf_s ite_bind Option.bind_some Option.bind_none if_true if_false ite_true ite_false argEnv_nil argEnv_cons len_av elems_av ias_av cells_av tuple_av faF ldAt liveRef aggOf nilckF binV binI binS binB unV Bool.not_true Bool.not_false List.length_nil List.length_cons List.nil_append List.cons_append List.append_nil List.getElem?_cons_zero List.getElem?_cons_succ List.drop_zero List.drop_succ_cons List.drop_nil List.take_zero List.take_succ_cons List.take_nil List.set_cons_zero List.set_cons_succ compact_same compact_new closedB nodupB envIds ids0 upto visit pos sel AV.ids idss idsss Ob.ids AV.ren rens renss Ob.ren renEnv AV.snap snaps stAt okSt putCells List.all_nil List.all_cons List.contains_nil List.contains_cons Bool.and_true Bool.true_and Bool.and_false Bool.false_and Bool.or_true Bool.true_or Bool.or_false Bool.false_or decide_eq_true_eq decide_true decide_false beq_iff_eq bne_iff_ne beq_self_eq_true Bool.not_eq_true' Bool.false_eq_true eq_self and_self and_true true_and and_false false_and or_true true_or or_false false_or not_true_eq_false not_false_eq_true ne_eq Nat.zero_add Nat.add_zero Nat.le_refl Nat.not_lt_zero Nat.lt_irrefl Nat.zero_le Int.toNat_natCast gt_iff_lt ge_iff_le Int.lt_irrefl Int.natCast_nonneg txt_eq get_nil appF belows AV.under AV.flat flats List.length_map List.map_append List.map_cons List.map_nil List.length_append take_map_all List.flatten_cons List.flatten_nil bld_nil imp_false false_imp_iff false_implies true_implies implies_true decide_eq_false_iff_not Nat.one_mul Nat.mul_one idsss_app renss_app belowss_app ev_mn ev_mx ev_isnils ev_sls ev_slx evo_none evo_some vals minV maxV minF maxF backId List.getElem?_nil putAll Option.all_none Option.all_some Option.isSome_some intOf aszI compactV_same compactV_new callP_any callQ_eq callN_any boxQ AV.id? ids_avR ren_av under_av snap_av renss_mapf belowss_mapf idsss_mapf isnilsF List.length_eq_zero_iff int_beq int_bne decide_not slx_av Int.toNat_zero
def badC (ws : List (List UInt8)) : Bool := badH wSend 7 ws || !goodC (cmdW ws)
theorem fn_readCommand {E : Prog} (hE : Std E fns) (hi : ITOK E) (hat : ATOK E) (hsp : SPB E) (hv : VOK E) (hss : SPS E) (s : List UInt8) (hl : s.length ≤ 900000) (hk : ((pcs s).getD 6 []).length ≤ 400) :
    callP E f_wire_ReadCommand [vs (BA s)] = some (.tup [.agg (if badC (pcs s) = true then c0 else cmdW (pcs s)).cells, vb (!badC (pcs s))]) := by
  have hw := fn_words hE hsp s 7 (by omega)
  have h1 := pcs_len s
  have h2 : (pcs s).length < 1000000 := by omega
  have h3 : ∀ w, w ∈ pcs s → w.length ≤ 1000000 := fun w m => by have := pcs_le s w m; omega
  generalize hz : pcs s = ws at *
  have h5 : (ws.getD 5 []).length ≤ 1000000 := by
    rw [List.getD_eq_getElem?_getD]
    by_cases c : 5 < ws.length
    · rw [List.getElem?_eq_getElem c]; exact h3 _ (List.getElem_mem c)
    · rw [List.getElem?_eq_none (by omega)]; simp
  have hg := fn_goodC hE hv hss (cmdW ws) hk (by show (BA _).size < _; rw [ba_size]; omega)
  have a0 := st_must hE 0 1 0 1 rfl rfl rfl ws (by decide) h2 wSend
  have a1 := st_number hE hi hat 1 2 1 2 rfl rfl rfl ws (by decide) h2 h3
  have a2 := st_number hE hi hat 2 3 2 3 rfl rfl rfl ws (by decide) h2 h3
  have a3 := st_either hE 3 4 3 4 rfl rfl rfl ws (by decide) h2 wUndo wDo
  have a4 := st_number hE hi hat 4 5 4 5 rfl rfl rfl ws (by decide) h2 h3
  have a5 := st_next hE 5 6 5 6 rfl rfl rfl ws (by decide) h2
  have a6 := st_next hE 6 7 6 7 rfl rfl rfl ws (by decide) h2
  have hb : badH wSend 7 ws = ((((((!decide (ws.getD 0 [] = wSend) || !decide ((ws.length : Int) = 7)) || !numK (ws.getD 1 [])) || !numK (ws.getD 2 [])) || (!decide (ws.getD 3 [] = wUndo) && !decide (ws.getD 3 [] = wDo))) || !numK (ws.getD 4 []))) := rfl
  rw [hE.run rfl rfl]
  unfold badC
  generalize hgc : goodC (cmdW ws) = gc at *
  unfold cmdW at hg ⊢
  generalize hz0 : ws.getD 0 [] = w0 at *
  generalize hz1 : ws.getD 1 [] = w1 at *
  generalize hz2 : ws.getD 2 [] = w2 at *
  generalize hz3 : ws.getD 3 [] = w3 at *
  generalize hz4 : ws.getD 4 [] = w4 at *
  generalize hz5 : ws.getD 5 [] = w5 at *
  generalize hz6 : ws.getD 6 [] = w6 at *
  have b0 : BA wSend = ⟨#[115, 101, 110, 100]⟩ := rfl
  have b1 : BA wUndo = ⟨#[117, 110, 100, 111]⟩ := rfl
  have b2 : BA wDo = ⟨#[100, 111]⟩ := rfl
  simp only [b0, b1, b2] at a0 a3
  simp only [CmdT.cells] at hg
  rw [hb]
  simp only [tkS, Int.natCast_zero] at hw
  simp -implicitDefEqProofs only [go_sem, reduceIte, reduceCtorEq, Nat.reduceEqDiff, Nat.reduceAdd, Nat.reduceSub, Nat.reduceLT, Nat.reduceLeDiff, Nat.reduceBEq, Nat.reduceMul, Nat.reduceBNe, Int.reduceEq, Int.reduceLT, Int.reduceLE, Int.reduceNe, Int.reduceToNat, ir_wire_ReadCommand, hw, a0, a1, a2, a3, a4, a5, a6, hg, ro_strL, cv_v, cv_fn, cv_ref, cv_agg, tv_v, tv_fn, tv_ref, tv_agg]
  cases (!decide (w0 = wSend) || !decide ((ws.length : Int) = 7) || !numK w1 || !numK w2 || !decide (w3 = wUndo) && !decide (w3 = wDo) || !numK w4) <;> cases gc <;> rfl
end Go.Proofs.YtampinmionpmhaaDoor.Ev
