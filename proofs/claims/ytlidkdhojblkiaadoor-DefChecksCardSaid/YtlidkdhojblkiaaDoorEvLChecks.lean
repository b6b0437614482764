/-
  DefChecks: the law is answered true.
-/
import Derived.Test.YtlidkdhojblkiaaDoorEvCheck3
set_option linter.unusedVariables false
set_option linter.unusedSimpArgs false
namespace Go.Proofs.YtlidkdhojblkiaaDoor.Ev
attribute [local congr] bind_congr_head
attribute [local go_sem] opd_t opd_c opd_g opd_f opds_nil opds_cons get_cons put_some put_none keep_nil keepC_s keepC_n keep_cons runs_nil runs_cons run_op run_opr run_call run_gand run_gor run_gif seqK_norm seqK_exit seqK_ret blkK_norm blkK_exit blkK_ret runL_skip runL_exit runL_ret runL_items runL_seq runL_cond runL_block runL_loop fin_bind finK_norm finK_ret rvs_nil rvs_cons rv_tmp rv_cell tupOf_one tupOf_nil tupOf_two ev_mov ev_pick ev_alloc ev_box ev_build parts_nil parts_cons fills_nil fills_cons ev_bsl ev_bslo ev_load ev_store ev_nilck ev_bin ev_binb ev_aeq ev_un ev_i2i ev_s2b ev_ext ev_fld ev_idxs ev_fa ev_ias ev_len ev_lens ev_s2s ev_mkf ev_rng ev_nxt ev_app bOf_s pvOf_s agOf_s tpOf_s iOf_s sOf_s ite_bind Option.bind_some Option.bind_none if_true if_false ite_true ite_false argEnv_nil argEnv_cons len_av elems_av ias_av cells_av tuple_av AV.tuple AV.cells faF ldAt liveRef aggOf nilckF binV binI binS binB unV Bool.not_true Bool.not_false List.length_nil List.length_cons List.nil_append List.cons_append List.append_nil List.getElem?_cons_zero List.getElem?_cons_succ List.drop_zero List.drop_succ_cons List.drop_nil List.take_zero List.take_succ_cons List.take_nil List.set_cons_zero List.set_cons_succ compact_same compact_new closedB nodupB envIds ids0 upto visit pos sel AV.ids idss idsss Ob.ids AV.ren rens renss Ob.ren renEnv AV.snap snaps stAt okSt putCells List.all_nil List.all_cons List.contains_nil List.contains_cons Bool.and_true Bool.true_and Bool.and_false Bool.false_and Bool.or_true Bool.true_or Bool.or_false Bool.false_or decide_eq_true_eq decide_true decide_false beq_iff_eq bne_iff_ne beq_self_eq_true Bool.not_eq_true' Bool.false_eq_true eq_self and_self and_true true_and and_false false_and or_true true_or or_false false_or not_true_eq_false not_false_eq_true ne_eq Nat.zero_add Nat.add_zero Nat.le_refl Nat.not_lt_zero Nat.lt_irrefl Nat.zero_le Int.toNat_natCast gt_iff_lt ge_iff_le Int.lt_irrefl Int.natCast_nonneg txt_eq get_nil appF elems belows AV.under AV.flat flats List.length_map List.map_append List.map_cons List.map_nil List.length_append take_map_all List.flatten_cons List.flatten_nil bld_nil imp_false false_imp_iff false_implies true_implies implies_true decide_eq_false_iff_not Nat.one_mul Nat.mul_one idsss_app renss_app belowss_app ev_mn ev_mx ev_isnils ev_sls ev_slx evo_none evo_some vals minV maxV minF maxF backId List.getElem?_nil putAll Option.all_none Option.all_some Option.isSome_some intOf aszI compactV_same compactV_new callP_any callN_any ids_avR ren_av under_av snap_av renss_mapf belowss_mapf idsss_mapf isnilsF List.length_eq_zero_iff int_beq int_bne decide_not slx_av Int.toNat_zero

theorem equal_loop {G : Nat → Option (List AV)} {raw : Raw} {L : Env × Store → Option (Sig × Env × Store)} (a b : Sl StepT) (hlen : a.list.length = b.list.length) (hb : a.list.length < 9223372036854775807)
    (hL : ∀ e st, L (e, st) = (IR.runL G raw [] ir_slices_Equal_api_Step_api_Step_L0 e st).bind (seqK fun e st => L (compact [] 0 [0, 1, 12, 13] e st))) :
    ∀ (r1 r2 : List StepT) (i : Nat), a.list.drop i = r1 → b.list.drop i = r2 → i ≤ a.list.length →
    L ([(0, a.av 12 StepT.cells), (1, b.av 12 StepT.cells), (12, vi a.list.length), (13, vi i)], []) = if r1 = r2 then some (.exit 0, [], []) else some (.ret, [(4, vb false)], [])
  | [], r2, i, h, k, hi => by
    have h1 := drop_nil' h hi
    have : r2 = [] := by rw [← k]; exact List.drop_of_length_le (by omega)
    subst this
    rw [hL]
    simp only [go_sem, reduceIte, reduceCtorEq, Nat.reduceEqDiff, Nat.reduceAdd, Nat.reduceSub, Nat.reduceLT, Nat.reduceLeDiff, Nat.reduceBEq, Nat.reduceMul, Nat.reduceBNe, Int.reduceEq, Int.reduceLT, Int.reduceLE, Int.reduceNe, Int.reduceToNat, ir_slices_Equal_api_Step_api_Step_L0, h1]
  | x :: r1, [], i, h, k, hi => by
    obtain ⟨_, _, _, h4, _⟩ := drop_cons h
    have := drop_nil' k (by omega)
    omega
  | x :: r1, y :: r2, i, h, k, hi => by
    obtain ⟨h1, h2, h3, h4, h5⟩ := drop_cons h
    obtain ⟨k1, k2, _, _, _⟩ := drop_cons k
    have h6 := wrap_succ (i := i) (by omega)
    have ih := equal_loop a b hlen hb hL r1 r2 (i + 1) h2 k2 h4
    have he := eqL_step x y
    rw [hL]
    by_cases c : x = y
    · subst c
      simp only [List.cons.injEq, true_and]
      rw [← ih]
      simp only [decide_true] at he
      simp only [go_sem, reduceIte, reduceCtorEq, Nat.reduceEqDiff, Nat.reduceAdd, Nat.reduceSub, Nat.reduceLT, Nat.reduceLeDiff, Nat.reduceBEq, Nat.reduceMul, Nat.reduceBNe, Int.reduceEq, Int.reduceLT, Int.reduceLE, Int.reduceNe, Int.reduceToNat, ir_slices_Equal_api_Step_api_Step_L0, h1, h3, h6, k1, step_le12, step_take, he]
    · simp only [c, decide_false] at he
      simp only [go_sem, reduceIte, reduceCtorEq, Nat.reduceEqDiff, Nat.reduceAdd, Nat.reduceSub, Nat.reduceLT, Nat.reduceLeDiff, Nat.reduceBEq, Nat.reduceMul, Nat.reduceBNe, Int.reduceEq, Int.reduceLT, Int.reduceLE, Int.reduceNe, Int.reduceToNat, ir_slices_Equal_api_Step_api_Step_L0, h1, h3, h6, k1, step_le12, step_take, he, List.cons.injEq, c]
theorem fn_equal {E : Prog} (hE : Std E fns) (a b : Sl StepT) (hb : a.list.length < 9223372036854775807) : callP E f_slices_Equal_api_Step_api_Step [a.av 12 StepT.cells, b.av 12 StepT.cells] = some (vb (decide (a.list = b.list))) := by
  rw [hE.run rfl rfl]
  by_cases c3 : a.list.length = b.list.length
  · have hl := equal_loop a b c3 hb (loopL_eq (IR.runL E.glob (callL E) [] ir_slices_Equal_api_Step_api_Step_L0) (compact [] 0 [0, 1, 12, 13])) _ _ 0 rfl rfl (by omega)
    simp only [Int.natCast_zero, List.drop_zero] at hl
    have c3' : (a.list.length : Int) = b.list.length := by omega
    by_cases c4 : a.list = b.list
    · simp only [c4, if_true] at hl
      simp only [go_sem, reduceIte, reduceCtorEq, Nat.reduceEqDiff, Nat.reduceAdd, Nat.reduceSub, Nat.reduceLT, Nat.reduceLeDiff, Nat.reduceBEq, Nat.reduceMul, Nat.reduceBNe, Int.reduceEq, Int.reduceLT, Int.reduceLE, Int.reduceNe, Int.reduceToNat, ir_slices_Equal_api_Step_api_Step, c3', c4, hl, ro_step]
    · simp only [c4, if_false] at hl
      rw [c3'] at hl
      simp only [go_sem, reduceIte, reduceCtorEq, Nat.reduceEqDiff, Nat.reduceAdd, Nat.reduceSub, Nat.reduceLT, Nat.reduceLeDiff, Nat.reduceBEq, Nat.reduceMul, Nat.reduceBNe, Int.reduceEq, Int.reduceLT, Int.reduceLE, Int.reduceNe, Int.reduceToNat, ir_slices_Equal_api_Step_api_Step, c3', c4, hl, ro_step]
  · have c3' : ¬ (a.list.length : Int) = b.list.length := by omega
    have c4 : ¬ a.list = b.list := fun e => c3 (by rw [e])
    simp only [go_sem, reduceIte, reduceCtorEq, Nat.reduceEqDiff, Nat.reduceAdd, Nat.reduceSub, Nat.reduceLT, Nat.reduceLeDiff, Nat.reduceBEq, Nat.reduceMul, Nat.reduceBNe, Int.reduceEq, Int.reduceLT, Int.reduceLE, Int.reduceNe, Int.reduceToNat, ir_slices_Equal_api_Step_api_Step, c3', c4, ro_step]
theorem fn_same {E : Prog} (hE : Std E fns) (a b : DefT) (hb : a.steps.list.length < 9223372036854775807) : callP E f_def_Same [.agg a.cells, .agg b.cells] = some (vb (sameS a b)) := by
  have h := fn_equal hE a.steps b.steps hb
  rw [hE.run rfl rfl]
  by_cases c1 : a.name = b.name
  · by_cases c2 : a.deadline = b.deadline
    · simp only [go_sem, reduceIte, reduceCtorEq, Nat.reduceEqDiff, Nat.reduceAdd, Nat.reduceSub, Nat.reduceLT, Nat.reduceLeDiff, Nat.reduceBEq, Nat.reduceMul, Nat.reduceBNe, Int.reduceEq, Int.reduceLT, Int.reduceLE, Int.reduceNe, Int.reduceToNat, ir_def_Same, DefT.cells, h, c1, c2, sameS, ro_step]
    · simp only [go_sem, reduceIte, reduceCtorEq, Nat.reduceEqDiff, Nat.reduceAdd, Nat.reduceSub, Nat.reduceLT, Nat.reduceLeDiff, Nat.reduceBEq, Nat.reduceMul, Nat.reduceBNe, Int.reduceEq, Int.reduceLT, Int.reduceLE, Int.reduceNe, Int.reduceToNat, ir_def_Same, DefT.cells, h, c1, c2, sameS, ro_step]
  · simp only [go_sem, reduceIte, reduceCtorEq, Nat.reduceEqDiff, Nat.reduceAdd, Nat.reduceSub, Nat.reduceLT, Nat.reduceLeDiff, Nat.reduceBEq, Nat.reduceMul, Nat.reduceBNe, Int.reduceEq, Int.reduceLT, Int.reduceLE, Int.reduceNe, Int.reduceToNat, ir_def_Same, DefT.cells, h, c1, sameS, ro_step]
theorem fn_lawChecks {E : Prog} (hE : Std E fns) (hv : ∀ s : ByteArray, s.size < 9223372036854775807 → callP E f_utf8_ValidString [vs s] = some (vb (Lib.validD s.data.toList))) (hw : callP E f_usufructlaw13_awake [] = some (vb true)) (d o : DefT) (a : Int) :
    callP E f_usufructlaw13_DefChecks [.agg d.cells, .agg o.cells, vi a] = some (vb true) := by
  have h1 := fn_small hE d
  have h1' := fn_small hE o
  rw [hE.run rfl rfl]
  by_cases c : smallS d = 0
  · by_cases c' : smallS o = 0
    · have hd := short_of c
      have h2 := fn_own hE d (by have := hd.2.1; omega)
      have h3 := fn_sameRef hE d o (by have := hd.2.1; omega)
      have h3' := fn_sameRef hE d d (by have := hd.2.1; omega)
      have h4 := fn_same hE d o (by have := hd.2.1; omega)
      have h5 := fn_end hE d a
      have h6 := fn_endRef hE d a
      have h7 := fn_check hE hv d hd
      have h8 := fn_checkRef hE d hd
      have hss : sameS d d = true := by simp [sameS]
      rw [hss] at h3'
      have hbb : ∀ b : Bool, (b == b) = true := fun b => by cases b <;> rfl
      obtain ⟨nm, dl, s⟩ := d
      cases s with
      | nil =>
        simp only [DefT.cells, av_nil, av_mk, ownN] at h1 h1' h2 h3 h3' h4 h5 h6 h7 h8
        simp only [go_sem, reduceIte, reduceCtorEq, Nat.reduceEqDiff, Nat.reduceAdd, Nat.reduceSub, Nat.reduceLT, Nat.reduceLeDiff, Nat.reduceBEq, Nat.reduceMul, Nat.reduceBNe, Int.reduceEq, Int.reduceLT, Int.reduceLE, Int.reduceNe, Int.reduceToNat, ir_usufructlaw13_DefChecks, DefT.cells, hw, h1, h1', h2, h3, h3', h4, h5, h6, h7, h8, c, c', av_nil, av_mk, ro_step, List.getElem?_cons_zero, hbb]
      | mk xs =>
        simp only [DefT.cells, av_nil, av_mk, ownN] at h1 h1' h2 h3 h3' h4 h5 h6 h7 h8
        simp only [go_sem, reduceIte, reduceCtorEq, Nat.reduceEqDiff, Nat.reduceAdd, Nat.reduceSub, Nat.reduceLT, Nat.reduceLeDiff, Nat.reduceBEq, Nat.reduceMul, Nat.reduceBNe, Int.reduceEq, Int.reduceLT, Int.reduceLE, Int.reduceNe, Int.reduceToNat, ir_usufructlaw13_DefChecks, DefT.cells, hw, h1, h1', h2, h3, h3', h4, h5, h6, h7, h8, c, c', av_nil, av_mk, ro_step, List.getElem?_cons_zero, hbb]
    · simp only [DefT.cells] at h1 h1'
      simp only [go_sem, reduceIte, reduceCtorEq, Nat.reduceEqDiff, Nat.reduceAdd, Nat.reduceSub, Nat.reduceLT, Nat.reduceLeDiff, Nat.reduceBEq, Nat.reduceMul, Nat.reduceBNe, Int.reduceEq, Int.reduceLT, Int.reduceLE, Int.reduceNe, Int.reduceToNat, ir_usufructlaw13_DefChecks, DefT.cells, hw, h1, h1', c, c', ro_step]
  · simp only [DefT.cells] at h1
    simp only [go_sem, reduceIte, reduceCtorEq, Nat.reduceEqDiff, Nat.reduceAdd, Nat.reduceSub, Nat.reduceLT, Nat.reduceLeDiff, Nat.reduceBEq, Nat.reduceMul, Nat.reduceBNe, Int.reduceEq, Int.reduceLT, Int.reduceLE, Int.reduceNe, Int.reduceToNat, ir_usufructlaw13_DefChecks, DefT.cells, hw, h1, c, ro_step]
end Go.Proofs.YtlidkdhojblkiaaDoor.Ev
