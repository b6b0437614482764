/-
  Check: the program's, and the document's.
-/
import Derived.Test.YtlidkdhojblkiaaDoorEvDef
import Derived.Test.YtlidkdhojblkiaaDoorEvUtf3
set_option linter.unusedVariables false
set_option linter.unusedSimpArgs false
namespace Go.Proofs.YtlidkdhojblkiaaDoor.Ev
attribute [local congr] bind_congr_head
attribute [local go_sem] opd_t opd_c opd_g opd_f opds_nil opds_cons get_cons put_some put_none keep_nil keepC_s keepC_n keep_cons runs_nil runs_cons run_op run_opr run_call run_gand run_gor run_gif seqK_norm seqK_exit seqK_ret blkK_norm blkK_exit blkK_ret runL_skip runL_exit runL_ret runL_items runL_seq runL_cond runL_block runL_loop fin_bind finK_norm finK_ret rvs_nil rvs_cons rv_tmp rv_cell tupOf_one tupOf_nil tupOf_two ev_mov ev_pick ev_alloc ev_box ev_build parts_nil parts_cons fills_nil fills_cons ev_bsl ev_bslo ev_load ev_store ev_nilck ev_bin ev_binb ev_aeq ev_un ev_i2i ev_s2b ev_ext ev_fld ev_idxs ev_fa ev_ias ev_len ev_lens ev_s2s ev_mkf ev_rng ev_nxt ev_app bOf_s pvOf_s agOf_s tpOf_s iOf_s sOf_s ite_bind Option.bind_some Option.bind_none if_true if_false ite_true ite_false argEnv_nil argEnv_cons len_av elems_av ias_av cells_av tuple_av AV.tuple AV.cells faF ldAt liveRef aggOf nilckF binV binI binS binB unV Bool.not_true Bool.not_false List.length_nil List.length_cons List.nil_append List.cons_append List.append_nil List.getElem?_cons_zero List.getElem?_cons_succ List.drop_zero List.drop_succ_cons List.drop_nil List.take_zero List.take_succ_cons List.take_nil List.set_cons_zero List.set_cons_succ compact_same compact_new closedB nodupB envIds ids0 upto visit pos sel AV.ids idss idsss Ob.ids AV.ren rens renss Ob.ren renEnv AV.snap snaps stAt okSt putCells List.all_nil List.all_cons List.contains_nil List.contains_cons Bool.and_true Bool.true_and Bool.and_false Bool.false_and Bool.or_true Bool.true_or Bool.or_false Bool.false_or decide_eq_true_eq decide_true decide_false beq_iff_eq bne_iff_ne beq_self_eq_true Bool.not_eq_true' Bool.false_eq_true eq_self and_self and_true true_and and_false false_and or_true true_or or_false false_or not_true_eq_false not_false_eq_true ne_eq Nat.zero_add Nat.add_zero Nat.le_refl Nat.not_lt_zero Nat.lt_irrefl Nat.zero_le Int.toNat_natCast gt_iff_lt ge_iff_le Int.lt_irrefl Int.natCast_nonneg txt_eq get_nil appF elems belows AV.under AV.flat flats List.length_map List.map_append List.map_cons List.map_nil List.length_append take_map_all List.flatten_cons List.flatten_nil bld_nil imp_false false_imp_iff false_implies true_implies implies_true decide_eq_false_iff_not Nat.one_mul Nat.mul_one idsss_app renss_app belowss_app ev_mn ev_mx ev_isnils ev_sls ev_slx evo_none evo_some vals minV maxV minF maxF backId List.getElem?_nil putAll Option.all_none Option.all_some Option.isSome_some intOf aszI compactV_same compactV_new callP_any callN_any ids_avR ren_av under_av snap_av renss_mapf belowss_mapf idsss_mapf isnilsF List.length_eq_zero_iff int_beq int_bne decide_not slx_av Int.toNat_zero

/-! ### plans -/
def planS (p : PlanT) : Bool := decide (0 ≤ p.ret) && decide (p.ret ≤ 1000) && decide (1 ≤ p.base) && decide (1 ≤ p.fac) && decide (p.fac ≤ 16) && decide (p.base ≤ p.cap) && decide (p.cap ≤ 1099511627776)
theorem plan_ids (p : PlanT) : idss p.cells = [] := rfl
theorem ro_plan : Ro PlanT.cells := plan_ids
theorem fn_backoffGood {E : Prog} (hE : Std E fns) (p : PlanT) : callP E f_backoff_Good [.agg p.cells] = some (vb (planS p)) := by
  rw [hE.run rfl rfl]
  simp only [go_sem, reduceIte, reduceCtorEq, Nat.reduceEqDiff, Nat.reduceAdd, Nat.reduceSub, Nat.reduceLT, Nat.reduceLeDiff, Nat.reduceBEq, Nat.reduceMul, Nat.reduceBNe, Int.reduceEq, Int.reduceLT, Int.reduceLE, Int.reduceNe, Int.reduceToNat, ir_backoff_Good, PlanT.cells, planS]
  by_cases h1 : 0 ≤ p.ret
  · by_cases h2 : p.ret ≤ 1000
    · by_cases h3 : 1 ≤ p.base
      · by_cases h4 : 1 ≤ p.fac
        · by_cases h5 : p.fac ≤ 16
          · by_cases h6 : p.base ≤ p.cap <;> simp [h1, h2, h3, h4, h5, h6]
          · simp [h1, h2, h3, h4, h5]
        · simp [h1, h2, h3, h4]
      · simp [h1, h2, h3]
    · simp [h1, h2]
  · simp [h1]
theorem fn_ref11Good {E : Prog} (hE : Std E fns) (p : PlanT) : callP E f_usufructref11_Good [.agg p.cells] = some (vb (planS p)) := by
  rw [hE.run rfl rfl]
  simp only [go_sem, reduceIte, reduceCtorEq, Nat.reduceEqDiff, Nat.reduceAdd, Nat.reduceSub, Nat.reduceLT, Nat.reduceLeDiff, Nat.reduceBEq, Nat.reduceMul, Nat.reduceBNe, Int.reduceEq, Int.reduceLT, Int.reduceLE, Int.reduceNe, Int.reduceToNat, ir_usufructref11_Good, PlanT.cells, planS]
  by_cases h1 : 0 ≤ p.ret
  · by_cases h2 : p.ret ≤ 1000
    · by_cases h3 : 1 ≤ p.base
      · by_cases h8 : p.base ≤ 1099511627776
        · by_cases h4 : 1 ≤ p.fac
          · by_cases h5 : p.fac ≤ 16
            · by_cases h6 : p.base ≤ p.cap <;> simp [h1, h2, h3, h4, h5, h6, h8]
            · simp [h1, h2, h3, h4, h5, h8]
          · simp [h1, h2, h3, h4, h8]
        · by_cases h6 : p.base ≤ p.cap
          · have h7 : ¬ p.cap ≤ 1099511627776 := by omega
            simp [h1, h2, h3, h6, h7, h8]
          · simp [h1, h2, h3, h6, h8]
      · simp [h1, h2, h3]
    · simp [h1, h2]
  · simp [h1]

/-! ### is a name there already? -/
theorem fn_step1 {E : Prog} (hE : Std E fns) (x s : StepT) : callL E f_def_step_1 [.agg x.cells, .ref 0 0 0 0] [] [.box s.cells] = some (vb (decide (x.name = s.name)), [.box s.cells]) := by
  rw [hE.runN rfl rfl]
  simp only [go_sem, reduceIte, reduceCtorEq, Nat.reduceEqDiff, Nat.reduceAdd, Nat.reduceSub, Nat.reduceLT, Nat.reduceLeDiff, Nat.reduceBEq, Nat.reduceMul, Nat.reduceBNe, Int.reduceEq, Int.reduceLT, Int.reduceLE, Int.reduceNe, Int.reduceToNat, ir_def_step_1, StepT.cells]
theorem indexf_loop {E : Prog} (hE : Std E fns) {L : Env × Store → Option (Sig × Env × Store)} (l : Sl StepT) (s : StepT) (hl : l.list.length < 9223372036854775807)
    (hL : ∀ e st, L (e, st) = (IR.runL E.glob (callL E) [] ir_slices_IndexFunc_api_Step_api_Step_L0 e st).bind (seqK fun e st => L (compact [] 1 [0, 1, 7, 8] e st))) :
    ∀ (rest : List StepT) (i : Nat), l.list.drop i = rest → i ≤ l.list.length →
    ∃ n : Int, (0 ≤ n ↔ (rest.any fun x => decide (x.name = s.name)) = true) ∧ L ([(0, l.av 12 StepT.cells), (1, .fn f_def_step_1 [.ref 0 0 0 0]), (7, vi l.list.length), (8, vi i)], [.box s.cells]) =
      if (rest.any fun x => decide (x.name = s.name)) = true then some (.ret, [(4, vi n)], [.box s.cells]) else some (.exit 0, [], [.box s.cells])
  | [], i, h, hi => by
    have h1 := drop_nil' h hi
    refine ⟨-1, by simp, ?_⟩
    rw [hL]
    simp only [go_sem, reduceIte, reduceCtorEq, Nat.reduceEqDiff, Nat.reduceAdd, Nat.reduceSub, Nat.reduceLT, Nat.reduceLeDiff, Nat.reduceBEq, Nat.reduceMul, Nat.reduceBNe, Int.reduceEq, Int.reduceLT, Int.reduceLE, Int.reduceNe, Int.reduceToNat, ir_slices_IndexFunc_api_Step_api_Step_L0, h1, List.any_nil]
  | x :: rest, i, h, hi => by
    obtain ⟨h1, h2, h3, h4, h5⟩ := drop_cons h
    have h6 := wrap_succ (i := i) (by omega)
    obtain ⟨n, hn, ih⟩ := indexf_loop hE l s hl hL rest (i + 1) h2 h4
    have hs := fn_step1 hE x s
    by_cases c : x.name = s.name
    · have hd : decide (x.name = s.name) = true := decide_eq_true c
      rw [hd] at hs
      refine ⟨i, by simp [c], ?_⟩
      rw [hL]
      simp only [go_sem, reduceIte, reduceCtorEq, Nat.reduceEqDiff, Nat.reduceAdd, Nat.reduceSub, Nat.reduceLT, Nat.reduceLeDiff, Nat.reduceBEq, Nat.reduceMul, Nat.reduceBNe, Int.reduceEq, Int.reduceLT, Int.reduceLE, Int.reduceNe, Int.reduceToNat, ir_slices_IndexFunc_api_Step_api_Step_L0, h1, h3, step_ids, step_rens, step_le12, step_take, h6, hs, hd, List.any_cons, ro_step]
    · have hd : decide (x.name = s.name) = false := decide_eq_false c
      rw [hd] at hs
      refine ⟨n, by simp [hn, c], ?_⟩
      rw [hL]
      simp only [go_sem, reduceIte, reduceCtorEq, Nat.reduceEqDiff, Nat.reduceAdd, Nat.reduceSub, Nat.reduceLT, Nat.reduceLeDiff, Nat.reduceBEq, Nat.reduceMul, Nat.reduceBNe, Int.reduceEq, Int.reduceLT, Int.reduceLE, Int.reduceNe, Int.reduceToNat, ir_slices_IndexFunc_api_Step_api_Step_L0, h1, h3, step_ids, step_rens, step_le12, step_take, h6, hs, hd, List.any_cons, ih, ro_step]
theorem fn_containsf {E : Prog} (hE : Std E fns) (l : Sl StepT) (s : StepT) (hl : l.list.length < 9223372036854775807) :
    callL E f_slices_ContainsFunc_api_Step_api_Step [l.av 12 StepT.cells, .fn f_def_step_1 [.ref 0 0 0 0]] [] [.box s.cells] = some (vb (l.list.any fun x => decide (x.name = s.name)), [.box s.cells]) := by
  obtain ⟨n, hn, ih⟩ := indexf_loop hE l s hl (loopL_eq (IR.runL E.glob (callL E) [] ir_slices_IndexFunc_api_Step_api_Step_L0) (compact [] 1 [0, 1, 7, 8])) l.list 0 rfl (by omega)
  simp only [Int.natCast_zero] at ih
  have h1 : callL E f_slices_IndexFunc_api_Step_api_Step [l.av 12 StepT.cells, .fn f_def_step_1 [.ref 0 0 0 0]] [] [.box s.cells] = some (vi (if (l.list.any fun x => decide (x.name = s.name)) = true then n else -1), [.box s.cells]) := by
    rw [hE.runN rfl rfl]
    cases c : l.list.any fun x => decide (x.name = s.name)
    · simp only [c, Bool.false_eq_true, if_false] at ih
      simp only [go_sem, reduceIte, reduceCtorEq, Nat.reduceEqDiff, Nat.reduceAdd, Nat.reduceSub, Nat.reduceLT, Nat.reduceLeDiff, Nat.reduceBEq, Nat.reduceMul, Nat.reduceBNe, Int.reduceEq, Int.reduceLT, Int.reduceLE, Int.reduceNe, Int.reduceToNat, ir_slices_IndexFunc_api_Step_api_Step, ih, ro_step, step_ids, step_rens]
    · simp only [c, if_true] at ih
      simp only [go_sem, reduceIte, reduceCtorEq, Nat.reduceEqDiff, Nat.reduceAdd, Nat.reduceSub, Nat.reduceLT, Nat.reduceLeDiff, Nat.reduceBEq, Nat.reduceMul, Nat.reduceBNe, Int.reduceEq, Int.reduceLT, Int.reduceLE, Int.reduceNe, Int.reduceToNat, ir_slices_IndexFunc_api_Step_api_Step, ih, ro_step, step_ids, step_rens]
  rw [hE.runN rfl rfl]
  simp only [go_sem, reduceIte, reduceCtorEq, Nat.reduceEqDiff, Nat.reduceAdd, Nat.reduceSub, Nat.reduceLT, Nat.reduceLeDiff, Nat.reduceBEq, Nat.reduceMul, Nat.reduceBNe, Int.reduceEq, Int.reduceLT, Int.reduceLE, Int.reduceNe, Int.reduceToNat, ir_slices_ContainsFunc_api_Step_api_Step, h1, ro_step, step_ids, step_rens]
  cases c : l.list.any fun x => decide (x.name = s.name)
  · simp
  · have : 0 ≤ n := hn.2 c
    simp [this]

end Go.Proofs.YtlidkdhojblkiaaDoor.Ev
