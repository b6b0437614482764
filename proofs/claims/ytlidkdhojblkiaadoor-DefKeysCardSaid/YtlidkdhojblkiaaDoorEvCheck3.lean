/-
  Check: the document's; Same: the program's.
-/
import Derived.Test.YtlidkdhojblkiaaDoorEvCheck2
set_option linter.unusedVariables false
set_option linter.unusedSimpArgs false
namespace Go.Proofs.YtlidkdhojblkiaaDoor.Ev
attribute [local congr] bind_congr_head
attribute [local go_sem] opd_t opd_c opd_g opd_f opds_nil opds_cons get_cons put_some put_none keep_nil keepC_s keepC_n keep_cons runs_nil runs_cons run_op run_opr run_call run_gand run_gor run_gif seqK_norm seqK_exit seqK_ret blkK_norm blkK_exit blkK_ret runL_skip runL_exit runL_ret runL_items runL_seq runL_cond runL_block runL_loop fin_bind finK_norm finK_ret rvs_nil rvs_cons rv_tmp rv_cell tupOf_one tupOf_nil tupOf_two ev_mov ev_pick ev_alloc ev_box ev_build parts_nil parts_cons fills_nil fills_cons ev_bsl ev_bslo ev_load ev_store ev_nilck ev_bin ev_binb ev_aeq ev_un ev_i2i ev_s2b ev_ext ev_fld ev_idxs ev_fa ev_ias ev_len ev_lens ev_s2s ev_mkf ev_rng ev_nxt ev_app bOf_s pvOf_s agOf_s tpOf_s iOf_s sOf_s ite_bind Option.bind_some Option.bind_none if_true if_false ite_true ite_false argEnv_nil argEnv_cons len_av elems_av ias_av cells_av tuple_av AV.tuple AV.cells faF ldAt liveRef aggOf nilckF binV binI binS binB unV Bool.not_true Bool.not_false List.length_nil List.length_cons List.nil_append List.cons_append List.append_nil List.getElem?_cons_zero List.getElem?_cons_succ List.drop_zero List.drop_succ_cons List.drop_nil List.take_zero List.take_succ_cons List.take_nil List.set_cons_zero List.set_cons_succ compact_same compact_new closedB nodupB envIds ids0 upto visit pos sel AV.ids idss idsss Ob.ids AV.ren rens renss Ob.ren renEnv AV.snap snaps stAt okSt putCells List.all_nil List.all_cons List.contains_nil List.contains_cons Bool.and_true Bool.true_and Bool.and_false Bool.false_and Bool.or_true Bool.true_or Bool.or_false Bool.false_or decide_eq_true_eq decide_true decide_false beq_iff_eq bne_iff_ne beq_self_eq_true Bool.not_eq_true' Bool.false_eq_true eq_self and_self and_true true_and and_false false_and or_true true_or or_false false_or not_true_eq_false not_false_eq_true ne_eq Nat.zero_add Nat.add_zero Nat.le_refl Nat.not_lt_zero Nat.lt_irrefl Nat.zero_le Int.toNat_natCast gt_iff_lt ge_iff_le Int.lt_irrefl Int.natCast_nonneg txt_eq get_nil appF elems belows AV.under AV.flat flats List.length_map List.map_append List.map_cons List.map_nil List.length_append take_map_all List.flatten_cons List.flatten_nil bld_nil imp_false false_imp_iff false_implies true_implies implies_true decide_eq_false_iff_not Nat.one_mul Nat.mul_one idsss_app renss_app belowss_app ev_mn ev_mx ev_isnils ev_sls ev_slx evo_none evo_some vals minV maxV minF maxF backId List.getElem?_nil putAll Option.all_none Option.all_some Option.isSome_some intOf aszI compactV_same compactV_new callP_any callN_any ids_avR ren_av under_av snap_av renss_mapf belowss_mapf idsss_mapf isnilsF List.length_eq_zero_iff int_beq int_bne decide_not slx_av Int.toNat_zero

abbrev stDS (d : DefT) (s : StepT) : Store := [Ob.box [vs d.name, vi d.deadline, Sl.av 12 StepT.cells d.steps], Ob.box s.cells]
theorem dup_loop {G : Nat → Option (List AV)} {raw : Raw} {L : Env × Store → Option (Sig × Env × Store)} (d : DefT) (hs : d.steps.list.length ≤ 40) (s : StepT) (i : Nat) (hi : i ≤ d.steps.list.length)
    (hL : ∀ e st, L (e, st) = (IR.runL G raw [] ir_usufructref13_Check_L0 e st).bind (seqK fun e st => L (compact [] 2 [1, 4, 5, 6] e st))) :
    ∀ (rest : List StepT) (j : Nat), (d.steps.list.take i).drop j = rest → j ≤ i →
    L ([(1, AV.ref 0 0 0 0), (4, vi i), (5, AV.ref 1 0 0 0), (6, vi j)], stDS d s) = if (rest.any fun x => decide (x.name = s.name)) = true then some (.ret, [(2, vi i), (3, vi 6)], stDS d s) else some (.exit 2, [(1, AV.ref 0 0 0 0), (4, vi i), (5, AV.ref 1 0 0 0)], stDS d s)
  | [], j, h, hj => by
    have h1 := drop_nil' h (by simp; omega)
    simp at h1
    have : j = i := by omega
    subst this
    rw [hL]
    simp only [go_sem, reduceIte, reduceCtorEq, Nat.reduceEqDiff, Nat.reduceAdd, Nat.reduceSub, Nat.reduceLT, Nat.reduceLeDiff, Nat.reduceBEq, Nat.reduceMul, Nat.reduceBNe, Int.reduceEq, Int.reduceLT, Int.reduceLE, Int.reduceNe, Int.reduceToNat, ir_usufructref13_Check_L0, List.any_nil]
  | x :: rest, j, h, hj => by
    obtain ⟨h1, h2, h3, h4, h5⟩ := drop_cons h
    simp at h3 h4
    have h7 : d.steps.list[j]? = some x := by rw [List.getElem?_take] at h1; split at h1; exact h1; cases h1
    have h6 := wrap_succ (i := j) (by omega)
    have h8 : (j : Int) < (i : Int) := by omega
    have ih := dup_loop d hs s i hi hL rest (j + 1) h2 (by omega)
    rw [hL]
    by_cases c : x.name = s.name
    · simp only [go_sem, reduceIte, reduceCtorEq, Nat.reduceEqDiff, Nat.reduceAdd, Nat.reduceSub, Nat.reduceLT, Nat.reduceLeDiff, Nat.reduceBEq, Nat.reduceMul, Nat.reduceBNe, Int.reduceEq, Int.reduceLT, Int.reduceLE, Int.reduceNe, Int.reduceToNat, ir_usufructref13_Check_L0, h7, h8, StepT.cells, c, List.any_cons]
    · simp only [go_sem, reduceIte, reduceCtorEq, Nat.reduceEqDiff, Nat.reduceAdd, Nat.reduceSub, Nat.reduceLT, Nat.reduceLeDiff, Nat.reduceBEq, Nat.reduceMul, Nat.reduceBNe, Int.reduceEq, Int.reduceLT, Int.reduceLE, Int.reduceNe, Int.reduceToNat, ir_usufructref13_Check_L0, h7, h8, StepT.cells, c, List.any_cons, h6]
      exact ih
abbrev stDX (d : DefT) (s : StepT) : Store := [Ob.box [vs d.name, vi d.deadline, Sl.av 12 StepT.cells d.steps], Ob.box [vs s.name, vs s.party, vi s.timeout, vi s.tr.ret, vi s.tr.base, vi s.tr.fac, vi s.tr.cap, vi s.un.ret, vi s.un.base, vi s.un.fac, vi s.un.cap, vi s.prio]]
theorem timeBad_ref (s : StepT) : timeBad s = (decide (s.timeout < 1) || decide (1099511627776 < s.timeout) || decide (s.prio < 0) || decide (255 < s.prio)) := by
  unfold timeBad tickGood
  by_cases c1 : s.timeout < 1
  · simp [c1]
  · have : 0 ≤ s.timeout := by omega
    by_cases c2 : s.timeout ≤ 1099511627776
    · have : ¬ 1099511627776 < s.timeout := by omega
      simp [*]
    · have : 1099511627776 < s.timeout := by omega
      simp [*]
set_option maxHeartbeats 8000000 in
theorem checkRef_loop {E : Prog} (hE : Std E fns) {L : Env × Store → Option (Sig × Env × Store)} (d : DefT) (hd : shortD d)
    (hL : ∀ e st, L (e, st) = (IR.runL E.glob (callL E) [] ir_usufructref13_Check_L1 e st).bind (seqK fun e st => L (compact [] 1 [1, 4] e st))) :
    ∀ (rest : List StepT) (i : Nat), d.steps.list.drop i = rest → i ≤ d.steps.list.length →
    ∃ st', L ([(1, AV.ref 0 0 0 0), (4, vi i)], stDef d) = if (checkF (d.steps.list.take i) rest).2 = 0 then some (.exit 0, [], stDef d) else
      some (.ret, [(2, vi (checkF (d.steps.list.take i) rest).1), (3, vi (checkF (d.steps.list.take i) rest).2)], st')
  | [], i, h, hi => by
    have h1 := drop_nil' h hi
    refine ⟨[], ?_⟩
    rw [hL]
    simp only [go_sem, reduceIte, reduceCtorEq, Nat.reduceEqDiff, Nat.reduceAdd, Nat.reduceSub, Nat.reduceLT, Nat.reduceLeDiff, Nat.reduceBEq, Nat.reduceMul, Nat.reduceBNe, Int.reduceEq, Int.reduceLT, Int.reduceLE, Int.reduceNe, Int.reduceToNat, ir_usufructref13_Check_L1, h1, checkF]
  | x :: rest, i, h, hi => by
    obtain ⟨h1, h2, h3, h4, h5⟩ := drop_cons h
    have hb := hd.2.1
    have h6 := wrap_succ (i := i) (by omega)
    have hm := hd.2.2 x (List.mem_of_getElem? h1)
    have g1 := fn_refGood hE x.name (by omega)
    have g2 := fn_refGood hE x.party (by omega)
    have g3 := fn_ref11Good hE x.tr
    have g4 := fn_ref11Good hE x.un
    have et : d.steps.list.take (i + 1) = d.steps.list.take i ++ [x] := by rw [List.take_add_one, h1]; rfl
    obtain ⟨st', ih⟩ := checkRef_loop hE d hd hL rest (i + 1) h2 h4
    rw [et] at ih
    have hlen : (d.steps.list.take i).length = i := by simp; omega
    have hdup := dup_loop d hb x i hi (loopL_eq (IR.runL E.glob (callL E) [] ir_usufructref13_Check_L0) (compact [] 2 [1, 4, 5, 6])) _ 0 rfl (by omega)
    simp only [Int.natCast_zero, List.drop_zero, stDS, StepT.cells] at hdup
    simp only [PlanT.cells] at g3 g4
    have htb := timeBad_ref x
    rw [hL]
    by_cases a1 : labelGood x.name = false
    · refine ⟨stDX d x, ?_⟩
      simp only [go_sem, reduceIte, reduceCtorEq, Nat.reduceEqDiff, Nat.reduceAdd, Nat.reduceSub, Nat.reduceLT, Nat.reduceLeDiff, Nat.reduceBEq, Nat.reduceMul, Nat.reduceBNe, Int.reduceEq, Int.reduceLT, Int.reduceLE, Int.reduceNe, Int.reduceToNat, ir_usufructref13_Check_L1, h1, h3, StepT.cells, g1, a1, checkF, stepE, hlen, ro_step]
    · simp only [Bool.not_eq_false] at a1
      by_cases a2 : labelGood x.party = false
      · refine ⟨stDX d x, ?_⟩
        simp only [go_sem, reduceIte, reduceCtorEq, Nat.reduceEqDiff, Nat.reduceAdd, Nat.reduceSub, Nat.reduceLT, Nat.reduceLeDiff, Nat.reduceBEq, Nat.reduceMul, Nat.reduceBNe, Int.reduceEq, Int.reduceLT, Int.reduceLE, Int.reduceNe, Int.reduceToNat, ir_usufructref13_Check_L1, h1, h3, StepT.cells, g1, g2, a1, a2, checkF, stepE, hlen, ro_step]
      · simp only [Bool.not_eq_false] at a2
        cases a3 : (d.steps.list.take i).any fun y => decide (y.name = x.name)
        · rw [a3] at hdup
          simp only [Bool.false_eq_true, if_false] at hdup
          cases a4 : timeBad x
          · rw [a4] at htb
            simp only [Bool.false_eq, Bool.or_eq_false_iff, decide_eq_false_iff_not] at htb
            obtain ⟨⟨⟨t1, t2⟩, t3⟩, t4⟩ := htb
            by_cases a5 : planS x.tr = false
            · refine ⟨stDX d x, ?_⟩
              simp only [go_sem, reduceIte, reduceCtorEq, Nat.reduceEqDiff, Nat.reduceAdd, Nat.reduceSub, Nat.reduceLT, Nat.reduceLeDiff, Nat.reduceBEq, Nat.reduceMul, Nat.reduceBNe, Int.reduceEq, Int.reduceLT, Int.reduceLE, Int.reduceNe, Int.reduceToNat, ir_usufructref13_Check_L1, h1, h3, StepT.cells, g1, g2, a1, a2, a3, a4, hdup, t1, t2, t3, t4, g3, a5, checkF, stepE, hlen, ro_step]
            · simp only [Bool.not_eq_false] at a5
              by_cases a6 : planS x.un = false
              · refine ⟨stDX d x, ?_⟩
                simp only [go_sem, reduceIte, reduceCtorEq, Nat.reduceEqDiff, Nat.reduceAdd, Nat.reduceSub, Nat.reduceLT, Nat.reduceLeDiff, Nat.reduceBEq, Nat.reduceMul, Nat.reduceBNe, Int.reduceEq, Int.reduceLT, Int.reduceLE, Int.reduceNe, Int.reduceToNat, ir_usufructref13_Check_L1, h1, h3, StepT.cells, g1, g2, a1, a2, a3, a4, hdup, t1, t2, t3, t4, g3, g4, a5, a6, checkF, stepE, hlen, ro_step]
              · simp only [Bool.not_eq_false] at a6
                refine ⟨st', ?_⟩
                simp only [go_sem, reduceIte, reduceCtorEq, Nat.reduceEqDiff, Nat.reduceAdd, Nat.reduceSub, Nat.reduceLT, Nat.reduceLeDiff, Nat.reduceBEq, Nat.reduceMul, Nat.reduceBNe, Int.reduceEq, Int.reduceLT, Int.reduceLE, Int.reduceNe, Int.reduceToNat, ir_usufructref13_Check_L1, h1, h3, StepT.cells, g1, g2, a1, a2, a3, a4, hdup, t1, t2, t3, t4, g3, g4, a5, a6, checkF, stepE, hlen, h6, ih, ro_step]
          · refine ⟨stDX d x, ?_⟩
            rw [a4] at htb
            by_cases t1 : x.timeout < 1
            · simp only [go_sem, reduceIte, reduceCtorEq, Nat.reduceEqDiff, Nat.reduceAdd, Nat.reduceSub, Nat.reduceLT, Nat.reduceLeDiff, Nat.reduceBEq, Nat.reduceMul, Nat.reduceBNe, Int.reduceEq, Int.reduceLT, Int.reduceLE, Int.reduceNe, Int.reduceToNat, ir_usufructref13_Check_L1, h1, h3, StepT.cells, g1, g2, a1, a2, a3, a4, hdup, t1, checkF, stepE, hlen, ro_step]
            · by_cases t2 : 1099511627776 < x.timeout
              · simp only [go_sem, reduceIte, reduceCtorEq, Nat.reduceEqDiff, Nat.reduceAdd, Nat.reduceSub, Nat.reduceLT, Nat.reduceLeDiff, Nat.reduceBEq, Nat.reduceMul, Nat.reduceBNe, Int.reduceEq, Int.reduceLT, Int.reduceLE, Int.reduceNe, Int.reduceToNat, ir_usufructref13_Check_L1, h1, h3, StepT.cells, g1, g2, a1, a2, a3, a4, hdup, t1, t2, checkF, stepE, hlen, ro_step]
              · by_cases t3 : x.prio < 0
                · simp only [go_sem, reduceIte, reduceCtorEq, Nat.reduceEqDiff, Nat.reduceAdd, Nat.reduceSub, Nat.reduceLT, Nat.reduceLeDiff, Nat.reduceBEq, Nat.reduceMul, Nat.reduceBNe, Int.reduceEq, Int.reduceLT, Int.reduceLE, Int.reduceNe, Int.reduceToNat, ir_usufructref13_Check_L1, h1, h3, StepT.cells, g1, g2, a1, a2, a3, a4, hdup, t1, t2, t3, checkF, stepE, hlen, ro_step]
                · have t4 : 255 < x.prio := by simpa [t1, t2, t3] using htb
                  simp only [go_sem, reduceIte, reduceCtorEq, Nat.reduceEqDiff, Nat.reduceAdd, Nat.reduceSub, Nat.reduceLT, Nat.reduceLeDiff, Nat.reduceBEq, Nat.reduceMul, Nat.reduceBNe, Int.reduceEq, Int.reduceLT, Int.reduceLE, Int.reduceNe, Int.reduceToNat, ir_usufructref13_Check_L1, h1, h3, StepT.cells, g1, g2, a1, a2, a3, a4, hdup, t1, t2, t3, t4, checkF, stepE, hlen, ro_step]
        · rw [a3] at hdup
          simp only [if_true] at hdup
          refine ⟨stDX d x, ?_⟩
          simp only [go_sem, reduceIte, reduceCtorEq, Nat.reduceEqDiff, Nat.reduceAdd, Nat.reduceSub, Nat.reduceLT, Nat.reduceLeDiff, Nat.reduceBEq, Nat.reduceMul, Nat.reduceBNe, Int.reduceEq, Int.reduceLT, Int.reduceLE, Int.reduceNe, Int.reduceToNat, ir_usufructref13_Check_L1, h1, h3, StepT.cells, g1, g2, a1, a2, a3, hdup, checkF, stepE, hlen, ro_step]
theorem fn_checkRef {E : Prog} (hE : Std E fns) (d : DefT) (hd : shortD d) : callP E f_usufructref13_Check [.agg d.cells] = some (.tup [vi (checkS d).1, vi (checkS d).2]) := by
  have h1 := fn_refGood hE d.name (by have := hd.1; omega)
  obtain ⟨st', hl⟩ := checkRef_loop hE d hd (loopL_eq (IR.runL E.glob (callL E) [] ir_usufructref13_Check_L1) (compact [] 1 [1, 4])) _ 0 rfl (by omega)
  simp only [Int.natCast_zero, List.take_zero, List.drop_zero] at hl
  have e1 : ((32 : Int) < (d.steps.list.length : Int)) = (32 < d.steps.list.length) := by simp; omega
  have e2 : tickGood d.deadline = false ↔ (d.deadline < 0 ∨ 1099511627776 < d.deadline) := by unfold tickGood; simp; omega
  rw [hE.run rfl rfl]
  unfold checkS
  by_cases c1 : labelGood d.name = false
  · simp only [go_sem, reduceIte, reduceCtorEq, Nat.reduceEqDiff, Nat.reduceAdd, Nat.reduceSub, Nat.reduceLT, Nat.reduceLeDiff, Nat.reduceBEq, Nat.reduceMul, Nat.reduceBNe, Int.reduceEq, Int.reduceLT, Int.reduceLE, Int.reduceNe, Int.reduceToNat, ir_usufructref13_Check, DefT.cells, h1, c1, ro_step]
  · simp only [Bool.not_eq_false] at c1
    by_cases c2 : tickGood d.deadline = false
    · rcases e2.1 c2 with t | t
      · simp only [go_sem, reduceIte, reduceCtorEq, Nat.reduceEqDiff, Nat.reduceAdd, Nat.reduceSub, Nat.reduceLT, Nat.reduceLeDiff, Nat.reduceBEq, Nat.reduceMul, Nat.reduceBNe, Int.reduceEq, Int.reduceLT, Int.reduceLE, Int.reduceNe, Int.reduceToNat, ir_usufructref13_Check, DefT.cells, h1, c1, c2, t, ro_step]
      · have t' : ¬ d.deadline < 0 := by omega
        simp only [go_sem, reduceIte, reduceCtorEq, Nat.reduceEqDiff, Nat.reduceAdd, Nat.reduceSub, Nat.reduceLT, Nat.reduceLeDiff, Nat.reduceBEq, Nat.reduceMul, Nat.reduceBNe, Int.reduceEq, Int.reduceLT, Int.reduceLE, Int.reduceNe, Int.reduceToNat, ir_usufructref13_Check, DefT.cells, h1, c1, c2, t, t', ro_step]
    · have t : ¬ (d.deadline < 0 ∨ 1099511627776 < d.deadline) := fun q => c2 (e2.2 q)
      obtain ⟨t1, t2⟩ := not_or.1 t
      by_cases c3 : d.steps.list.length = 0
      · have e0 : (d.steps.list.length : Int) < 1 := by omega
        simp only [if_pos c3]
        simp only [go_sem, reduceIte, reduceCtorEq, Nat.reduceEqDiff, Nat.reduceAdd, Nat.reduceSub, Nat.reduceLT, Nat.reduceLeDiff, Nat.reduceBEq, Nat.reduceMul, Nat.reduceBNe, Int.reduceEq, Int.reduceLT, Int.reduceLE, Int.reduceNe, Int.reduceToNat, ir_usufructref13_Check, DefT.cells, h1, c1, c2, t1, t2, e0, ro_step]
      · have e0 : ¬ (d.steps.list.length : Int) < 1 := by omega
        simp only [if_neg c3]
        by_cases c4 : 32 < d.steps.list.length
        · simp only [go_sem, reduceIte, reduceCtorEq, Nat.reduceEqDiff, Nat.reduceAdd, Nat.reduceSub, Nat.reduceLT, Nat.reduceLeDiff, Nat.reduceBEq, Nat.reduceMul, Nat.reduceBNe, Int.reduceEq, Int.reduceLT, Int.reduceLE, Int.reduceNe, Int.reduceToNat, ir_usufructref13_Check, DefT.cells, h1, c1, c2, t1, t2, e0, e1, c4, ro_step]
        · by_cases c5 : (checkF [] d.steps.list).2 = 0
          · have c6 := checkF_zero _ _ c5
            simp only [c5, if_true] at hl
            simp only [go_sem, reduceIte, reduceCtorEq, Nat.reduceEqDiff, Nat.reduceAdd, Nat.reduceSub, Nat.reduceLT, Nat.reduceLeDiff, Nat.reduceBEq, Nat.reduceMul, Nat.reduceBNe, Int.reduceEq, Int.reduceLT, Int.reduceLE, Int.reduceNe, Int.reduceToNat, ir_usufructref13_Check, DefT.cells, h1, c1, c2, t1, t2, e0, e1, c4, c5, c6, hl, ro_step]
          · simp only [c5, if_false] at hl
            simp only [go_sem, reduceIte, reduceCtorEq, Nat.reduceEqDiff, Nat.reduceAdd, Nat.reduceSub, Nat.reduceLT, Nat.reduceLeDiff, Nat.reduceBEq, Nat.reduceMul, Nat.reduceBNe, Int.reduceEq, Int.reduceLT, Int.reduceLE, Int.reduceNe, Int.reduceToNat, ir_usufructref13_Check, DefT.cells, h1, c1, c2, t1, t2, e0, e1, c4, c5, hl, ro_step]
            rw [compactV_0 rfl fun _ => rfl]
            rfl
end Go.Proofs.YtlidkdhojblkiaaDoor.Ev
