/-
  Picks: the law PickSagas.
-/
import Derived.Test.YtgehbkdpodnajaaDoorEvPick10
import Derived.Test.YtgehbkdpodnajaaDoorEvPick6
set_option linter.unusedVariables false
set_option linter.unusedSimpArgs false
namespace Go.Proofs.YtgehbkdpodnajaaDoor.Ev
attribute [local congr] bind_congr_head
attribute [local go_sem] opd_t opd_c opd_g opd_f opds_nil opds_cons get_cons put_some put_none keep_nil keepC_s keepC_n keep_cons runs_nil runs_cons run_op run_opr run_call run_gand run_gor run_gif seqK_norm seqK_exit seqK_ret blkK_norm blkK_exit blkK_ret runL_skip runL_exit runL_ret runL_items runL_seq runL_cond runL_block runL_loop fin_bind finK_norm finK_ret rvs_nil rvs_cons rv_tmp rv_cell tupOf_one tupOf_nil tupOf_two ev_mov ev_pick ev_alloc ev_box ev_build parts_nil parts_cons fills_nil fills_cons ev_bsl ev_bslo ev_load ev_store ev_nilck ev_bin ev_binb ev_aeq ev_un ev_i2i ev_i2t ev_s2b ev_ext ev_fld ev_idxs ev_fa ev_ias ev_len ev_lens ev_s2s ev_mkf ev_rng ev_nxt ev_app bOf_s pvOf_s agOf_s tpOf_s iOf_s sOf_s ite_bind Option.bind_some Option.bind_none if_true if_false ite_true ite_false argEnv_nil argEnv_cons len_av elems_av ias_av cells_av tuple_av AV.tuple AV.cells faF ldAt liveRef aggOf nilckF binV binI binS binB unV Bool.not_true Bool.not_false List.length_nil List.length_cons List.nil_append List.cons_append List.append_nil List.getElem?_cons_zero List.getElem?_cons_succ List.drop_zero List.drop_succ_cons List.drop_nil List.take_zero List.take_succ_cons List.take_nil List.set_cons_zero List.set_cons_succ compact_same compact_new closedB nodupB envIds ids0 upto visit pos sel AV.ids idss idsss Ob.ids AV.ren rens renss Ob.ren renEnv AV.snap snaps stAt okSt putCells List.all_nil List.all_cons List.contains_nil List.contains_cons Bool.and_true Bool.true_and Bool.and_false Bool.false_and Bool.or_true Bool.true_or Bool.or_false Bool.false_or decide_eq_true_eq decide_true decide_false beq_iff_eq bne_iff_ne beq_self_eq_true Bool.not_eq_true' Bool.false_eq_true eq_self and_self and_true true_and and_false false_and or_true true_or or_false false_or not_true_eq_false not_false_eq_true ne_eq Nat.zero_add Nat.add_zero Nat.le_refl Nat.not_lt_zero Nat.lt_irrefl Nat.zero_le Int.toNat_natCast gt_iff_lt ge_iff_le Int.lt_irrefl Int.natCast_nonneg txt_eq get_nil appF elems belows AV.under AV.flat flats List.length_map List.map_append List.map_cons List.map_nil List.length_append take_map_all List.flatten_cons List.flatten_nil bld_nil imp_false false_imp_iff false_implies true_implies implies_true decide_eq_false_iff_not Nat.one_mul Nat.mul_one idsss_app renss_app belowss_app ev_mn ev_mx ev_isnils ev_sls ev_slx evo_none evo_some vals minV maxV minF maxF backId List.getElem?_nil putAll Option.all_none Option.all_some Option.isSome_some intOf aszI compactV_same compactV_new callP_any callQ_eq callN_any boxQ AV.id? ids_avR ren_av under_av snap_av renss_mapf belowss_mapf idsss_mapf isnilsF List.length_eq_zero_iff int_beq int_bne decide_not slx_av Int.toNat_zero
structure C6 where
  (a0 a1 a2 a3 a4 a5 : Int)
  deriving DecidableEq
def C6.cells (c : C6) : List AV := [vi c.a0, vi c.a1, vi c.a2, vi c.a3, vi c.a4, vi c.a5]
def up1 (n : Int) : Int := IntKind.i64.wrap (n + 1)
def bump (c : C6) (x : SagaT) : C6 :=
  if x.phase = 0 then { c with a0 := up1 c.a0 } else if x.phase = 1 then { c with a1 := up1 c.a1 } else if x.phase = 2 then { c with a2 := up1 c.a2 } else if x.phase = 3 then { c with a3 := up1 c.a3 } else
  if x.phase = 4 then { c with a4 := up1 c.a4 } else if x.phase = 5 then { c with a5 := up1 c.a5 } else c
def c60 : C6 := ⟨0, 0, 0, 0, 0, 0⟩
theorem phase_cases (p : Int) : p = 0 ∨ p = 1 ∨ p = 2 ∨ p = 3 ∨ p = 4 ∨ p = 5 ∨ (p < 0) ∨ (5 < p) := by omega
set_option maxHeartbeats 4000000 in
theorem count_loop {G : Nat → Option (List AV)} {raw : Raw} {L : Env × Store → Option (Sig × Env × Store)} (xs l : Sl SagaT) (next : Int) (hx : xs.list.length ≤ 1000)
    (hL : ∀ e st, L (e, st) = (IR.runL G raw [] ir_pick_Count_L0 e st).bind (seqK fun e st => L (compact [] 2 [4, 9, 10, 11] e st))) :
    ∀ (rest : List SagaT) (i : Nat) (c : C6), xs.list.drop i = rest → i ≤ xs.list.length →
    L ([(4, AV.ref 1 0 0 0), (9, xs.av 9 SagaT.cells), (10, vi xs.list.length), (11, vi i)], stSt l next ++ [.box c.cells]) = some (.exit 0, [(4, AV.ref 1 0 0 0)], stSt l next ++ [.box (rest.foldl bump c).cells])
  | [], i, c, h, hi => by
    have h1 := drop_nil' h hi
    rw [hL]
    simp only [go_sem, reduceIte, reduceCtorEq, Nat.reduceEqDiff, Nat.reduceAdd, Nat.reduceSub, Nat.reduceLT, Nat.reduceLeDiff, Nat.reduceBEq, Nat.reduceMul, Nat.reduceBNe, Int.reduceEq, Int.reduceLT, Int.reduceLE, Int.reduceNe, Int.reduceToNat, ir_pick_Count_L0, h1, List.foldl_nil]
  | x :: rest, i, c, h, hi => by
    obtain ⟨h1, h2, h3, h4, h5⟩ := drop_cons h
    have h6 := wrap_succ (i := i) (by omega)
    have ih := count_loop xs l next hx hL rest (i + 1) (bump c x) h2 h4
    rw [hL, List.foldl_cons, ← ih]
    obtain ⟨a0, a1, a2, a3, a4, a5⟩ := c
    rcases phase_cases x.phase with p | p | p | p | p | p | p | p
    · simp only [go_sem, reduceIte, reduceCtorEq, Nat.reduceEqDiff, Nat.reduceAdd, Nat.reduceSub, Nat.reduceLT, Nat.reduceLeDiff, Nat.reduceBEq, Nat.reduceMul, Nat.reduceBNe, Int.reduceEq, Int.reduceLT, Int.reduceLE, Int.reduceNe, Int.reduceToNat, ir_pick_Count_L0, ev_iap, iapF, Int.reduceToNat, cast6, h1, h3, SagaT.cells, C6.cells, h6, p, bump, up1, ro_saga]
    · simp only [go_sem, reduceIte, reduceCtorEq, Nat.reduceEqDiff, Nat.reduceAdd, Nat.reduceSub, Nat.reduceLT, Nat.reduceLeDiff, Nat.reduceBEq, Nat.reduceMul, Nat.reduceBNe, Int.reduceEq, Int.reduceLT, Int.reduceLE, Int.reduceNe, Int.reduceToNat, ir_pick_Count_L0, ev_iap, iapF, Int.reduceToNat, cast6, h1, h3, SagaT.cells, C6.cells, h6, p, bump, up1, ro_saga]
    · simp only [go_sem, reduceIte, reduceCtorEq, Nat.reduceEqDiff, Nat.reduceAdd, Nat.reduceSub, Nat.reduceLT, Nat.reduceLeDiff, Nat.reduceBEq, Nat.reduceMul, Nat.reduceBNe, Int.reduceEq, Int.reduceLT, Int.reduceLE, Int.reduceNe, Int.reduceToNat, ir_pick_Count_L0, ev_iap, iapF, Int.reduceToNat, cast6, h1, h3, SagaT.cells, C6.cells, h6, p, bump, up1, ro_saga]
    · simp only [go_sem, reduceIte, reduceCtorEq, Nat.reduceEqDiff, Nat.reduceAdd, Nat.reduceSub, Nat.reduceLT, Nat.reduceLeDiff, Nat.reduceBEq, Nat.reduceMul, Nat.reduceBNe, Int.reduceEq, Int.reduceLT, Int.reduceLE, Int.reduceNe, Int.reduceToNat, ir_pick_Count_L0, ev_iap, iapF, Int.reduceToNat, cast6, h1, h3, SagaT.cells, C6.cells, h6, p, bump, up1, ro_saga]
    · simp only [go_sem, reduceIte, reduceCtorEq, Nat.reduceEqDiff, Nat.reduceAdd, Nat.reduceSub, Nat.reduceLT, Nat.reduceLeDiff, Nat.reduceBEq, Nat.reduceMul, Nat.reduceBNe, Int.reduceEq, Int.reduceLT, Int.reduceLE, Int.reduceNe, Int.reduceToNat, ir_pick_Count_L0, ev_iap, iapF, Int.reduceToNat, cast6, h1, h3, SagaT.cells, C6.cells, h6, p, bump, up1, ro_saga]
    · simp only [go_sem, reduceIte, reduceCtorEq, Nat.reduceEqDiff, Nat.reduceAdd, Nat.reduceSub, Nat.reduceLT, Nat.reduceLeDiff, Nat.reduceBEq, Nat.reduceMul, Nat.reduceBNe, Int.reduceEq, Int.reduceLT, Int.reduceLE, Int.reduceNe, Int.reduceToNat, ir_pick_Count_L0, ev_iap, iapF, Int.reduceToNat, cast6, h1, h3, SagaT.cells, C6.cells, h6, p, bump, up1, ro_saga]
    · simp only [go_sem, reduceIte, reduceCtorEq, Nat.reduceEqDiff, Nat.reduceAdd, Nat.reduceSub, Nat.reduceLT, Nat.reduceLeDiff, Nat.reduceBEq, Nat.reduceMul, Nat.reduceBNe, Int.reduceEq, Int.reduceLT, Int.reduceLE, Int.reduceNe, Int.reduceToNat, ir_pick_Count_L0, ev_iap, iapF, Int.reduceToNat, cast6, h1, h3, SagaT.cells, C6.cells, h6, bump, up1, ro_saga, show ¬ x.phase = 0 by omega, show ¬ x.phase = 1 by omega, show ¬ x.phase = 2 by omega, show ¬ x.phase = 3 by omega, show ¬ x.phase = 4 by omega, show ¬ x.phase = 5 by omega, show ¬ (0 : Int) ≤ x.phase by omega]
    · simp only [go_sem, reduceIte, reduceCtorEq, Nat.reduceEqDiff, Nat.reduceAdd, Nat.reduceSub, Nat.reduceLT, Nat.reduceLeDiff, Nat.reduceBEq, Nat.reduceMul, Nat.reduceBNe, Int.reduceEq, Int.reduceLT, Int.reduceLE, Int.reduceNe, Int.reduceToNat, ir_pick_Count_L0, ev_iap, iapF, Int.reduceToNat, cast6, h1, h3, SagaT.cells, C6.cells, h6, bump, up1, ro_saga, show ¬ x.phase = 0 by omega, show ¬ x.phase = 1 by omega, show ¬ x.phase = 2 by omega, show ¬ x.phase = 3 by omega, show ¬ x.phase = 4 by omega, show ¬ x.phase = 5 by omega, show (0 : Int) ≤ x.phase by omega, show ¬ x.phase ≤ 5 by omega]
theorem fn_pickCount {E : Prog} (hE : Std E fns) (hv : VOK E) (xs : Sl SagaT) (next : Int) (l : Sl TermT) (hl : l.list.length < 9223372036854775807) (ht : LOK l.list) (hx : xs.list.length ≤ 1000) :
    callP E f_pick_Count [.agg [.v (.slice none 0 0), xs.av 9 SagaT.cells, vi next], l.av 5 TermT.cells] = some (.agg ((sagasS xs.list l.list).foldl bump c60).cells) := by
  have h1 := fn_pickSagas hE hv .nil xs next l hl ht hx
  have hle : (sagasS xs.list l.list).length ≤ 1000 := by
    unfold sagasS
    split
    · exact Nat.le_trans (List.length_filter_le _ _) hx
    · simp
  have ih := count_loop (slOf (sagasS xs.list l.list)) xs next (by rw [slOf_list]; exact hle) (loopL_eq (IR.runL E.glob (callL E) [] ir_pick_Count_L0) (compact [] 2 [4, 9, 10, 11])) (sagasS xs.list l.list) 0 c60 (by rw [slOf_list]; rfl) (by omega)
  simp only [Int.natCast_zero, c60, C6.cells, List.cons_append, List.nil_append] at ih
  rw [hE.run rfl rfl]
  simp only [go_sem, reduceIte, reduceCtorEq, Nat.reduceEqDiff, Nat.reduceAdd, Nat.reduceSub, Nat.reduceLT, Nat.reduceLeDiff, Nat.reduceBEq, Nat.reduceMul, Nat.reduceBNe, Int.reduceEq, Int.reduceLT, Int.reduceLE, Int.reduceNe, Int.reduceToNat, ir_pick_Count, h1, ro_term, ro_saga, ih, c60, C6.cells]
end Go.Proofs.YtgehbkdpodnajaaDoor.Ev
set_option linter.unusedVariables false
set_option linter.unusedSimpArgs false
namespace Go.Proofs.YtgehbkdpodnajaaDoor.Ev
attribute [local congr] bind_congr_head
attribute [local go_sem] opd_t opd_c opd_g opd_f opds_nil opds_cons get_cons put_some put_none keep_nil keepC_s keepC_n keep_cons runs_nil runs_cons run_op run_opr run_call run_gand run_gor run_gif seqK_norm seqK_exit seqK_ret blkK_norm blkK_exit blkK_ret runL_skip runL_exit runL_ret runL_items runL_seq runL_cond runL_block runL_loop fin_bind finK_norm finK_ret rvs_nil rvs_cons rv_tmp rv_cell tupOf_one tupOf_nil tupOf_two ev_mov ev_pick ev_alloc ev_box ev_build parts_nil parts_cons fills_nil fills_cons ev_bsl ev_bslo ev_load ev_store ev_nilck ev_bin ev_binb ev_aeq ev_un ev_i2i ev_i2t ev_s2b ev_ext ev_fld ev_idxs ev_fa ev_ias ev_len ev_lens ev_s2s ev_mkf ev_rng ev_nxt ev_app bOf_s pvOf_s agOf_s tpOf_s iOf_s sOf_s ite_bind Option.bind_some Option.bind_none if_true if_false ite_true ite_false argEnv_nil argEnv_cons len_av elems_av ias_av cells_av tuple_av AV.tuple AV.cells faF ldAt liveRef aggOf nilckF binV binI binS binB unV Bool.not_true Bool.not_false List.length_nil List.length_cons List.nil_append List.cons_append List.append_nil List.getElem?_cons_zero List.getElem?_cons_succ List.drop_zero List.drop_succ_cons List.drop_nil List.take_zero List.take_succ_cons List.take_nil List.set_cons_zero List.set_cons_succ compact_same compact_new closedB nodupB envIds ids0 upto visit pos sel AV.ids idss idsss Ob.ids AV.ren rens renss Ob.ren renEnv AV.snap snaps stAt okSt putCells List.all_nil List.all_cons List.contains_nil List.contains_cons Bool.and_true Bool.true_and Bool.and_false Bool.false_and Bool.or_true Bool.true_or Bool.or_false Bool.false_or decide_eq_true_eq decide_true decide_false beq_iff_eq bne_iff_ne beq_self_eq_true Bool.not_eq_true' Bool.false_eq_true eq_self and_self and_true true_and and_false false_and or_true true_or or_false false_or not_true_eq_false not_false_eq_true ne_eq Nat.zero_add Nat.add_zero Nat.le_refl Nat.not_lt_zero Nat.lt_irrefl Nat.zero_le Int.toNat_natCast gt_iff_lt ge_iff_le Int.lt_irrefl Int.natCast_nonneg txt_eq get_nil appF elems belows AV.under AV.flat flats List.length_map List.map_append List.map_cons List.map_nil List.length_append take_map_all List.flatten_cons List.flatten_nil bld_nil imp_false false_imp_iff false_implies true_implies implies_true decide_eq_false_iff_not Nat.one_mul Nat.mul_one idsss_app renss_app belowss_app ev_mn ev_mx ev_isnils ev_sls ev_slx evo_none evo_some vals minV maxV minF maxF backId List.getElem?_nil putAll Option.all_none Option.all_some Option.isSome_some intOf aszI compactV_same compactV_new callP_any callQ_eq callN_any boxQ AV.id? ids_avR ren_av under_av snap_av renss_mapf belowss_mapf idsss_mapf isnilsF List.length_eq_zero_iff int_beq int_bne decide_not slx_av Int.toNat_zero
abbrev stPS (l : Sl SagaT) (n c : C6) : Store := [Ob.box [.v (.slice none 0 0), l.av 9 SagaT.cells, vi 0], .box n.cells, .box c.cells]
theorem ps_inner {E : Prog} (hE : Std E fns) {L : Env × Store → Option (Sig × Env × Store)} (l got : Sl SagaT) (ts : Sl TermT) (n c : C6) (k i : Nat) (x : SagaT) (hx : l.list[i]? = some x) (hi : (i : Int) < l.list.length) (hl : ts.list.length ≤ 40) (ht : LOK ts.list)
    (hL : ∀ e st, L (e, st) = (IR.runL E.glob (callL E) [] ir_usufructlaw36_PickSagas_L0 e st).bind (seqK fun e st => L (compact [] 3 [0, 1, 6, 7, 8, 9, 10, 11, 12] e st))) :
    ∀ (rest : List TermT) (j : Nat) (b : Bool), ts.list.drop j = rest → j ≤ ts.list.length →
    L ([(0, l.av 9 SagaT.cells), (1, ts.av 5 TermT.cells), (6, got.av 9 SagaT.cells), (7, AV.ref 1 0 0 0), (8, vi k), (9, AV.ref 2 0 0 0), (10, vi i), (11, vb b), (12, vi j)], stPS l n c) =
      some (.exit 2, [(0, l.av 9 SagaT.cells), (1, ts.av 5 TermT.cells), (6, got.av 9 SagaT.cells), (7, AV.ref 1 0 0 0), (8, vi k), (9, AV.ref 2 0 0 0), (10, vi i), (11, vb (b && rest.all fun t => holdsB t x))], stPS l n c)
  | [], j, b, h, hj => by
    have h1 := drop_nil' h hj
    rw [hL]
    simp only [go_sem, reduceIte, reduceCtorEq, Nat.reduceEqDiff, Nat.reduceAdd, Nat.reduceSub, Nat.reduceLT, Nat.reduceLeDiff, Nat.reduceBEq, Nat.reduceMul, Nat.reduceBNe, Int.reduceEq, Int.reduceLT, Int.reduceLE, Int.reduceNe, Int.reduceToNat, ir_usufructlaw36_PickSagas_L0, h1, List.all_nil]
  | t :: rest, j, b, h, hj => by
    obtain ⟨h1, h2, h3, h4, h5⟩ := drop_cons h
    have h6 := wrap_succ (i := j) (by omega)
    have ih := ps_inner hE l got ts n c k i x hx hi hl ht hL rest (j + 1) (b && holdsB t x) h2 h4
    have hh := fn_refHolds hE t x (by have := ht t (by have := List.mem_of_mem_drop (i := j) (l := ts.list) (a := t) (by rw [h]; simp); exact this); omega)
    simp only [TermT.cells, SagaT.cells] at hh
    rw [List.all_cons, ← Bool.and_assoc, ← ih, hL]
    cases b
    · simp only [go_sem, reduceIte, reduceCtorEq, Nat.reduceEqDiff, Nat.reduceAdd, Nat.reduceSub, Nat.reduceLT, Nat.reduceLeDiff, Nat.reduceBEq, Nat.reduceMul, Nat.reduceBNe, Int.reduceEq, Int.reduceLT, Int.reduceLE, Int.reduceNe, Int.reduceToNat, ir_usufructlaw36_PickSagas_L0, h1, h3, hx, hi, TermT.cells, SagaT.cells, C6.cells, h6, hh, ro_term, ro_saga]
    · simp only [go_sem, reduceIte, reduceCtorEq, Nat.reduceEqDiff, Nat.reduceAdd, Nat.reduceSub, Nat.reduceLT, Nat.reduceLeDiff, Nat.reduceBEq, Nat.reduceMul, Nat.reduceBNe, Int.reduceEq, Int.reduceLT, Int.reduceLE, Int.reduceNe, Int.reduceToNat, ir_usufructlaw36_PickSagas_L0, h1, h3, hx, hi, TermT.cells, SagaT.cells, C6.cells, h6, hh, ro_term, ro_saga]
theorem eqL_saga (x : SagaT) : eqL [.i, .s, .i, .i, .i, .i, .b, .i, .i] x.cells x.cells = some true := by
  simp only [SagaT.cells, eqL, eqV, if_true, txt_eq, int_beq, decide_true, Bool.and_true, Bool.true_and, beq_self_eq_true]
set_option maxHeartbeats 8000000 in
theorem ps_loop {E : Prog} (hE : Std E fns) {L : Env × Store → Option (Sig × Env × Store)} (l got : Sl SagaT) (ts : Sl TermT) (n total : C6) (hx : l.list.length ≤ 20) (hl : ts.list.length ≤ 40) (ht : LOK ts.list)
    (hL : ∀ e st, L (e, st) = (IR.runL E.glob (callL E) [] ir_usufructlaw36_PickSagas_L1 e st).bind (seqK fun e st => L (compact [] 3 [0, 1, 6, 7, 8, 9, 10] e st))) (hgl : got.list.length ≤ 20) :
    ∀ (rest : List SagaT) (i k : Nat) (c : C6), l.list.drop i = rest → i ≤ l.list.length → got.list.drop k = rest.filter (allB ts.list) → k ≤ got.list.length → (rest.filter (allB ts.list)).foldl bump c = total →
    (∃ c', L ([(0, l.av 9 SagaT.cells), (1, ts.av 5 TermT.cells), (6, got.av 9 SagaT.cells), (7, AV.ref 1 0 0 0), (8, vi k), (9, AV.ref 2 0 0 0), (10, vi i)], stPS l n c) = some (.ret, [(4, vb true)], stPS l n c')) ∨
    L ([(0, l.av 9 SagaT.cells), (1, ts.av 5 TermT.cells), (6, got.av 9 SagaT.cells), (7, AV.ref 1 0 0 0), (8, vi k), (9, AV.ref 2 0 0 0), (10, vi i)], stPS l n c) =
      some (.exit 0, [(6, got.av 9 SagaT.cells), (7, AV.ref 1 0 0 0), (8, vi got.list.length), (9, AV.ref 2 0 0 0)], stPS l n total)
  | [], i, k, c, h, hi, hg, hk, hc => by
    have h1 := drop_nil' h hi
    have h2 : k = got.list.length := by
      have := congrArg List.length hg
      simp at this
      omega
    subst h2
    simp only [List.filter_nil, List.foldl_nil] at hc
    subst hc
    refine .inr ?_
    rw [hL]
    simp only [go_sem, reduceIte, reduceCtorEq, Nat.reduceEqDiff, Nat.reduceAdd, Nat.reduceSub, Nat.reduceLT, Nat.reduceLeDiff, Nat.reduceBEq, Nat.reduceMul, Nat.reduceBNe, Int.reduceEq, Int.reduceLT, Int.reduceLE, Int.reduceNe, Int.reduceToNat, ir_usufructlaw36_PickSagas_L1, h1]
  | x :: rest, i, k, c, h, hi, hg, hk, hc => by
    obtain ⟨h1, h2, h3, h4, h5⟩ := drop_cons h
    have h6 := wrap_succ (i := i) (by omega)
    by_cases hd : x.de.size > 100
    · refine .inl ⟨c, ?_⟩
      rw [hL]
      simp only [go_sem, reduceIte, reduceCtorEq, Nat.reduceEqDiff, Nat.reduceAdd, Nat.reduceSub, Nat.reduceLT, Nat.reduceLeDiff, Nat.reduceBEq, Nat.reduceMul, Nat.reduceBNe, Int.reduceEq, Int.reduceLT, Int.reduceLE, Int.reduceNe, Int.reduceToNat, ir_usufructlaw36_PickSagas_L1, ev_iap, iapF, Int.reduceToNat, cast6, h1, h3, SagaT.cells, C6.cells, show (100 : Int) < x.de.size by omega, ro_saga, ro_term]
    · have hd' : ¬ (100 : Int) < x.de.size := by omega
      have hin := ps_inner hE l got ts n c k i x h1 h3 hl ht (loopL_eq (IR.runL E.glob (callL E) [] ir_usufructlaw36_PickSagas_L0) (compact [] 3 [0, 1, 6, 7, 8, 9, 10, 11, 12])) ts.list 0 true rfl (by omega)
      simp only [Int.natCast_zero, Bool.true_and, C6.cells] at hin
      have ha : (ts.list.all fun t => holdsB t x) = allB ts.list x := rfl
      rw [ha] at hin
      cases hall : allB ts.list x
      · rw [hall] at hin
        rw [List.filter_cons, hall] at hg hc
        simp only [Bool.false_eq_true, if_false] at hg hc
        have ih := ps_loop hE l got ts n total hx hl ht hL hgl rest (i + 1) k c h2 h4 hg hk hc
        rw [hL]
        simp only [go_sem, reduceIte, reduceCtorEq, Nat.reduceEqDiff, Nat.reduceAdd, Nat.reduceSub, Nat.reduceLT, Nat.reduceLeDiff, Nat.reduceBEq, Nat.reduceMul, Nat.reduceBNe, Int.reduceEq, Int.reduceLT, Int.reduceLE, Int.reduceNe, Int.reduceToNat, ir_usufructlaw36_PickSagas_L1, ev_iap, iapF, Int.reduceToNat, cast6, h1, h3, SagaT.cells, C6.cells, hd', hin, h6, ro_saga, ro_term]
        exact ih
      · rw [hall] at hin
        rw [List.filter_cons, hall] at hg hc
        simp only [if_true, List.foldl_cons] at hg hc
        obtain ⟨k1, k2, k3, k4, k5⟩ := drop_cons hg
        have k6 := wrap_succ (i := k) (by omega)
        have ih := ps_loop hE l got ts n total hx hl ht hL hgl rest (i + 1) (k + 1) (bump c x) h2 h4 k2 k4 hc
        have k7 : ¬ (got.list.length : Int) ≤ k := by omega
        have he := eqL_saga x
        simp only [SagaT.cells] at he
        rw [hL]
        obtain ⟨a0, a1, a2, a3, a4, a5⟩ := c
        rcases phase_cases x.phase with p | p | p | p | p | p | p | p
        · simp only [bump, up1, p, C6.cells, if_true, if_false, Int.reduceEq] at ih
          simp only [go_sem, reduceIte, reduceCtorEq, Nat.reduceEqDiff, Nat.reduceAdd, Nat.reduceSub, Nat.reduceLT, Nat.reduceLeDiff, Nat.reduceBEq, Nat.reduceMul, Nat.reduceBNe, Int.reduceEq, Int.reduceLT, Int.reduceLE, Int.reduceNe, Int.reduceToNat, ir_usufructlaw36_PickSagas_L1, ev_iap, iapF, Int.reduceToNat, cast6, h1, h3, k1, k3, k6, k7, eqL, eqV, p, SagaT.cells, C6.cells, hd', hin, h6, ro_saga, ro_term]
          exact ih
        · simp only [bump, up1, p, C6.cells, if_true, if_false, Int.reduceEq] at ih
          simp only [go_sem, reduceIte, reduceCtorEq, Nat.reduceEqDiff, Nat.reduceAdd, Nat.reduceSub, Nat.reduceLT, Nat.reduceLeDiff, Nat.reduceBEq, Nat.reduceMul, Nat.reduceBNe, Int.reduceEq, Int.reduceLT, Int.reduceLE, Int.reduceNe, Int.reduceToNat, ir_usufructlaw36_PickSagas_L1, ev_iap, iapF, Int.reduceToNat, cast6, h1, h3, k1, k3, k6, k7, eqL, eqV, p, SagaT.cells, C6.cells, hd', hin, h6, ro_saga, ro_term]
          exact ih
        · simp only [bump, up1, p, C6.cells, if_true, if_false, Int.reduceEq] at ih
          simp only [go_sem, reduceIte, reduceCtorEq, Nat.reduceEqDiff, Nat.reduceAdd, Nat.reduceSub, Nat.reduceLT, Nat.reduceLeDiff, Nat.reduceBEq, Nat.reduceMul, Nat.reduceBNe, Int.reduceEq, Int.reduceLT, Int.reduceLE, Int.reduceNe, Int.reduceToNat, ir_usufructlaw36_PickSagas_L1, ev_iap, iapF, Int.reduceToNat, cast6, h1, h3, k1, k3, k6, k7, eqL, eqV, p, SagaT.cells, C6.cells, hd', hin, h6, ro_saga, ro_term]
          exact ih
        · simp only [bump, up1, p, C6.cells, if_true, if_false, Int.reduceEq] at ih
          simp only [go_sem, reduceIte, reduceCtorEq, Nat.reduceEqDiff, Nat.reduceAdd, Nat.reduceSub, Nat.reduceLT, Nat.reduceLeDiff, Nat.reduceBEq, Nat.reduceMul, Nat.reduceBNe, Int.reduceEq, Int.reduceLT, Int.reduceLE, Int.reduceNe, Int.reduceToNat, ir_usufructlaw36_PickSagas_L1, ev_iap, iapF, Int.reduceToNat, cast6, h1, h3, k1, k3, k6, k7, eqL, eqV, p, SagaT.cells, C6.cells, hd', hin, h6, ro_saga, ro_term]
          exact ih
        · simp only [bump, up1, p, C6.cells, if_true, if_false, Int.reduceEq] at ih
          simp only [go_sem, reduceIte, reduceCtorEq, Nat.reduceEqDiff, Nat.reduceAdd, Nat.reduceSub, Nat.reduceLT, Nat.reduceLeDiff, Nat.reduceBEq, Nat.reduceMul, Nat.reduceBNe, Int.reduceEq, Int.reduceLT, Int.reduceLE, Int.reduceNe, Int.reduceToNat, ir_usufructlaw36_PickSagas_L1, ev_iap, iapF, Int.reduceToNat, cast6, h1, h3, k1, k3, k6, k7, eqL, eqV, p, SagaT.cells, C6.cells, hd', hin, h6, ro_saga, ro_term]
          exact ih
        · simp only [bump, up1, p, C6.cells, if_true, if_false, Int.reduceEq] at ih
          simp only [go_sem, reduceIte, reduceCtorEq, Nat.reduceEqDiff, Nat.reduceAdd, Nat.reduceSub, Nat.reduceLT, Nat.reduceLeDiff, Nat.reduceBEq, Nat.reduceMul, Nat.reduceBNe, Int.reduceEq, Int.reduceLT, Int.reduceLE, Int.reduceNe, Int.reduceToNat, ir_usufructlaw36_PickSagas_L1, ev_iap, iapF, Int.reduceToNat, cast6, h1, h3, k1, k3, k6, k7, eqL, eqV, p, SagaT.cells, C6.cells, hd', hin, h6, ro_saga, ro_term]
          exact ih
        · have e : bump ⟨a0, a1, a2, a3, a4, a5⟩ x = ⟨a0, a1, a2, a3, a4, a5⟩ := by
            simp only [bump, show ¬ x.phase = 0 by omega, show ¬ x.phase = 1 by omega, show ¬ x.phase = 2 by omega, show ¬ x.phase = 3 by omega, show ¬ x.phase = 4 by omega, show ¬ x.phase = 5 by omega, if_false]
          rw [e] at ih
          simp only [go_sem, reduceIte, reduceCtorEq, Nat.reduceEqDiff, Nat.reduceAdd, Nat.reduceSub, Nat.reduceLT, Nat.reduceLeDiff, Nat.reduceBEq, Nat.reduceMul, Nat.reduceBNe, Int.reduceEq, Int.reduceLT, Int.reduceLE, Int.reduceNe, Int.reduceToNat, ir_usufructlaw36_PickSagas_L1, ev_iap, iapF, Int.reduceToNat, cast6, h1, h3, k1, k3, k6, k7, eqL, eqV, SagaT.cells, C6.cells, hd', hin, h6, ro_saga, ro_term, show ¬ (0 : Int) ≤ x.phase by omega]
          exact ih
        · have e : bump ⟨a0, a1, a2, a3, a4, a5⟩ x = ⟨a0, a1, a2, a3, a4, a5⟩ := by
            simp only [bump, show ¬ x.phase = 0 by omega, show ¬ x.phase = 1 by omega, show ¬ x.phase = 2 by omega, show ¬ x.phase = 3 by omega, show ¬ x.phase = 4 by omega, show ¬ x.phase = 5 by omega, if_false]
          rw [e] at ih
          simp only [go_sem, reduceIte, reduceCtorEq, Nat.reduceEqDiff, Nat.reduceAdd, Nat.reduceSub, Nat.reduceLT, Nat.reduceLeDiff, Nat.reduceBEq, Nat.reduceMul, Nat.reduceBNe, Int.reduceEq, Int.reduceLT, Int.reduceLE, Int.reduceNe, Int.reduceToNat, ir_usufructlaw36_PickSagas_L1, ev_iap, iapF, Int.reduceToNat, cast6, h1, h3, k1, k3, k6, k7, eqL, eqV, SagaT.cells, C6.cells, hd', hin, h6, ro_saga, ro_term, show (0 : Int) ≤ x.phase by omega, show ¬ x.phase ≤ 5 by omega]
          exact ih
end Go.Proofs.YtgehbkdpodnajaaDoor.Ev
