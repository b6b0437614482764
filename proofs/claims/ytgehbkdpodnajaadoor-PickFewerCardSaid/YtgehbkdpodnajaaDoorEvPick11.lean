/-
  Picks: the law PickFewer.
-/
import Derived.Test.YtgehbkdpodnajaaDoorEvPick10
import Derived.Test.YtgehbkdpodnajaaDoorEvPick15
set_option linter.unusedVariables false
set_option linter.unusedSimpArgs false
namespace Go.Proofs.YtgehbkdpodnajaaDoor.Ev
attribute [local congr] bind_congr_head
attribute [local go_sem] opd_t opd_c opd_g opd_f opds_nil opds_cons get_cons put_some put_none keep_nil keepC_s keepC_n keep_cons runs_nil runs_cons run_op run_opr run_call run_gand run_gor run_gif seqK_norm seqK_exit seqK_ret blkK_norm blkK_exit blkK_ret runL_skip runL_exit runL_ret runL_items runL_seq runL_cond runL_block runL_loop fin_bind finK_norm finK_ret rvs_nil rvs_cons rv_tmp rv_cell tupOf_one tupOf_nil tupOf_two ev_mov ev_pick ev_alloc ev_box ev_build parts_nil parts_cons fills_nil fills_cons ev_bsl ev_bslo ev_load ev_store ev_nilck ev_bin ev_binb ev_aeq ev_un ev_i2i ev_i2t ev_s2b ev_ext ev_fld ev_idxs ev_fa ev_ias ev_len ev_lens ev_s2s ev_mkf ev_rng ev_nxt ev_app bOf_s pvOf_s agOf_s tpOf_s iOf_s sOf_s ite_bind Option.bind_some Option.bind_none if_true if_false ite_true ite_false argEnv_nil argEnv_cons len_av elems_av ias_av cells_av tuple_av faF ldAt liveRef aggOf nilckF binV binI binS binB unV Bool.not_true Bool.not_false List.length_nil List.length_cons List.nil_append List.cons_append List.append_nil List.getElem?_cons_zero List.getElem?_cons_succ List.drop_zero List.drop_succ_cons List.drop_nil List.take_zero List.take_succ_cons List.take_nil List.set_cons_zero List.set_cons_succ compact_same compact_new closedB nodupB envIds ids0 upto visit pos sel AV.ids idss idsss Ob.ids AV.ren rens renss Ob.ren renEnv AV.snap snaps stAt okSt putCells List.all_nil List.all_cons List.contains_nil List.contains_cons Bool.and_true Bool.true_and Bool.and_false Bool.false_and Bool.or_true Bool.true_or Bool.or_false Bool.false_or decide_eq_true_eq decide_true decide_false beq_iff_eq bne_iff_ne beq_self_eq_true Bool.not_eq_true' Bool.false_eq_true eq_self and_self and_true true_and and_false false_and or_true true_or or_false false_or not_true_eq_false not_false_eq_true ne_eq Nat.zero_add Nat.add_zero Nat.le_refl Nat.not_lt_zero Nat.lt_irrefl Nat.zero_le Int.toNat_natCast gt_iff_lt ge_iff_le Int.lt_irrefl Int.natCast_nonneg txt_eq get_nil appF belows AV.under AV.flat flats List.length_map List.map_append List.map_cons List.map_nil List.length_append take_map_all List.flatten_cons List.flatten_nil bld_nil imp_false false_imp_iff false_implies true_implies implies_true decide_eq_false_iff_not Nat.one_mul Nat.mul_one idsss_app renss_app belowss_app ev_mn ev_mx ev_isnils ev_sls ev_slx evo_none evo_some vals minV maxV minF maxF backId List.getElem?_nil putAll Option.all_none Option.all_some Option.isSome_some intOf aszI compactV_same compactV_new callP_any callQ_eq callN_any boxQ AV.id? ids_avR ren_av under_av snap_av renss_mapf belowss_mapf idsss_mapf isnilsF List.length_eq_zero_iff int_beq int_bne decide_not slx_av Int.toNat_zero
theorem wrap_nat {n : Nat} (h : n < 9223372036854775808) : IntKind.i64.wrap (n : Int) = (n : Int) := by
  rw [IntWalk.i64_in _ (by omega)]
theorem len_own (st : Store) (id g off ln : Nat) : lenAV st (.own id g off ln) = match st[id]? with | some (.row _ g' _ _) => if g' = g then some ln else none | _ => none := rfl
theorem len_nilV (st : Store) : lenAV st (.v (.slice none 0 0)) = some 0 := rfl
theorem elems_sl (st : Store) (k : Nat) (xs : List (List AV)) : elems st (.sl k xs) = some xs := rfl
theorem take_succT (l : List TermT) (x : List AV) : List.take (l.length + 1) (List.map TermT.cells l ++ [x]) = List.map TermT.cells l ++ [x] := List.take_of_length_le (by simp)
theorem all_lenT (xs : List TermT) : ((xs.map TermT.cells).all fun c => c.length == 5) = true := by
  rw [List.all_map]
  exact List.all_eq_true.2 fun x _ => rfl
theorem allB_app (l : List TermT) (t : TermT) (x : SagaT) : allB (l ++ [t]) x = (allB l x && holdsB t x) := by simp [allB]
theorem parts_len (l : List TermT) (t : TermT) (h : goodB t = true) : ∀ xs : List SagaT, (xs.filter (allB (l ++ [t]))).length + (xs.filter (allB (l ++ [t.flip]))).length = (xs.filter (allB l)).length
  | [] => rfl
  | x :: xs => by
    have ih := parts_len l t h xs
    simp only [List.filter_cons, allB_app, holds_flip t x h]
    cases allB l x <;> cases holdsB t x <;> simp <;> omega
theorem goods_app {l : List TermT} {t : TermT} (h : goodsB l = true) (ht : goodB t = true) (hl : l.length ≤ 30) : goodsB (l ++ [t]) = true := by
  simp only [goodsB, Bool.and_eq_true, decide_eq_true_eq, List.all_append, List.all_cons, List.all_nil, Bool.and_true] at h ⊢
  exact ⟨by simp; omega, h.2, ht⟩
theorem short_lok {l : Sl TermT} (h : shortS l = true) : l.list.length ≤ 40 ∧ LOK l.list := by
  simp only [shortS, Bool.and_eq_true, decide_eq_true_eq, Bool.not_eq_true'] at h
  refine ⟨h.1, fun t ht => ?_⟩
  have h2 := List.any_eq_false.1 h.2 t ht
  simp only [longT, Bool.or_eq_true, decide_eq_true_eq, not_or] at h2
  omega
set_option maxHeartbeats 8000000 in
theorem fn_lawPickFewer {E : Prog} (hE : Std E fns) (hv : VOK E)
    (haw : callP E f_usufructlaw36_awake [] = some (vb true)) (l : Sl SagaT) (ts : Sl TermT) (t : TermT) : callP E f_usufructlaw36_PickFewer [l.av 9 SagaT.cells, ts.av 5 TermT.cells, .agg t.cells] = some (vb true) := by
  have h1 := fn_short hE ts
  have h2 := fn_short hE (.mk [t])
  simp only [av_mk, List.map_cons, List.map_nil, TermT.cells] at h2
  rw [hE.run rfl rfl]
  cases hs1 : shortS ts
  · rw [hs1] at h1
    simp only [go_sem, reduceIte, reduceCtorEq, Nat.reduceEqDiff, Nat.reduceAdd, Nat.reduceSub, Nat.reduceLT, Nat.reduceLeDiff, Nat.reduceBEq, Nat.reduceMul, Nat.reduceBNe, Int.reduceEq, Int.reduceLT, Int.reduceLE, Int.reduceNe, Int.reduceToNat, cells_av, tuple_av, cellsL1, cellsL2, tupleL1, tupleL2, Prim.rdo, elems_sl, take_succT, ir_usufructlaw36_PickFewer, TermT.cells, haw, ross, belowss, idsss, h1, ro_term, ro_saga]
  rw [hs1] at h1
  obtain ⟨hlen, hlok⟩ := short_lok hs1
  have hl : ts.list.length < 9223372036854775807 := by omega
  cases hs2 : shortS (.mk [t])
  · rw [hs2] at h2
    simp only [go_sem, reduceIte, reduceCtorEq, Nat.reduceEqDiff, Nat.reduceAdd, Nat.reduceSub, Nat.reduceLT, Nat.reduceLeDiff, Nat.reduceBEq, Nat.reduceMul, Nat.reduceBNe, Int.reduceEq, Int.reduceLT, Int.reduceLE, Int.reduceNe, Int.reduceToNat, cells_av, tuple_av, cellsL1, cellsL2, tupleL1, tupleL2, Prim.rdo, elems_sl, take_succT, ir_usufructlaw36_PickFewer, TermT.cells, haw, ross, belowss, idsss, h1, h2, ro_term, ro_saga]
  rw [hs2] at h2
  have hlt : t.s.size ≤ 100 := (short_lok hs2).2 t (by simp [Sl.list])
  by_cases c1 : ts.list.length > 30
  · simp only [go_sem, reduceIte, reduceCtorEq, Nat.reduceEqDiff, Nat.reduceAdd, Nat.reduceSub, Nat.reduceLT, Nat.reduceLeDiff, Nat.reduceBEq, Nat.reduceMul, Nat.reduceBNe, Int.reduceEq, Int.reduceLT, Int.reduceLE, Int.reduceNe, Int.reduceToNat, cells_av, tuple_av, cellsL1, cellsL2, tupleL1, tupleL2, Prim.rdo, elems_sl, take_succT, ir_usufructlaw36_PickFewer, TermT.cells, haw, ross, belowss, idsss, h1, h2, ro_term, ro_saga, show (30 : Int) < ts.list.length by omega]
  have c1' : ¬ (30 : Int) < ts.list.length := by omega
  by_cases c2 : l.list.length > 20
  · simp only [go_sem, reduceIte, reduceCtorEq, Nat.reduceEqDiff, Nat.reduceAdd, Nat.reduceSub, Nat.reduceLT, Nat.reduceLeDiff, Nat.reduceBEq, Nat.reduceMul, Nat.reduceBNe, Int.reduceEq, Int.reduceLT, Int.reduceLE, Int.reduceNe, Int.reduceToNat, cells_av, tuple_av, cellsL1, cellsL2, tupleL1, tupleL2, Prim.rdo, elems_sl, take_succT, ir_usufructlaw36_PickFewer, TermT.cells, haw, ross, belowss, idsss, h1, h2, ro_term, ro_saga, c1', show (20 : Int) < l.list.length by omega]
  have c2' : ¬ (20 : Int) < l.list.length := by omega
  have h3 := fn_refGoods hE ts hl hlok
  cases hg : goodsB ts.list
  · rw [hg] at h3
    simp only [go_sem, reduceIte, reduceCtorEq, Nat.reduceEqDiff, Nat.reduceAdd, Nat.reduceSub, Nat.reduceLT, Nat.reduceLeDiff, Nat.reduceBEq, Nat.reduceMul, Nat.reduceBNe, Int.reduceEq, Int.reduceLT, Int.reduceLE, Int.reduceNe, Int.reduceToNat, cells_av, tuple_av, cellsL1, cellsL2, tupleL1, tupleL2, Prim.rdo, elems_sl, take_succT, ir_usufructlaw36_PickFewer, TermT.cells, haw, ross, belowss, idsss, h1, h2, h3, ro_term, ro_saga, c1', c2']
  rw [hg] at h3
  have h4 := fn_refTerm hE t (by omega)
  simp only [TermT.cells] at h4
  cases hgt : goodB t
  · rw [hgt] at h4
    simp only [go_sem, reduceIte, reduceCtorEq, Nat.reduceEqDiff, Nat.reduceAdd, Nat.reduceSub, Nat.reduceLT, Nat.reduceLeDiff, Nat.reduceBEq, Nat.reduceMul, Nat.reduceBNe, Int.reduceEq, Int.reduceLT, Int.reduceLE, Int.reduceNe, Int.reduceToNat, cells_av, tuple_av, cellsL1, cellsL2, tupleL1, tupleL2, Prim.rdo, elems_sl, take_succT, ir_usufructlaw36_PickFewer, TermT.cells, haw, ross, belowss, idsss, h1, h2, h3, h4, ro_term, ro_saga, c1', c2']
  rw [hgt] at h4
  have lokA : LOK (ts.list ++ [t]) := fun u hu => by
    rcases List.mem_append.1 hu with h | h
    · exact hlok u h
    · rw [List.mem_singleton.1 h]; exact hlt
  have lokB : LOK (ts.list ++ [t.flip]) := fun u hu => by
    rcases List.mem_append.1 hu with h | h
    · exact hlok u h
    · rw [List.mem_singleton.1 h]; exact hlt
  have s0 := fn_pickSagas hE hv .nil l 0 ts hl hlok (by omega)
  have hgA := goods_app hg hgt (by omega)
  have hgB := goods_app (t := t.flip) hg (by rw [good_flip]; exact hgt) (by omega)
  have lenA : (ts.list ++ [t]).length = ts.list.length + 1 := by rw [List.length_append]; rfl
  have lenB : (ts.list ++ [t.flip]).length = ts.list.length + 1 := by rw [List.length_append]; rfl
  obtain ⟨g1, s1⟩ := fn_pickSagasO hE hv l 0 (ts.list ++ [t]) 2 (by omega) lokA (by omega) hgA
  obtain ⟨g2, s2⟩ := fn_pickSagasO hE hv l 0 (ts.list ++ [t.flip]) 2 (by omega) lokB (by omega) hgB
  rw [lenA] at s1
  rw [lenB] at s2
  have s3 := fn_pickSagas hE hv .nil l 0 .nil (by simp [Sl.list]) (fun u hu => by simp [Sl.list] at hu) (by omega)
  simp only [av_mk, av_nil, stO, List.map_append, List.map_cons, List.map_nil, TermT.cells, TermT.flip] at s1 s2 s3
  have hp := parts_len ts.list t hgt l.list
  have e0 : sagasS l.list ts.list = l.list.filter (allB ts.list) := if_pos hg
  have e3 : sagasS l.list (Sl.nil (α := TermT)).list = l.list := by
    show (if goodsB [] = true then l.list.filter (allB []) else []) = l.list
    rw [if_pos (show goodsB [] = true from rfl)]
    exact List.filter_eq_self.2 fun _ _ => rfl
  have k1 : (ts.list.length) * 56 ≤ 140737488355328 := by omega
  have k2 : (ts.list.length + 1) * 56 ≤ 140737488355328 := by omega
  have hA : allB (ts.list ++ [t]) = allB (ts.list ++ [⟨t.not, t.field, t.sign, t.n, t.s⟩]) := rfl
  have q0 := List.length_filter_le (allB ts.list) l.list
  have hB : t.flip = ⟨!t.not, t.field, t.sign, t.n, t.s⟩ := rfl
  rw [hB] at hp
  rw [← e0] at hp
  generalize l.list.filter (allB (ts.list ++ [t])) = A at *
  generalize l.list.filter (allB (ts.list ++ [⟨!t.not, t.field, t.sign, t.n, t.s⟩])) = B at *
  have hAl : A.length ≤ 20 := by rw [e0] at hp; omega
  have hBl : B.length ≤ 20 := by rw [e0] at hp; omega
  have w1 : IntKind.i64.wrap ((A.length : Int) + (B.length : Int)) = ((sagasS l.list ts.list).length : Int) := by
    rw [← hp, ← Int.natCast_add]
    exact wrap_nat (by omega)
  by_cases a0 : A = []
  · by_cases b0 : B = []
    · subst a0
      subst b0
      simp only [bld_nil] at s1 s2
      simp only [List.length_nil, Int.natCast_zero] at w1
      simp only [go_sem, reduceIte, reduceCtorEq, Nat.reduceEqDiff, Nat.reduceAdd, Nat.reduceSub, Nat.reduceLT, Nat.reduceLeDiff, Nat.reduceBEq, Nat.reduceMul, Nat.reduceBNe, Int.reduceEq, Int.reduceLT, Int.reduceLE, Int.reduceNe, Int.reduceToNat, cells_av, tuple_av, cellsL1, cellsL2, tupleL1, tupleL2, Prim.rdo, elems_sl, take_succT, len_own, len_nilV, ir_usufructlaw36_PickFewer, TermT.cells, haw, ross, belowss, idsss, h1, h2, h3, h4, s0, s1, s2, s3, slOf_list, all_lenT, k1, k2, w1, e3, ro_term, ro_saga, c1', c2', Int.natCast_zero]
    · subst a0
      simp only [bld_nil, bld_ne b0] at s1 s2
      simp only [List.length_nil, Int.natCast_zero] at w1
      simp only [go_sem, reduceIte, reduceCtorEq, Nat.reduceEqDiff, Nat.reduceAdd, Nat.reduceSub, Nat.reduceLT, Nat.reduceLeDiff, Nat.reduceBEq, Nat.reduceMul, Nat.reduceBNe, Int.reduceEq, Int.reduceLT, Int.reduceLE, Int.reduceNe, Int.reduceToNat, cells_av, tuple_av, cellsL1, cellsL2, tupleL1, tupleL2, Prim.rdo, elems_sl, take_succT, len_own, len_nilV, ir_usufructlaw36_PickFewer, TermT.cells, haw, ross, belowss, idsss, h1, h2, h3, h4, s0, s1, s2, s3, slOf_list, all_lenT, k1, k2, w1, e3, ro_term, ro_saga, c1', c2', Int.natCast_zero]
  · by_cases b0 : B = []
    · subst b0
      simp only [bld_nil, bld_ne a0] at s1 s2
      simp only [List.length_nil, Int.natCast_zero] at w1
      simp only [go_sem, reduceIte, reduceCtorEq, Nat.reduceEqDiff, Nat.reduceAdd, Nat.reduceSub, Nat.reduceLT, Nat.reduceLeDiff, Nat.reduceBEq, Nat.reduceMul, Nat.reduceBNe, Int.reduceEq, Int.reduceLT, Int.reduceLE, Int.reduceNe, Int.reduceToNat, cells_av, tuple_av, cellsL1, cellsL2, tupleL1, tupleL2, Prim.rdo, elems_sl, take_succT, len_own, len_nilV, ir_usufructlaw36_PickFewer, TermT.cells, haw, ross, belowss, idsss, h1, h2, h3, h4, s0, s1, s2, s3, slOf_list, all_lenT, k1, k2, w1, e3, ro_term, ro_saga, c1', c2', Int.natCast_zero]
    · simp only [bld_ne a0, bld_ne b0] at s1 s2
      simp only [go_sem, reduceIte, reduceCtorEq, Nat.reduceEqDiff, Nat.reduceAdd, Nat.reduceSub, Nat.reduceLT, Nat.reduceLeDiff, Nat.reduceBEq, Nat.reduceMul, Nat.reduceBNe, Int.reduceEq, Int.reduceLT, Int.reduceLE, Int.reduceNe, Int.reduceToNat, cells_av, tuple_av, cellsL1, cellsL2, tupleL1, tupleL2, Prim.rdo, elems_sl, take_succT, len_own, len_nilV, ir_usufructlaw36_PickFewer, TermT.cells, haw, ross, belowss, idsss, h1, h2, h3, h4, s0, s1, s2, s3, slOf_list, all_lenT, k1, k2, w1, e3, ro_term, ro_saga, c1', c2', Int.natCast_zero]
end Go.Proofs.YtgehbkdpodnajaaDoor.Ev
