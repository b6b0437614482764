/-
  Picks: the sagas that are meant by a row of terms that is the caller's own.
-/
import Derived.Test.YtgehbkdpodnajaaDoorEvPick10
set_option linter.unusedVariables false
set_option linter.unusedSimpArgs false
namespace Go.Proofs.YtgehbkdpodnajaaDoor.Ev
attribute [local congr] bind_congr_head
attribute [local go_sem] opd_t opd_c opd_g opd_f opds_nil opds_cons get_cons put_some put_none keep_nil keepC_s keepC_n keep_cons runs_nil runs_cons run_op run_opr run_call run_gand run_gor run_gif seqK_norm seqK_exit seqK_ret blkK_norm blkK_exit blkK_ret runL_skip runL_exit runL_ret runL_items runL_seq runL_cond runL_block runL_loop fin_bind finK_norm finK_ret rvs_nil rvs_cons rv_tmp rv_cell tupOf_one tupOf_nil tupOf_two ev_mov ev_pick ev_alloc ev_box ev_build parts_nil parts_cons fills_nil fills_cons ev_bsl ev_bslo ev_load ev_store ev_nilck ev_bin ev_binb ev_aeq ev_un ev_i2i ev_i2t ev_s2b ev_ext ev_fld ev_idxs ev_fa ev_ias ev_len ev_lens ev_s2s ev_mkf ev_rng ev_nxt ev_app bOf_s pvOf_s agOf_s tpOf_s iOf_s sOf_s ite_bind Option.bind_some Option.bind_none if_true if_false ite_true ite_false argEnv_nil argEnv_cons len_av elems_av ias_av cells_av tuple_av AV.tuple AV.cells faF ldAt liveRef aggOf nilckF binV binI binS binB unV Bool.not_true Bool.not_false List.length_nil List.length_cons List.nil_append List.cons_append List.append_nil List.getElem?_cons_zero List.getElem?_cons_succ List.drop_zero List.drop_succ_cons List.drop_nil List.take_zero List.take_succ_cons List.take_nil List.set_cons_zero List.set_cons_succ compact_same compact_new closedB nodupB envIds ids0 upto visit pos sel AV.ids idss idsss Ob.ids AV.ren rens renss Ob.ren renEnv AV.snap snaps stAt okSt putCells List.all_nil List.all_cons List.contains_nil List.contains_cons Bool.and_true Bool.true_and Bool.and_false Bool.false_and Bool.or_true Bool.true_or Bool.or_false Bool.false_or decide_eq_true_eq decide_true decide_false beq_iff_eq bne_iff_ne beq_self_eq_true Bool.not_eq_true' Bool.false_eq_true eq_self and_self and_true true_and and_false false_and or_true true_or or_false false_or not_true_eq_false not_false_eq_true ne_eq Nat.zero_add Nat.add_zero Nat.le_refl Nat.not_lt_zero Nat.lt_irrefl Nat.zero_le Int.toNat_natCast gt_iff_lt ge_iff_le Int.lt_irrefl Int.natCast_nonneg txt_eq get_nil appF elems belows AV.under AV.flat flats List.length_map List.map_append List.map_cons List.map_nil List.length_append take_map_all List.flatten_cons List.flatten_nil bld_nil imp_false false_imp_iff false_implies true_implies implies_true decide_eq_false_iff_not Nat.one_mul Nat.mul_one idsss_app renss_app belowss_app ev_mn ev_mx ev_isnils ev_sls ev_slx evo_none evo_some vals minV maxV minF maxF backId List.getElem?_nil putAll Option.all_none Option.all_some Option.isSome_some intOf aszI compactV_same compactV_new callP_any callQ_eq callN_any boxQ AV.id? ids_avR ren_av under_av snap_av renss_mapf belowss_mapf idsss_mapf isnilsF List.length_eq_zero_iff int_beq int_bne decide_not slx_av Int.toNat_zero
abbrev stO (l : List TermT) (g : Nat) : Ob := .row 5 g (l.map TermT.cells) false
theorem ixfo_loop {E : Prog} (hE : Std E fns) {L : Env × Store → Option (Sig × Env × Store)} (f : Nat) (p : TermT → Bool) (l : List TermT) (g : Nat) (s : SagaT) (hl : l.length < 9223372036854775807)
    (hf : ∀ t, t ∈ l → callL E f [.agg t.cells, .ref 0 0 0 0] [] [.box s.cells] = some (vb (p t), [.box s.cells]))
    (hL : ∀ e st, L (e, st) = (IR.runL E.glob (callL E) [] ir_slices_IndexFunc_api_Term_api_Term_L0 e st).bind (seqK fun e st => L (compact [] 2 [0, 1, 7, 8] e st))) :
    ∀ (rest : List TermT) (i : Nat), l.drop i = rest → i ≤ l.length →
    ∃ n : Int, (0 ≤ n ↔ rest.any p = true) ∧ L ([(0, AV.own 0 g 0 l.length), (1, .fn f [.ref 1 0 0 0]), (7, vi l.length), (8, vi i)], [stO l g, .box s.cells]) =
      if rest.any p = true then some (.ret, [(4, vi n)], [stO l g, .box s.cells]) else some (.exit 0, [], [stO l g, .box s.cells])
  | [], i, h, hi => by
    have h1 := drop_nil' h hi
    refine ⟨-1, by simp, ?_⟩
    rw [hL]
    simp only [go_sem, reduceIte, reduceCtorEq, Nat.reduceEqDiff, Nat.reduceAdd, Nat.reduceSub, Nat.reduceLT, Nat.reduceLeDiff, Nat.reduceBEq, Nat.reduceMul, Nat.reduceBNe, Int.reduceEq, Int.reduceLT, Int.reduceLE, Int.reduceNe, Int.reduceToNat, ir_slices_IndexFunc_api_Term_api_Term_L0, stO, lenAV, h1, List.any_nil]
  | x :: rest, i, h, hi => by
    obtain ⟨h1, h2, h3, h4, h5⟩ := drop_cons h
    have h6 := wrap_succ (i := i) (by omega)
    have h9 : (l.map TermT.cells)[i]? = some x.cells := by rw [List.getElem?_map, h1]; rfl
    have h12 : i < l.length := by omega
    obtain ⟨n, hn, ih⟩ := ixfo_loop hE f p l g s hl hf hL rest (i + 1) h2 h4
    have hs := hf x (by have := List.mem_of_mem_drop (i := i) (l := l) (a := x) (by rw [h]; simp); exact this)
    cases c : p x
    · rw [c] at hs
      refine ⟨n, by simp [hn, c], ?_⟩
      rw [hL]
      simp only [go_sem, reduceIte, reduceCtorEq, Nat.reduceEqDiff, Nat.reduceAdd, Nat.reduceSub, Nat.reduceLT, Nat.reduceLeDiff, Nat.reduceBEq, Nat.reduceMul, Nat.reduceBNe, Int.reduceEq, Int.reduceLT, Int.reduceLE, Int.reduceNe, Int.reduceToNat, ir_slices_IndexFunc_api_Term_api_Term_L0, stO, lenAV, iasF, h9, h12, h1, h3, term_ids, term_rens, saga_ids, saga_rens, term_le5, term_take, h6, hs, c, List.any_cons, ih, ro_term, ro_saga]
    · rw [c] at hs
      refine ⟨i, by simp [c], ?_⟩
      rw [hL]
      simp only [go_sem, reduceIte, reduceCtorEq, Nat.reduceEqDiff, Nat.reduceAdd, Nat.reduceSub, Nat.reduceLT, Nat.reduceLeDiff, Nat.reduceBEq, Nat.reduceMul, Nat.reduceBNe, Int.reduceEq, Int.reduceLT, Int.reduceLE, Int.reduceNe, Int.reduceToNat, ir_slices_IndexFunc_api_Term_api_Term_L0, stO, lenAV, iasF, h9, h12, h1, h3, term_ids, term_rens, saga_ids, saga_rens, term_le5, term_take, h6, hs, c, List.any_cons, ro_term, ro_saga]
theorem fn_ctfo {E : Prog} (hE : Std E fns) (f : Nat) (p : TermT → Bool) (l : List TermT) (g : Nat) (s : SagaT) (hl : l.length < 9223372036854775807)
    (hf : ∀ t, t ∈ l → callL E f [.agg t.cells, .ref 0 0 0 0] [] [.box s.cells] = some (vb (p t), [.box s.cells])) :
    callL E f_slices_ContainsFunc_api_Term_api_Term [AV.own 0 g 0 l.length, .fn f [.ref 1 0 0 0]] [] [stO l g, .box s.cells] = some (vb (l.any p), [stO l g, .box s.cells]) := by
  obtain ⟨n, hn, ih⟩ := ixfo_loop hE f p l g s hl hf (loopL_eq (IR.runL E.glob (callL E) [] ir_slices_IndexFunc_api_Term_api_Term_L0) (compact [] 2 [0, 1, 7, 8])) l 0 rfl (by omega)
  simp only [Int.natCast_zero] at ih
  have h1 : callL E f_slices_IndexFunc_api_Term_api_Term [AV.own 0 g 0 l.length, .fn f [.ref 1 0 0 0]] [] [stO l g, .box s.cells] = some (vi (if l.any p = true then n else -1), [stO l g, .box s.cells]) := by
    rw [hE.runN rfl rfl]
    cases c : l.any p
    · simp only [c, Bool.false_eq_true, if_false] at ih
      simp only [go_sem, reduceIte, reduceCtorEq, Nat.reduceEqDiff, Nat.reduceAdd, Nat.reduceSub, Nat.reduceLT, Nat.reduceLeDiff, Nat.reduceBEq, Nat.reduceMul, Nat.reduceBNe, Int.reduceEq, Int.reduceLT, Int.reduceLE, Int.reduceNe, Int.reduceToNat, ir_slices_IndexFunc_api_Term_api_Term, stO, lenAV, List.length_map, ih, ro_term, ro_saga, saga_ids, saga_rens]
    · simp only [c, if_true] at ih
      simp only [go_sem, reduceIte, reduceCtorEq, Nat.reduceEqDiff, Nat.reduceAdd, Nat.reduceSub, Nat.reduceLT, Nat.reduceLeDiff, Nat.reduceBEq, Nat.reduceMul, Nat.reduceBNe, Int.reduceEq, Int.reduceLT, Int.reduceLE, Int.reduceNe, Int.reduceToNat, ir_slices_IndexFunc_api_Term_api_Term, stO, lenAV, List.length_map, ih, ro_term, ro_saga, saga_ids, saga_rens]
  rw [hE.runN rfl rfl]
  simp only [go_sem, reduceIte, reduceCtorEq, Nat.reduceEqDiff, Nat.reduceAdd, Nat.reduceSub, Nat.reduceLT, Nat.reduceLeDiff, Nat.reduceBEq, Nat.reduceMul, Nat.reduceBNe, Int.reduceEq, Int.reduceLT, Int.reduceLE, Int.reduceNe, Int.reduceToNat, ir_slices_ContainsFunc_api_Term_api_Term, stO, h1, ro_term, ro_saga, saga_ids, saga_rens]
  cases c : l.any p
  · simp
  · have : 0 ≤ n := hn.2 c
    simp [this]
theorem sagaso_loop {E : Prog} (hE : Std E fns) (hv : VOK E) {L : Env × Store → Option (Sig × Env × Store)} (l : List TermT) (g0 : Nat) (xs : Sl SagaT) (next : Int) (hl : l.length < 9223372036854775807) (ht : LOK l) (hx : xs.list.length ≤ 1000)
    (hL : ∀ e st, L (e, st) = (IR.runL E.glob (callL E) [] ir_pick_Sagas_L0 e st).bind (seqK fun e st => L (compact [] 2 [1, 5, 12, 13, 14] e st))) :
    ∀ (rest : List SagaT) (i : Nat) (out : List SagaT) (g : Nat), xs.list.drop i = rest → i ≤ xs.list.length → out.length ≤ i →
    ∃ g' : Nat, L ([(1, AV.own 0 g0 0 l.length), (5, (bld 9 SagaT.cells g (stO l g0 :: stSt xs next) out).1), (12, xs.av 9 SagaT.cells), (13, vi xs.list.length), (14, vi i)], (bld 9 SagaT.cells g (stO l g0 :: stSt xs next) out).2) =
      some (.exit 0, [(5, (bld 9 SagaT.cells g' (stO l g0 :: stSt xs next) (rest.foldl (addG l) out)).1)], (bld 9 SagaT.cells g' (stO l g0 :: stSt xs next) (rest.foldl (addG l) out)).2)
  | [], i, out, g, h, hi, ho => by
    have h1 := drop_nil' h hi
    refine ⟨g, ?_⟩
    rw [hL]
    simp only [go_sem, reduceIte, reduceCtorEq, Nat.reduceEqDiff, Nat.reduceAdd, Nat.reduceSub, Nat.reduceLT, Nat.reduceLeDiff, Nat.reduceBEq, Nat.reduceMul, Nat.reduceBNe, Int.reduceEq, Int.reduceLT, Int.reduceLE, Int.reduceNe, Int.reduceToNat, ir_pick_Sagas_L0, stO, h1, List.foldl_nil]
  | x :: rest, i, out, g, h, hi, ho => by
    obtain ⟨h1, h2, h3, h4, h5⟩ := drop_cons h
    have h6 := wrap_succ (i := i) (by omega)
    have hc := fn_ctfo hE f_pick_Sagas_1 (fun t => !holdsB t x) l g0 x hl (fun t h => fn_sagas1 hE hv t x (ht t h))
    have ha : l.any (fun t => !holdsB t x) = !allB l x := any_not (fun t => holdsB t x) l
    rw [ha] at hc
    simp only [SagaT.cells, stO] at hc
    rw [hL]
    by_cases hne : out = []
    · subst hne
      cases c : allB l x
      · rw [c] at hc
        obtain ⟨g', ih⟩ := sagaso_loop hE hv l g0 xs next hl ht hx hL rest (i + 1) [] 0 h2 h4 (by simp)
        refine ⟨g', ?_⟩
        have e : (x :: rest).foldl (addG l) [] = rest.foldl (addG l) [] := by simp [addG, c]
        rw [e, ← ih]
        simp only [go_sem, reduceIte, reduceCtorEq, Nat.reduceEqDiff, Nat.reduceAdd, Nat.reduceSub, Nat.reduceLT, Nat.reduceLeDiff, Nat.reduceBEq, Nat.reduceMul, Nat.reduceBNe, Int.reduceEq, Int.reduceLT, Int.reduceLE, Int.reduceNe, Int.reduceToNat, ir_pick_Sagas_L0, stO, h1, h3, SagaT.cells, h6, hc, ro_term, ro_saga]
      · rw [c] at hc
        obtain ⟨g', ih⟩ := sagaso_loop hE hv l g0 xs next hl ht hx hL rest (i + 1) [x] 0 h2 h4 (by simp)
        refine ⟨g', ?_⟩
        have e : (x :: rest).foldl (addG l) [] = rest.foldl (addG l) [x] := by simp [addG, c]
        rw [e, ← ih]
        simp only [go_sem, reduceIte, reduceCtorEq, Nat.reduceEqDiff, Nat.reduceAdd, Nat.reduceSub, Nat.reduceLT, Nat.reduceLeDiff, Nat.reduceBEq, Nat.reduceMul, Nat.reduceBNe, Int.reduceEq, Int.reduceLT, Int.reduceLE, Int.reduceNe, Int.reduceToNat, ir_pick_Sagas_L0, stO, h1, h3, SagaT.cells, h6, hc, bld_ne (List.cons_ne_nil x []), ro_term, ro_saga]
    · have hb : (out.length + 1) * 80 ≤ 140737488355328 := by omega
      cases c : allB l x
      · rw [c] at hc
        obtain ⟨g', ih⟩ := sagaso_loop hE hv l g0 xs next hl ht hx hL rest (i + 1) out g h2 h4 (by omega)
        refine ⟨g', ?_⟩
        have e : (x :: rest).foldl (addG l) out = rest.foldl (addG l) out := by simp only [List.foldl_cons, addG, c]; rfl
        rw [e, ← ih]
        simp only [go_sem, reduceIte, reduceCtorEq, Nat.reduceEqDiff, Nat.reduceAdd, Nat.reduceSub, Nat.reduceLT, Nat.reduceLeDiff, Nat.reduceBEq, Nat.reduceMul, Nat.reduceBNe, Int.reduceEq, Int.reduceLT, Int.reduceLE, Int.reduceNe, Int.reduceToNat, ir_pick_Sagas_L0, stO, h1, h3, SagaT.cells, h6, hc, bld_ne hne, ro_term, ro_saga]
      · rw [c] at hc
        obtain ⟨g', ih⟩ := sagaso_loop hE hv l g0 xs next hl ht hx hL rest (i + 1) (out ++ [x]) (g + 1) h2 h4 (by simp; omega)
        refine ⟨g', ?_⟩
        have e : (x :: rest).foldl (addG l) out = rest.foldl (addG l) (out ++ [x]) := by simp only [List.foldl_cons, addG, c]; rfl
        rw [e, ← ih]
        simp only [go_sem, reduceIte, reduceCtorEq, Nat.reduceEqDiff, Nat.reduceAdd, Nat.reduceSub, Nat.reduceLT, Nat.reduceLeDiff, Nat.reduceBEq, Nat.reduceMul, Nat.reduceBNe, Int.reduceEq, Int.reduceLT, Int.reduceLE, Int.reduceNe, Int.reduceToNat, ir_pick_Sagas_L0, stO, h1, h3, SagaT.cells, h6, hc, hb, bld_ne hne, bld_ne (ne_app out x), ro_term, ro_saga]
theorem fn_pickSagasO {E : Prog} (hE : Std E fns) (hv : VOK E) (xs : Sl SagaT) (next : Int) (l : List TermT) (g0 : Nat) (hl : l.length < 9223372036854775807) (ht : LOK l) (hx : xs.list.length ≤ 1000) (hg : goodsB l = true) :
    ∃ g', callL E f_pick_Sagas [.agg [.v (.slice none 0 0), xs.av 9 SagaT.cells, vi next], .own 0 g0 0 l.length] [] [stO l g0] =
      some (bld 9 SagaT.cells g' [stO l g0] (xs.list.filter (allB l))) := by
  have h1 := fn_pickGoods hE hv (.mk l) hl ht
  have e : (Sl.mk l).list = l := rfl
  rw [e, hg] at h1
  simp only [av_mk] at h1
  obtain ⟨g', ih⟩ := sagaso_loop hE hv l g0 xs next hl ht hx (loopL_eq (IR.runL E.glob (callL E) [] ir_pick_Sagas_L0) (compact [] 2 [1, 5, 12, 13, 14])) xs.list 0 [] 0 rfl (by omega) (by simp)
  simp only [Int.natCast_zero, bld_nil, addG_filter, List.nil_append] at ih
  refine ⟨g', ?_⟩
  rw [hE.runN rfl rfl]
  generalize xs.list.filter (allB l) = ys at ih ⊢
  by_cases h0 : ys = []
  · subst h0
    simp only [bld_nil, stO] at ih
    simp only [go_sem, reduceIte, reduceCtorEq, Nat.reduceEqDiff, Nat.reduceAdd, Nat.reduceSub, Nat.reduceLT, Nat.reduceLeDiff, Nat.reduceBEq, Nat.reduceMul, Nat.reduceBNe, Int.reduceEq, Int.reduceLT, Int.reduceLE, Int.reduceNe, Int.reduceToNat, ir_pick_Sagas, stO, h1, ro_term, ro_saga, ih]
  · simp only [bld_ne h0, stO] at ih
    simp only [go_sem, reduceIte, reduceCtorEq, Nat.reduceEqDiff, Nat.reduceAdd, Nat.reduceSub, Nat.reduceLT, Nat.reduceLeDiff, Nat.reduceBEq, Nat.reduceMul, Nat.reduceBNe, Int.reduceEq, Int.reduceLT, Int.reduceLE, Int.reduceNe, Int.reduceToNat, ir_pick_Sagas, stO, h1, ro_term, ro_saga, ih, bld_ne h0]
end Go.Proofs.YtgehbkdpodnajaaDoor.Ev
