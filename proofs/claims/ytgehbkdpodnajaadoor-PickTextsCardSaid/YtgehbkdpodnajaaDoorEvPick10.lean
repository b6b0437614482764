/-
  Picks: which terms are those of a pick; the sagas that are meant.
-/
import Derived.Test.YtgehbkdpodnajaaDoorEvPick5
set_option linter.unusedVariables false
set_option linter.unusedSimpArgs false
namespace Go.Proofs.YtgehbkdpodnajaaDoor.Ev
attribute [local congr] bind_congr_head
attribute [local go_sem] opd_t opd_c opd_g opd_f opds_nil opds_cons get_cons put_some put_none keep_nil keepC_s keepC_n keep_cons runs_nil runs_cons run_op run_opr run_call run_gand run_gor run_gif seqK_norm seqK_exit seqK_ret blkK_norm blkK_exit blkK_ret runL_skip runL_exit runL_ret runL_items runL_seq runL_cond runL_block runL_loop fin_bind finK_norm finK_ret rvs_nil rvs_cons rv_tmp rv_cell tupOf_one tupOf_nil tupOf_two ev_mov ev_pick ev_alloc ev_box ev_build parts_nil parts_cons fills_nil fills_cons ev_bsl ev_bslo ev_load ev_store ev_nilck ev_bin ev_binb ev_aeq ev_un ev_i2i ev_i2t ev_s2b ev_ext ev_fld ev_idxs ev_fa ev_ias ev_len ev_lens ev_s2s ev_mkf ev_rng ev_nxt ev_app bOf_s pvOf_s agOf_s tpOf_s iOf_s sOf_s ite_bind Option.bind_some Option.bind_none if_true if_false ite_true ite_false argEnv_nil argEnv_cons len_av elems_av ias_av cells_av tuple_av AV.tuple AV.cells faF ldAt liveRef aggOf nilckF binV binI binS binB unV Bool.not_true Bool.not_false List.length_nil List.length_cons List.nil_append List.cons_append List.append_nil List.getElem?_cons_zero List.getElem?_cons_succ List.drop_zero List.drop_succ_cons List.drop_nil List.take_zero List.take_succ_cons List.take_nil List.set_cons_zero List.set_cons_succ compact_same compact_new closedB nodupB envIds ids0 upto visit pos sel AV.ids idss idsss Ob.ids AV.ren rens renss Ob.ren renEnv AV.snap snaps stAt okSt putCells List.all_nil List.all_cons List.contains_nil List.contains_cons Bool.and_true Bool.true_and Bool.and_false Bool.false_and Bool.or_true Bool.true_or Bool.or_false Bool.false_or decide_eq_true_eq decide_true decide_false beq_iff_eq bne_iff_ne beq_self_eq_true Bool.not_eq_true' Bool.false_eq_true eq_self and_self and_true true_and and_false false_and or_true true_or or_false false_or not_true_eq_false not_false_eq_true ne_eq Nat.zero_add Nat.add_zero Nat.le_refl Nat.not_lt_zero Nat.lt_irrefl Nat.zero_le Int.toNat_natCast gt_iff_lt ge_iff_le Int.lt_irrefl Int.natCast_nonneg txt_eq get_nil appF elems belows AV.under AV.flat flats List.length_map List.map_append List.map_cons List.map_nil List.length_append take_map_all List.flatten_cons List.flatten_nil bld_nil imp_false false_imp_iff false_implies true_implies implies_true decide_eq_false_iff_not Nat.one_mul Nat.mul_one idsss_app renss_app belowss_app ev_mn ev_mx ev_isnils ev_sls ev_slx evo_none evo_some vals minV maxV minF maxF backId List.getElem?_nil putAll Option.all_none Option.all_some Option.isSome_some intOf aszI compactV_same compactV_new callP_any callQ_eq callN_any boxQ AV.id? ids_avR ren_av under_av snap_av renss_mapf belowss_mapf idsss_mapf isnilsF List.length_eq_zero_iff int_beq int_bne decide_not slx_av Int.toNat_zero
def longT (t : TermT) : Bool := decide (t.field.size > 20) || decide (t.s.size > 100)
def shortS (l : Sl TermT) : Bool := decide (l.list.length ≤ 40) && !l.list.any longT
theorem term_le5 (s : TermT) : (5 ≤ s.cells.length) = True := eq_true (by show 5 ≤ 5; omega)
theorem term_take (s : TermT) : s.cells.take 5 = s.cells := rfl
def TermT.flip (t : TermT) : TermT := ⟨!t.not, t.field, t.sign, t.n, t.s⟩
theorem good_flip (t : TermT) : goodB t.flip = goodB t := rfl
def holdsR (t : TermT) (x : SagaT) : Bool := if fieldK t.field = 6 then decide (x.de = t.s) else decide (cmpS (fieldS (fieldK t.field) x) t.n = t.sign)
theorem holds_flip (t : TermT) (x : SagaT) (h : goodB t = true) : holdsB t.flip x = !holdsB t x := by
  have e : holdsB t.flip x = (goodB t && (holdsR t x != !t.not)) := rfl
  have e2 : holdsB t x = (goodB t && (holdsR t x != t.not)) := rfl
  rw [e, e2, h]
  cases holdsR t x <;> cases t.not <;> rfl
theorem short_loop {G : Nat → Option (List AV)} {raw : Raw} {L : Env × Store → Option (Sig × Env × Store)} (l : Sl TermT) (hs : l.list.length ≤ 40) (hL : ∀ e st, L (e, st) = (IR.runL G raw [] ir_usufructlaw36_short_L0 e st).bind (seqK fun e st => L (compact [] 0 [0, 3] e st))) :
    ∀ (rest : List TermT) (i : Nat), l.list.drop i = rest → i ≤ l.list.length →
    L ([(0, l.av 5 TermT.cells), (3, vi i)], []) = if rest.any longT = true then some (.ret, [(2, vb false)], []) else some (.exit 0, [], [])
  | [], i, h, hi => by
    have h1 := drop_nil' h hi
    rw [hL]
    simp only [go_sem, reduceIte, reduceCtorEq, Nat.reduceEqDiff, Nat.reduceAdd, Nat.reduceSub, Nat.reduceLT, Nat.reduceLeDiff, Nat.reduceBEq, Nat.reduceMul, Nat.reduceBNe, Int.reduceEq, Int.reduceLT, Int.reduceLE, Int.reduceNe, Int.reduceToNat, ir_usufructlaw36_short_L0, h1, List.any_nil]
  | x :: rest, i, h, hi => by
    obtain ⟨h1, h2, h3, h4, h5⟩ := drop_cons h
    have h6 := wrap_succ (i := i) (by omega)
    have ih := short_loop l hs hL rest (i + 1) h2 h4
    rw [hL]
    simp only [go_sem, reduceIte, reduceCtorEq, Nat.reduceEqDiff, Nat.reduceAdd, Nat.reduceSub, Nat.reduceLT, Nat.reduceLeDiff, Nat.reduceBEq, Nat.reduceMul, Nat.reduceBNe, Int.reduceEq, Int.reduceLT, Int.reduceLE, Int.reduceNe, Int.reduceToNat, ir_usufructlaw36_short_L0, h1, h3, TermT.cells, h6, ih, List.any_cons, longT]
    by_cases c1 : x.field.size > 20
    · simp [c1, show (20 : Int) < x.field.size by omega]
    · by_cases c2 : x.s.size > 100
      · simp [c1, c2, show ¬ (20 : Int) < x.field.size by omega, show (100 : Int) < x.s.size by omega]
      · simp [c1, c2, show ¬ (20 : Int) < x.field.size by omega, show ¬ (100 : Int) < x.s.size by omega]
theorem fn_short {E : Prog} (hE : Std E fns) (l : Sl TermT) : callP E f_usufructlaw36_short [l.av 5 TermT.cells] = some (vb (shortS l)) := by
  rw [hE.run rfl rfl]
  simp only [go_sem, reduceIte, reduceCtorEq, Nat.reduceEqDiff, Nat.reduceAdd, Nat.reduceSub, Nat.reduceLT, Nat.reduceLeDiff, Nat.reduceBEq, Nat.reduceMul, Nat.reduceBNe, Int.reduceEq, Int.reduceLT, Int.reduceLE, Int.reduceNe, Int.reduceToNat, ir_usufructlaw36_short, shortS]
  by_cases c1 : l.list.length > 40
  · have c2 : ¬ l.list.length ≤ 40 := by omega
    simp [c2, show (40 : Int) < l.list.length by omega]
  · simp only [show ¬ (40 : Int) < l.list.length by omega, if_false]
    have := short_loop l (by omega) (loopL_eq (IR.runL E.glob (callL E) [] ir_usufructlaw36_short_L0) (compact [] 0 [0, 3])) l.list 0 rfl (by omega)
    simp only [Int.natCast_zero] at this
    rw [this]
    have c2 : l.list.length ≤ 40 := by omega
    cases l.list.any longT <;> simp only [go_sem, reduceIte, reduceCtorEq, Nat.reduceEqDiff, Nat.reduceAdd, Nat.reduceSub, Nat.reduceLT, Nat.reduceLeDiff, Nat.reduceBEq, Nat.reduceMul, Nat.reduceBNe, Int.reduceEq, Int.reduceLT, Int.reduceLE, Int.reduceNe, Int.reduceToNat, c2]
end Go.Proofs.YtgehbkdpodnajaaDoor.Ev
set_option linter.unusedVariables false
set_option linter.unusedSimpArgs false
namespace Go.Proofs.YtgehbkdpodnajaaDoor.Ev
attribute [local congr] bind_congr_head
attribute [local go_sem] opd_t opd_c opd_g opd_f opds_nil opds_cons get_cons put_some put_none keep_nil keepC_s keepC_n keep_cons runs_nil runs_cons run_op run_opr run_call run_gand run_gor run_gif seqK_norm seqK_exit seqK_ret blkK_norm blkK_exit blkK_ret runL_skip runL_exit runL_ret runL_items runL_seq runL_cond runL_block runL_loop fin_bind finK_norm finK_ret rvs_nil rvs_cons rv_tmp rv_cell tupOf_one tupOf_nil tupOf_two ev_mov ev_pick ev_alloc ev_box ev_build parts_nil parts_cons fills_nil fills_cons ev_bsl ev_bslo ev_load ev_store ev_nilck ev_bin ev_binb ev_aeq ev_un ev_i2i ev_i2t ev_s2b ev_ext ev_fld ev_idxs ev_fa ev_ias ev_len ev_lens ev_s2s ev_mkf ev_rng ev_nxt ev_app bOf_s pvOf_s agOf_s tpOf_s iOf_s sOf_s ite_bind Option.bind_some Option.bind_none if_true if_false ite_true ite_false argEnv_nil argEnv_cons len_av elems_av ias_av cells_av tuple_av AV.tuple AV.cells faF ldAt liveRef aggOf nilckF binV binI binS binB unV Bool.not_true Bool.not_false List.length_nil List.length_cons List.nil_append List.cons_append List.append_nil List.getElem?_cons_zero List.getElem?_cons_succ List.drop_zero List.drop_succ_cons List.drop_nil List.take_zero List.take_succ_cons List.take_nil List.set_cons_zero List.set_cons_succ compact_same compact_new closedB nodupB envIds ids0 upto visit pos sel AV.ids idss idsss Ob.ids AV.ren rens renss Ob.ren renEnv AV.snap snaps stAt okSt putCells List.all_nil List.all_cons List.contains_nil List.contains_cons Bool.and_true Bool.true_and Bool.and_false Bool.false_and Bool.or_true Bool.true_or Bool.or_false Bool.false_or decide_eq_true_eq decide_true decide_false beq_iff_eq bne_iff_ne beq_self_eq_true Bool.not_eq_true' Bool.false_eq_true eq_self and_self and_true true_and and_false false_and or_true true_or or_false false_or not_true_eq_false not_false_eq_true ne_eq Nat.zero_add Nat.add_zero Nat.le_refl Nat.not_lt_zero Nat.lt_irrefl Nat.zero_le Int.toNat_natCast gt_iff_lt ge_iff_le Int.lt_irrefl Int.natCast_nonneg txt_eq get_nil appF elems belows AV.under AV.flat flats List.length_map List.map_append List.map_cons List.map_nil List.length_append take_map_all List.flatten_cons List.flatten_nil bld_nil imp_false false_imp_iff false_implies true_implies implies_true decide_eq_false_iff_not Nat.one_mul Nat.mul_one idsss_app renss_app belowss_app ev_mn ev_mx ev_isnils ev_sls ev_slx evo_none evo_some vals minV maxV minF maxF backId List.getElem?_nil putAll Option.all_none Option.all_some Option.isSome_some intOf aszI compactV_same compactV_new callP_any callQ_eq callN_any boxQ AV.id? ids_avR ren_av under_av snap_av renss_mapf belowss_mapf idsss_mapf isnilsF List.length_eq_zero_iff int_beq int_bne decide_not slx_av Int.toNat_zero
theorem term_rens (ρ : Nat → Nat) (s : TermT) : rens ρ s.cells = s.cells := rfl
theorem saga_rens (ρ : Nat → Nat) (s : SagaT) : rens ρ s.cells = s.cells := rfl
theorem term_snaps (st : Store) (s : TermT) : snaps st s.cells = some s.cells := rfl
theorem saga_snaps (st : Store) (s : SagaT) : snaps st s.cells = some s.cells := rfl
theorem saga_le9 (s : SagaT) : (9 ≤ s.cells.length) = True := eq_true (by show 9 ≤ 9; omega)
theorem saga_take (s : SagaT) : s.cells.take 9 = s.cells := rfl
abbrev VOK (E : Prog) : Prop := ∀ s : ByteArray, s.size < 9223372036854775807 → callP E f_utf8_ValidString [vs s] = some (vb (Lib.validD s.data.toList))
/-- The names of the terms are no longer than that. -/
abbrev LOK (l : List TermT) : Prop := ∀ t, t ∈ l → t.s.size ≤ 100
/-! ### ContainsFunc, of a function that captures nothing -/
theorem ixf0_loop {E : Prog} (hE : Std E fns) {L : Env × Store → Option (Sig × Env × Store)} (f : Nat) (p : TermT → Bool) (l : Sl TermT) (hl : l.list.length < 9223372036854775807)
    (hf : ∀ t, t ∈ l.list → callL E f [.agg t.cells] [] [] = some (vb (p t), []))
    (hL : ∀ e st, L (e, st) = (IR.runL E.glob (callL E) [] ir_slices_IndexFunc_api_Term_api_Term_L0 e st).bind (seqK fun e st => L (compact [] 0 [0, 1, 7, 8] e st))) :
    ∀ (rest : List TermT) (i : Nat), l.list.drop i = rest → i ≤ l.list.length →
    ∃ n : Int, (0 ≤ n ↔ rest.any p = true) ∧ L ([(0, l.av 5 TermT.cells), (1, .fn f []), (7, vi l.list.length), (8, vi i)], []) =
      if rest.any p = true then some (.ret, [(4, vi n)], []) else some (.exit 0, [], [])
  | [], i, h, hi => by
    have h1 := drop_nil' h hi
    refine ⟨-1, by simp, ?_⟩
    rw [hL]
    simp only [go_sem, reduceIte, reduceCtorEq, Nat.reduceEqDiff, Nat.reduceAdd, Nat.reduceSub, Nat.reduceLT, Nat.reduceLeDiff, Nat.reduceBEq, Nat.reduceMul, Nat.reduceBNe, Int.reduceEq, Int.reduceLT, Int.reduceLE, Int.reduceNe, Int.reduceToNat, ir_slices_IndexFunc_api_Term_api_Term_L0, h1, List.any_nil]
  | x :: rest, i, h, hi => by
    obtain ⟨h1, h2, h3, h4, h5⟩ := drop_cons h
    have h6 := wrap_succ (i := i) (by omega)
    obtain ⟨n, hn, ih⟩ := ixf0_loop hE f p l hl hf hL rest (i + 1) h2 h4
    have hs := hf x (by have := List.mem_of_mem_drop (i := i) (l := l.list) (a := x) (by rw [h]; simp); exact this)
    cases c : p x
    · rw [c] at hs
      refine ⟨n, by simp [hn, c], ?_⟩
      rw [hL]
      simp only [go_sem, reduceIte, reduceCtorEq, Nat.reduceEqDiff, Nat.reduceAdd, Nat.reduceSub, Nat.reduceLT, Nat.reduceLeDiff, Nat.reduceBEq, Nat.reduceMul, Nat.reduceBNe, Int.reduceEq, Int.reduceLT, Int.reduceLE, Int.reduceNe, Int.reduceToNat, ir_slices_IndexFunc_api_Term_api_Term_L0, h1, h3, term_ids, term_rens, term_le5, term_take, h6, hs, c, List.any_cons, ih, ro_term]
    · rw [c] at hs
      refine ⟨i, by simp [c], ?_⟩
      rw [hL]
      simp only [go_sem, reduceIte, reduceCtorEq, Nat.reduceEqDiff, Nat.reduceAdd, Nat.reduceSub, Nat.reduceLT, Nat.reduceLeDiff, Nat.reduceBEq, Nat.reduceMul, Nat.reduceBNe, Int.reduceEq, Int.reduceLT, Int.reduceLE, Int.reduceNe, Int.reduceToNat, ir_slices_IndexFunc_api_Term_api_Term_L0, h1, h3, term_ids, term_rens, term_le5, term_take, h6, hs, c, List.any_cons, ro_term]
theorem fn_ctf0 {E : Prog} (hE : Std E fns) (f : Nat) (p : TermT → Bool) (l : Sl TermT) (hl : l.list.length < 9223372036854775807)
    (hf : ∀ t, t ∈ l.list → callL E f [.agg t.cells] [] [] = some (vb (p t), [])) :
    callL E f_slices_ContainsFunc_api_Term_api_Term [l.av 5 TermT.cells, .fn f []] [] [] = some (vb (l.list.any p), []) := by
  obtain ⟨n, hn, ih⟩ := ixf0_loop hE f p l hl hf (loopL_eq (IR.runL E.glob (callL E) [] ir_slices_IndexFunc_api_Term_api_Term_L0) (compact [] 0 [0, 1, 7, 8])) l.list 0 rfl (by omega)
  simp only [Int.natCast_zero] at ih
  have h1 : callL E f_slices_IndexFunc_api_Term_api_Term [l.av 5 TermT.cells, .fn f []] [] [] = some (vi (if l.list.any p = true then n else -1), []) := by
    rw [hE.runN rfl rfl]
    cases c : l.list.any p
    · simp only [c, Bool.false_eq_true, if_false] at ih
      simp only [go_sem, reduceIte, reduceCtorEq, Nat.reduceEqDiff, Nat.reduceAdd, Nat.reduceSub, Nat.reduceLT, Nat.reduceLeDiff, Nat.reduceBEq, Nat.reduceMul, Nat.reduceBNe, Int.reduceEq, Int.reduceLT, Int.reduceLE, Int.reduceNe, Int.reduceToNat, ir_slices_IndexFunc_api_Term_api_Term, ih, ro_term]
    · simp only [c, if_true] at ih
      simp only [go_sem, reduceIte, reduceCtorEq, Nat.reduceEqDiff, Nat.reduceAdd, Nat.reduceSub, Nat.reduceLT, Nat.reduceLeDiff, Nat.reduceBEq, Nat.reduceMul, Nat.reduceBNe, Int.reduceEq, Int.reduceLT, Int.reduceLE, Int.reduceNe, Int.reduceToNat, ir_slices_IndexFunc_api_Term_api_Term, ih, ro_term]
  rw [hE.runN rfl rfl]
  simp only [go_sem, reduceIte, reduceCtorEq, Nat.reduceEqDiff, Nat.reduceAdd, Nat.reduceSub, Nat.reduceLT, Nat.reduceLeDiff, Nat.reduceBEq, Nat.reduceMul, Nat.reduceBNe, Int.reduceEq, Int.reduceLT, Int.reduceLE, Int.reduceNe, Int.reduceToNat, ir_slices_ContainsFunc_api_Term_api_Term, h1, ro_term]
  cases c : l.list.any p
  · simp
  · have : 0 ≤ n := hn.2 c
    simp [this]
/-! ### ContainsFunc, of a function that captures a box -/
theorem ixf1_loop {E : Prog} (hE : Std E fns) {L : Env × Store → Option (Sig × Env × Store)} (f : Nat) (p : TermT → Bool) (l : Sl TermT) (s : SagaT) (hl : l.list.length < 9223372036854775807)
    (hf : ∀ t, t ∈ l.list → callL E f [.agg t.cells, .ref 0 0 0 0] [] [.box s.cells] = some (vb (p t), [.box s.cells]))
    (hL : ∀ e st, L (e, st) = (IR.runL E.glob (callL E) [] ir_slices_IndexFunc_api_Term_api_Term_L0 e st).bind (seqK fun e st => L (compact [] 1 [0, 1, 7, 8] e st))) :
    ∀ (rest : List TermT) (i : Nat), l.list.drop i = rest → i ≤ l.list.length →
    ∃ n : Int, (0 ≤ n ↔ rest.any p = true) ∧ L ([(0, l.av 5 TermT.cells), (1, .fn f [.ref 0 0 0 0]), (7, vi l.list.length), (8, vi i)], [.box s.cells]) =
      if rest.any p = true then some (.ret, [(4, vi n)], [.box s.cells]) else some (.exit 0, [], [.box s.cells])
  | [], i, h, hi => by
    have h1 := drop_nil' h hi
    refine ⟨-1, by simp, ?_⟩
    rw [hL]
    simp only [go_sem, reduceIte, reduceCtorEq, Nat.reduceEqDiff, Nat.reduceAdd, Nat.reduceSub, Nat.reduceLT, Nat.reduceLeDiff, Nat.reduceBEq, Nat.reduceMul, Nat.reduceBNe, Int.reduceEq, Int.reduceLT, Int.reduceLE, Int.reduceNe, Int.reduceToNat, ir_slices_IndexFunc_api_Term_api_Term_L0, h1, List.any_nil]
  | x :: rest, i, h, hi => by
    obtain ⟨h1, h2, h3, h4, h5⟩ := drop_cons h
    have h6 := wrap_succ (i := i) (by omega)
    obtain ⟨n, hn, ih⟩ := ixf1_loop hE f p l s hl hf hL rest (i + 1) h2 h4
    have hs := hf x (by have := List.mem_of_mem_drop (i := i) (l := l.list) (a := x) (by rw [h]; simp); exact this)
    cases c : p x
    · rw [c] at hs
      refine ⟨n, by simp [hn, c], ?_⟩
      rw [hL]
      simp only [go_sem, reduceIte, reduceCtorEq, Nat.reduceEqDiff, Nat.reduceAdd, Nat.reduceSub, Nat.reduceLT, Nat.reduceLeDiff, Nat.reduceBEq, Nat.reduceMul, Nat.reduceBNe, Int.reduceEq, Int.reduceLT, Int.reduceLE, Int.reduceNe, Int.reduceToNat, ir_slices_IndexFunc_api_Term_api_Term_L0, h1, h3, term_ids, term_rens, saga_ids, saga_rens, term_le5, term_take, h6, hs, c, List.any_cons, ih, ro_term, ro_saga]
    · rw [c] at hs
      refine ⟨i, by simp [c], ?_⟩
      rw [hL]
      simp only [go_sem, reduceIte, reduceCtorEq, Nat.reduceEqDiff, Nat.reduceAdd, Nat.reduceSub, Nat.reduceLT, Nat.reduceLeDiff, Nat.reduceBEq, Nat.reduceMul, Nat.reduceBNe, Int.reduceEq, Int.reduceLT, Int.reduceLE, Int.reduceNe, Int.reduceToNat, ir_slices_IndexFunc_api_Term_api_Term_L0, h1, h3, term_ids, term_rens, saga_ids, saga_rens, term_le5, term_take, h6, hs, c, List.any_cons, ro_term, ro_saga]
theorem fn_ctf1 {E : Prog} (hE : Std E fns) (f : Nat) (p : TermT → Bool) (l : Sl TermT) (s : SagaT) (hl : l.list.length < 9223372036854775807)
    (hf : ∀ t, t ∈ l.list → callL E f [.agg t.cells, .ref 0 0 0 0] [] [.box s.cells] = some (vb (p t), [.box s.cells])) :
    callL E f_slices_ContainsFunc_api_Term_api_Term [l.av 5 TermT.cells, .fn f [.ref 0 0 0 0]] [] [.box s.cells] = some (vb (l.list.any p), [.box s.cells]) := by
  obtain ⟨n, hn, ih⟩ := ixf1_loop hE f p l s hl hf (loopL_eq (IR.runL E.glob (callL E) [] ir_slices_IndexFunc_api_Term_api_Term_L0) (compact [] 1 [0, 1, 7, 8])) l.list 0 rfl (by omega)
  simp only [Int.natCast_zero] at ih
  have h1 : callL E f_slices_IndexFunc_api_Term_api_Term [l.av 5 TermT.cells, .fn f [.ref 0 0 0 0]] [] [.box s.cells] = some (vi (if l.list.any p = true then n else -1), [.box s.cells]) := by
    rw [hE.runN rfl rfl]
    cases c : l.list.any p
    · simp only [c, Bool.false_eq_true, if_false] at ih
      simp only [go_sem, reduceIte, reduceCtorEq, Nat.reduceEqDiff, Nat.reduceAdd, Nat.reduceSub, Nat.reduceLT, Nat.reduceLeDiff, Nat.reduceBEq, Nat.reduceMul, Nat.reduceBNe, Int.reduceEq, Int.reduceLT, Int.reduceLE, Int.reduceNe, Int.reduceToNat, ir_slices_IndexFunc_api_Term_api_Term, ih, ro_term, ro_saga, saga_ids, saga_rens]
    · simp only [c, if_true] at ih
      simp only [go_sem, reduceIte, reduceCtorEq, Nat.reduceEqDiff, Nat.reduceAdd, Nat.reduceSub, Nat.reduceLT, Nat.reduceLeDiff, Nat.reduceBEq, Nat.reduceMul, Nat.reduceBNe, Int.reduceEq, Int.reduceLT, Int.reduceLE, Int.reduceNe, Int.reduceToNat, ir_slices_IndexFunc_api_Term_api_Term, ih, ro_term, ro_saga, saga_ids, saga_rens]
  rw [hE.runN rfl rfl]
  simp only [go_sem, reduceIte, reduceCtorEq, Nat.reduceEqDiff, Nat.reduceAdd, Nat.reduceSub, Nat.reduceLT, Nat.reduceLeDiff, Nat.reduceBEq, Nat.reduceMul, Nat.reduceBNe, Int.reduceEq, Int.reduceLT, Int.reduceLE, Int.reduceNe, Int.reduceToNat, ir_slices_ContainsFunc_api_Term_api_Term, h1, ro_term, ro_saga, saga_ids, saga_rens]
  cases c : l.list.any p
  · simp
  · have : 0 ≤ n := hn.2 c
    simp [this]
end Go.Proofs.YtgehbkdpodnajaaDoor.Ev
set_option linter.unusedVariables false
set_option linter.unusedSimpArgs false
namespace Go.Proofs.YtgehbkdpodnajaaDoor.Ev
attribute [local congr] bind_congr_head
attribute [local go_sem] opd_t opd_c opd_g opd_f opds_nil opds_cons get_cons put_some put_none keep_nil keepC_s keepC_n keep_cons runs_nil runs_cons run_op run_opr run_call run_gand run_gor run_gif seqK_norm seqK_exit seqK_ret blkK_norm blkK_exit blkK_ret runL_skip runL_exit runL_ret runL_items runL_seq runL_cond runL_block runL_loop fin_bind finK_norm finK_ret rvs_nil rvs_cons rv_tmp rv_cell tupOf_one tupOf_nil tupOf_two ev_mov ev_pick ev_alloc ev_box ev_build parts_nil parts_cons fills_nil fills_cons ev_bsl ev_bslo ev_load ev_store ev_nilck ev_bin ev_binb ev_aeq ev_un ev_i2i ev_i2t ev_s2b ev_ext ev_fld ev_idxs ev_fa ev_ias ev_len ev_lens ev_s2s ev_mkf ev_rng ev_nxt ev_app bOf_s pvOf_s agOf_s tpOf_s iOf_s sOf_s ite_bind Option.bind_some Option.bind_none if_true if_false ite_true ite_false argEnv_nil argEnv_cons len_av elems_av ias_av cells_av tuple_av AV.tuple AV.cells faF ldAt liveRef aggOf nilckF binV binI binS binB unV Bool.not_true Bool.not_false List.length_nil List.length_cons List.nil_append List.cons_append List.append_nil List.getElem?_cons_zero List.getElem?_cons_succ List.drop_zero List.drop_succ_cons List.drop_nil List.take_zero List.take_succ_cons List.take_nil List.set_cons_zero List.set_cons_succ compact_same compact_new closedB nodupB envIds ids0 upto visit pos sel AV.ids idss idsss Ob.ids AV.ren rens renss Ob.ren renEnv AV.snap snaps stAt okSt putCells List.all_nil List.all_cons List.contains_nil List.contains_cons Bool.and_true Bool.true_and Bool.and_false Bool.false_and Bool.or_true Bool.true_or Bool.or_false Bool.false_or decide_eq_true_eq decide_true decide_false beq_iff_eq bne_iff_ne beq_self_eq_true Bool.not_eq_true' Bool.false_eq_true eq_self and_self and_true true_and and_false false_and or_true true_or or_false false_or not_true_eq_false not_false_eq_true ne_eq Nat.zero_add Nat.add_zero Nat.le_refl Nat.not_lt_zero Nat.lt_irrefl Nat.zero_le Int.toNat_natCast gt_iff_lt ge_iff_le Int.lt_irrefl Int.natCast_nonneg txt_eq get_nil appF elems belows AV.under AV.flat flats List.length_map List.map_append List.map_cons List.map_nil List.length_append take_map_all List.flatten_cons List.flatten_nil bld_nil imp_false false_imp_iff false_implies true_implies implies_true decide_eq_false_iff_not Nat.one_mul Nat.mul_one idsss_app renss_app belowss_app ev_mn ev_mx ev_isnils ev_sls ev_slx evo_none evo_some vals minV maxV minF maxF backId List.getElem?_nil putAll Option.all_none Option.all_some Option.isSome_some intOf aszI compactV_same compactV_new callP_any callQ_eq callN_any boxQ AV.id? ids_avR ren_av under_av snap_av renss_mapf belowss_mapf idsss_mapf isnilsF List.length_eq_zero_iff int_beq int_bne decide_not slx_av Int.toNat_zero
theorem cellsL1 (cs : List AV) : (AV.agg cs).cells = cs := rfl
theorem cellsL2 (x : Value) : (AV.v x).cells = [.v x] := rfl
theorem tupleL1 (cs : List AV) : (AV.agg cs).tuple = false := rfl
theorem tupleL2 (x : Value) : (AV.v x).tuple = false := rfl
theorem any_not {α : Type} (p : α → Bool) : ∀ l : List α, l.any (fun x => !p x) = !l.all p
  | [] => rfl
  | x :: l => by simp only [List.any_cons, List.all_cons, any_not p l, Bool.not_and]
theorem fn_good1 {E : Prog} (hE : Std E fns) (hv : VOK E) (t : TermT) (ht : t.s.size ≤ 100) : callL E f_pick_Good_1 [.agg t.cells] [] [] = some (vb (!goodB t), []) := by
  have h1 := fn_pickGood hE hv t (by omega)
  simp only [TermT.cells] at h1
  rw [hE.runN rfl rfl]
  simp only [go_sem, reduceIte, reduceCtorEq, Nat.reduceEqDiff, Nat.reduceAdd, Nat.reduceSub, Nat.reduceLT, Nat.reduceLeDiff, Nat.reduceBEq, Nat.reduceMul, Nat.reduceBNe, Int.reduceEq, Int.reduceLT, Int.reduceLE, Int.reduceNe, Int.reduceToNat, ir_pick_Good_1, TermT.cells, h1]
def goodsB (l : List TermT) : Bool := decide (l.length ≤ 32) && l.all goodB
theorem fn_pickGoods {E : Prog} (hE : Std E fns) (hv : VOK E) (l : Sl TermT) (hl : l.list.length < 9223372036854775807) (ht : LOK l.list) : callP E f_pick_Good [l.av 5 TermT.cells] = some (vb (goodsB l.list)) := by
  have h1 := fn_ctf0 hE f_pick_Good_1 (fun t => !goodB t) l hl (fun t h => fn_good1 hE hv t (ht t h))
  rw [hE.run rfl rfl]
  unfold goodsB
  by_cases c : l.list.length ≤ 32
  · simp only [go_sem, reduceIte, reduceCtorEq, Nat.reduceEqDiff, Nat.reduceAdd, Nat.reduceSub, Nat.reduceLT, Nat.reduceLeDiff, Nat.reduceBEq, Nat.reduceMul, Nat.reduceBNe, Int.reduceEq, Int.reduceLT, Int.reduceLE, Int.reduceNe, Int.reduceToNat, ir_pick_Good, h1, ro_term, c, show (l.list.length : Int) ≤ 32 by omega]
    rw [any_not goodB]; simp
  · simp only [go_sem, reduceIte, reduceCtorEq, Nat.reduceEqDiff, Nat.reduceAdd, Nat.reduceSub, Nat.reduceLT, Nat.reduceLeDiff, Nat.reduceBEq, Nat.reduceMul, Nat.reduceBNe, Int.reduceEq, Int.reduceLT, Int.reduceLE, Int.reduceNe, Int.reduceToNat, ir_pick_Good, h1, ro_term, c, show ¬ (l.list.length : Int) ≤ 32 by omega]
theorem refGoods_loop {E : Prog} (hE : Std E fns) {L : Env × Store → Option (Sig × Env × Store)} (l : Sl TermT) (hl : l.list.length < 9223372036854775807) (ht : LOK l.list)
    (hL : ∀ e st, L (e, st) = (IR.runL E.glob (callL E) [] ir_usufructref36_Good_L0 e st).bind (seqK fun e st => L (compact [] 0 [0, 3] e st))) :
    ∀ (rest : List TermT) (i : Nat), l.list.drop i = rest → i ≤ l.list.length →
    L ([(0, l.av 5 TermT.cells), (3, vi i)], []) = if rest.all goodB = true then some (.exit 0, [(0, l.av 5 TermT.cells)], []) else some (.ret, [(2, vb false)], [])
  | [], i, h, hi => by
    have h1 := drop_nil' h hi
    rw [hL]
    simp only [go_sem, reduceIte, reduceCtorEq, Nat.reduceEqDiff, Nat.reduceAdd, Nat.reduceSub, Nat.reduceLT, Nat.reduceLeDiff, Nat.reduceBEq, Nat.reduceMul, Nat.reduceBNe, Int.reduceEq, Int.reduceLT, Int.reduceLE, Int.reduceNe, Int.reduceToNat, ir_usufructref36_Good_L0, h1, List.all_nil]
  | x :: rest, i, h, hi => by
    obtain ⟨h1, h2, h3, h4, h5⟩ := drop_cons h
    have h6 := wrap_succ (i := i) (by omega)
    have ih := refGoods_loop hE l hl ht hL rest (i + 1) h2 h4
    have hg := fn_refTerm hE x (by have := ht x (by have := List.mem_of_mem_drop (i := i) (l := l.list) (a := x) (by rw [h]; simp); exact this); omega)
    rw [hL]
    cases c : goodB x <;> rw [c] at hg <;>
      simp only [go_sem, reduceIte, reduceCtorEq, Nat.reduceEqDiff, Nat.reduceAdd, Nat.reduceSub, Nat.reduceLT, Nat.reduceLeDiff, Nat.reduceBEq, Nat.reduceMul, Nat.reduceBNe, Int.reduceEq, Int.reduceLT, Int.reduceLE, Int.reduceNe, Int.reduceToNat, ir_usufructref36_Good_L0, h1, h3, term_le5, term_take, term_ids, term_snaps, h6, hg, c, List.all_cons, ih, ro_term]
theorem fn_refGoods {E : Prog} (hE : Std E fns) (l : Sl TermT) (hl : l.list.length < 9223372036854775807) (ht : LOK l.list) : callP E f_usufructref36_Good [l.av 5 TermT.cells] = some (vb (goodsB l.list)) := by
  have := refGoods_loop hE l hl ht (loopL_eq (IR.runL E.glob (callL E) [] ir_usufructref36_Good_L0) (compact [] 0 [0, 3])) l.list 0 rfl (by omega)
  simp only [Int.natCast_zero] at this
  rw [hE.run rfl rfl]
  simp only [go_sem, reduceIte, reduceCtorEq, Nat.reduceEqDiff, Nat.reduceAdd, Nat.reduceSub, Nat.reduceLT, Nat.reduceLeDiff, Nat.reduceBEq, Nat.reduceMul, Nat.reduceBNe, Int.reduceEq, Int.reduceLT, Int.reduceLE, Int.reduceNe, Int.reduceToNat, ir_usufructref36_Good, this, ro_term, goodsB]
  by_cases c : l.list.length ≤ 32
  · cases l.list.all goodB <;> simp only [go_sem, reduceIte, reduceCtorEq, Nat.reduceEqDiff, Nat.reduceAdd, Nat.reduceSub, Nat.reduceLT, Nat.reduceLeDiff, Nat.reduceBEq, Nat.reduceMul, Nat.reduceBNe, Int.reduceEq, Int.reduceLT, Int.reduceLE, Int.reduceNe, Int.reduceToNat, c, show (l.list.length : Int) ≤ 32 by omega, ro_term]
  · cases l.list.all goodB <;> simp only [go_sem, reduceIte, reduceCtorEq, Nat.reduceEqDiff, Nat.reduceAdd, Nat.reduceSub, Nat.reduceLT, Nat.reduceLeDiff, Nat.reduceBEq, Nat.reduceMul, Nat.reduceBNe, Int.reduceEq, Int.reduceLT, Int.reduceLE, Int.reduceNe, Int.reduceToNat, c, show ¬ (l.list.length : Int) ≤ 32 by omega, ro_term]
/-! ### the sagas -/
theorem fn_sagas1 {E : Prog} (hE : Std E fns) (hv : VOK E) (t : TermT) (s : SagaT) (ht : t.s.size ≤ 100) : callL E f_pick_Sagas_1 [.agg t.cells, .ref 0 0 0 0] [] [.box s.cells] = some (vb (!holdsB t s), [.box s.cells]) := by
  have h1 := fn_pickHolds hE hv t s (by omega)
  simp only [TermT.cells, SagaT.cells] at h1
  rw [hE.runN rfl rfl]
  simp only [go_sem, reduceIte, reduceCtorEq, Nat.reduceEqDiff, Nat.reduceAdd, Nat.reduceSub, Nat.reduceLT, Nat.reduceLeDiff, Nat.reduceBEq, Nat.reduceMul, Nat.reduceBNe, Int.reduceEq, Int.reduceLT, Int.reduceLE, Int.reduceNe, Int.reduceToNat, ir_pick_Sagas_1, TermT.cells, SagaT.cells, h1]
/-- All terms hold. -/
def allB (l : List TermT) (s : SagaT) : Bool := l.all fun t => holdsB t s
def addG (l : List TermT) (out : List SagaT) (s : SagaT) : List SagaT := if allB l s = true then out ++ [s] else out
theorem addG_filter (l : List TermT) : ∀ (xs out : List SagaT), xs.foldl (addG l) out = out ++ xs.filter (allB l)
  | [], out => by simp
  | x :: xs, out => by
    rw [List.foldl_cons, addG_filter l xs, List.filter_cons]
    unfold addG
    cases allB l x <;> simp
abbrev stSt (xs : Sl SagaT) (next : Int) : Store := [Ob.box [.v (.slice none 0 0), xs.av 9 SagaT.cells, vi next]]
theorem sagas_loop {E : Prog} (hE : Std E fns) (hv : VOK E) {L : Env × Store → Option (Sig × Env × Store)} (l : Sl TermT) (xs : Sl SagaT) (next : Int) (hl : l.list.length < 9223372036854775807) (ht : LOK l.list) (hx : xs.list.length ≤ 1000)
    (hL : ∀ e st, L (e, st) = (IR.runL E.glob (callL E) [] ir_pick_Sagas_L0 e st).bind (seqK fun e st => L (compact [] 1 [1, 5, 12, 13, 14] e st))) :
    ∀ (rest : List SagaT) (i : Nat) (out : List SagaT) (g : Nat), xs.list.drop i = rest → i ≤ xs.list.length → out.length ≤ i →
    ∃ g' : Nat, L ([(1, l.av 5 TermT.cells), (5, (bld 9 SagaT.cells g (stSt xs next) out).1), (12, xs.av 9 SagaT.cells), (13, vi xs.list.length), (14, vi i)], (bld 9 SagaT.cells g (stSt xs next) out).2) =
      some (.exit 0, [(5, (bld 9 SagaT.cells g' (stSt xs next) (rest.foldl (addG l.list) out)).1)], (bld 9 SagaT.cells g' (stSt xs next) (rest.foldl (addG l.list) out)).2)
  | [], i, out, g, h, hi, ho => by
    have h1 := drop_nil' h hi
    refine ⟨g, ?_⟩
    rw [hL]
    simp only [go_sem, reduceIte, reduceCtorEq, Nat.reduceEqDiff, Nat.reduceAdd, Nat.reduceSub, Nat.reduceLT, Nat.reduceLeDiff, Nat.reduceBEq, Nat.reduceMul, Nat.reduceBNe, Int.reduceEq, Int.reduceLT, Int.reduceLE, Int.reduceNe, Int.reduceToNat, ir_pick_Sagas_L0, h1, List.foldl_nil]
  | x :: rest, i, out, g, h, hi, ho => by
    obtain ⟨h1, h2, h3, h4, h5⟩ := drop_cons h
    have h6 := wrap_succ (i := i) (by omega)
    have hc := fn_ctf1 hE f_pick_Sagas_1 (fun t => !holdsB t x) l x hl (fun t h => fn_sagas1 hE hv t x (ht t h))
    have ha : l.list.any (fun t => !holdsB t x) = !allB l.list x := any_not (fun t => holdsB t x) l.list
    rw [ha] at hc
    simp only [SagaT.cells] at hc
    rw [hL]
    by_cases hne : out = []
    · subst hne
      cases c : allB l.list x
      · rw [c] at hc
        obtain ⟨g', ih⟩ := sagas_loop hE hv l xs next hl ht hx hL rest (i + 1) [] 0 h2 h4 (by simp)
        refine ⟨g', ?_⟩
        have e : (x :: rest).foldl (addG l.list) [] = rest.foldl (addG l.list) [] := by simp [addG, c]
        rw [e, ← ih]
        simp only [go_sem, reduceIte, reduceCtorEq, Nat.reduceEqDiff, Nat.reduceAdd, Nat.reduceSub, Nat.reduceLT, Nat.reduceLeDiff, Nat.reduceBEq, Nat.reduceMul, Nat.reduceBNe, Int.reduceEq, Int.reduceLT, Int.reduceLE, Int.reduceNe, Int.reduceToNat, ir_pick_Sagas_L0, h1, h3, SagaT.cells, h6, hc, ro_term, ro_saga]
      · rw [c] at hc
        obtain ⟨g', ih⟩ := sagas_loop hE hv l xs next hl ht hx hL rest (i + 1) [x] 0 h2 h4 (by simp)
        refine ⟨g', ?_⟩
        have e : (x :: rest).foldl (addG l.list) [] = rest.foldl (addG l.list) [x] := by simp [addG, c]
        rw [e, ← ih]
        simp only [go_sem, reduceIte, reduceCtorEq, Nat.reduceEqDiff, Nat.reduceAdd, Nat.reduceSub, Nat.reduceLT, Nat.reduceLeDiff, Nat.reduceBEq, Nat.reduceMul, Nat.reduceBNe, Int.reduceEq, Int.reduceLT, Int.reduceLE, Int.reduceNe, Int.reduceToNat, ir_pick_Sagas_L0, h1, h3, SagaT.cells, h6, hc, bld_ne (List.cons_ne_nil x []), ro_term, ro_saga]
    · have hb : (out.length + 1) * 80 ≤ 140737488355328 := by omega
      cases c : allB l.list x
      · rw [c] at hc
        obtain ⟨g', ih⟩ := sagas_loop hE hv l xs next hl ht hx hL rest (i + 1) out g h2 h4 (by omega)
        refine ⟨g', ?_⟩
        have e : (x :: rest).foldl (addG l.list) out = rest.foldl (addG l.list) out := by simp only [List.foldl_cons, addG, c]; rfl
        rw [e, ← ih]
        simp only [go_sem, reduceIte, reduceCtorEq, Nat.reduceEqDiff, Nat.reduceAdd, Nat.reduceSub, Nat.reduceLT, Nat.reduceLeDiff, Nat.reduceBEq, Nat.reduceMul, Nat.reduceBNe, Int.reduceEq, Int.reduceLT, Int.reduceLE, Int.reduceNe, Int.reduceToNat, ir_pick_Sagas_L0, h1, h3, SagaT.cells, h6, hc, bld_ne hne, ro_term, ro_saga]
      · rw [c] at hc
        obtain ⟨g', ih⟩ := sagas_loop hE hv l xs next hl ht hx hL rest (i + 1) (out ++ [x]) (g + 1) h2 h4 (by simp; omega)
        refine ⟨g', ?_⟩
        have e : (x :: rest).foldl (addG l.list) out = rest.foldl (addG l.list) (out ++ [x]) := by simp only [List.foldl_cons, addG, c]; rfl
        rw [e, ← ih]
        simp only [go_sem, reduceIte, reduceCtorEq, Nat.reduceEqDiff, Nat.reduceAdd, Nat.reduceSub, Nat.reduceLT, Nat.reduceLeDiff, Nat.reduceBEq, Nat.reduceMul, Nat.reduceBNe, Int.reduceEq, Int.reduceLT, Int.reduceLE, Int.reduceNe, Int.reduceToNat, ir_pick_Sagas_L0, h1, h3, SagaT.cells, h6, hc, hb, bld_ne hne, bld_ne (ne_app out x), ro_term, ro_saga]
def sagasS (xs : List SagaT) (l : List TermT) : List SagaT := if goodsB l = true then xs.filter (allB l) else []
theorem fn_pickSagas {E : Prog} (hE : Std E fns) (hv : VOK E) (ds xs : Sl SagaT) (next : Int) (l : Sl TermT) (hl : l.list.length < 9223372036854775807) (ht : LOK l.list) (hx : xs.list.length ≤ 1000) :
    callP E f_pick_Sagas [.agg [.v (.slice none 0 0), xs.av 9 SagaT.cells, vi next], l.av 5 TermT.cells] = some ((slOf (sagasS xs.list l.list)).av 9 SagaT.cells) := by
  have h1 := fn_pickGoods hE hv l hl ht
  obtain ⟨g', ih⟩ := sagas_loop hE hv l xs next hl ht hx (loopL_eq (IR.runL E.glob (callL E) [] ir_pick_Sagas_L0) (compact [] 1 [1, 5, 12, 13, 14])) xs.list 0 [] 0 rfl (by omega) (by simp)
  simp only [Int.natCast_zero, bld_nil, addG_filter, List.nil_append] at ih
  rw [hE.run rfl rfl]
  unfold sagasS
  cases hg : goodsB l.list
  · rw [hg] at h1
    simp only [go_sem, reduceIte, reduceCtorEq, Nat.reduceEqDiff, Nat.reduceAdd, Nat.reduceSub, Nat.reduceLT, Nat.reduceLeDiff, Nat.reduceBEq, Nat.reduceMul, Nat.reduceBNe, Int.reduceEq, Int.reduceLT, Int.reduceLE, Int.reduceNe, Int.reduceToNat, ir_pick_Sagas, h1, ro_term, ro_saga]
    rfl
  · rw [hg] at h1
    simp only [go_sem, reduceIte, reduceCtorEq, Nat.reduceEqDiff, Nat.reduceAdd, Nat.reduceSub, Nat.reduceLT, Nat.reduceLeDiff, Nat.reduceBEq, Nat.reduceMul, Nat.reduceBNe, Int.reduceEq, Int.reduceLT, Int.reduceLE, Int.reduceNe, Int.reduceToNat, ir_pick_Sagas, h1, ro_term, ro_saga, ih]
    by_cases hne : xs.list.filter (allB l.list) = []
    · simp only [go_sem, reduceIte, reduceCtorEq, Nat.reduceEqDiff, Nat.reduceAdd, Nat.reduceSub, Nat.reduceLT, Nat.reduceLeDiff, Nat.reduceBEq, Nat.reduceMul, Nat.reduceBNe, Int.reduceEq, Int.reduceLT, Int.reduceLE, Int.reduceNe, Int.reduceToNat, hne, ro_saga]; rfl
    · simp only [go_sem, reduceIte, reduceCtorEq, Nat.reduceEqDiff, Nat.reduceAdd, Nat.reduceSub, Nat.reduceLT, Nat.reduceLeDiff, Nat.reduceBEq, Nat.reduceMul, Nat.reduceBNe, Int.reduceEq, Int.reduceLT, Int.reduceLE, Int.reduceNe, Int.reduceToNat, bld_ne hne, ro_saga]
      rw [slOf_ne hne]; rfl
end Go.Proofs.YtgehbkdpodnajaaDoor.Ev
