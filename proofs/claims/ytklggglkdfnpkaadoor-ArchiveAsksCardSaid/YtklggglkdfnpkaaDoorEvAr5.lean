/-
  Archives: adding a row, by the code and by the document.
-/
import Derived.Test.YtklggglkdfnpkaaDoorEvAr4
set_option linter.unusedVariables false
set_option linter.unusedSimpArgs false
namespace Go.Proofs.YtklggglkdfnpkaaDoor.Ev
attribute [local congr] bind_congr_head
attribute [local go_sem] opd_t opd_c opd_g opd_f opds_nil opds_cons get_cons put_some put_none keep_nil keepC_s keepC_n keep_cons runs_nil runs_cons run_op run_opr run_call run_gand run_gor run_gif seqK_norm seqK_exit seqK_ret blkK_norm blkK_exit blkK_ret runL_skip runL_exit runL_ret runL_items runL_seq runL_cond runL_block runL_loop fin_bind finK_norm finK_ret rvs_nil rvs_cons rv_tmp rv_cell tupOf_one tupOf_nil tupOf_two ev_mov ev_pick ev_alloc ev_box ev_build parts_nil parts_cons fills_nil fills_cons ev_bsl ev_bslo ev_load ev_store ev_nilck ev_bin ev_binb ev_aeq ev_un ev_i2i ev_i2t ev_isnilI nilIF ev_s2b ev_ext ev_fld ev_idxs ev_fa ev_ias ev_len ev_lens ev_s2s ev_mkf ev_rng ev_nxt ev_app bOf_s pvOf_s agOf_s tpOf_s iOf_s sOf_s ite_bind Option.bind_some Option.bind_none if_true if_false ite_true ite_false argEnv_nil argEnv_cons len_av elems_av ias_av cells_av tuple_av AV.tuple AV.cells faF ldAt liveRef aggOf nilckF binV binI binS binB unV Bool.not_true Bool.not_false List.length_nil List.length_cons List.nil_append List.cons_append List.append_nil List.getElem?_cons_zero List.getElem?_cons_succ List.drop_zero List.drop_succ_cons List.drop_nil List.take_zero List.take_succ_cons List.take_nil List.set_cons_zero List.set_cons_succ compact_same compact_new closedB nodupB envIds ids0 upto visit pos sel AV.ids idss idsss Ob.ids AV.ren rens renss Ob.ren renEnv AV.snap snaps stAt okSt putCells List.all_nil List.all_cons List.contains_nil List.contains_cons Bool.and_true Bool.true_and Bool.and_false Bool.false_and Bool.or_true Bool.true_or Bool.or_false Bool.false_or decide_eq_true_eq decide_true decide_false beq_iff_eq bne_iff_ne beq_self_eq_true Bool.not_eq_true' Bool.false_eq_true eq_self and_self and_true true_and and_false false_and or_true true_or or_false false_or not_true_eq_false not_false_eq_true ne_eq Nat.zero_add Nat.add_zero Nat.le_refl Nat.not_lt_zero Nat.lt_irrefl Nat.zero_le Int.toNat_natCast gt_iff_lt ge_iff_le Int.lt_irrefl Int.natCast_nonneg txt_eq get_nil appF elems belows AV.under AV.flat flats List.length_map List.map_append List.map_cons List.map_nil List.length_append take_map_all List.flatten_cons List.flatten_nil bld_nil imp_false false_imp_iff false_implies true_implies implies_true decide_eq_false_iff_not Nat.one_mul Nat.mul_one idsss_app renss_app belowss_app ev_mn ev_mx ev_isnils ev_sls ev_slx evo_none evo_some vals minV maxV minF maxF backId List.getElem?_nil putAll Option.all_none Option.all_some Option.isSome_some intOf aszI compactV_same compactV_new callP_any callQ_eq callN_any boxQ AV.id? ids_avR ren_av under_av snap_av renss_mapf belowss_mapf idsss_mapf isnilsF List.length_eq_zero_iff int_beq int_bne decide_not slx_av Int.toNat_zero ev_mkm ev_lk ev_mup ev_mdl ev_lenm ev_isnilm mpOf_s mapAt_s mapOf_nil mapOf_mp isnilm_nil isnilm_mp lkR Option.getD_some Option.getD_none Option.isSome_none Prim.rdo ev_snp snp_own snp_v
def copyR : Sl RowT → AV × Store
  | .nil => (.v (.slice none 0 0), [])
  | .mk xs => (.own 0 1 0 xs.length, [.row 6 1 (xs.map RowT.cells) false])
theorem all_row (xs : List RowT) : ((xs.map RowT.cells).all fun c => c.length == 6) = true := by
  simp only [List.all_map, List.all_eq_true]
  intro x _
  rfl
theorem fn_cloneRow {E : Prog} (hE : Std E fns) (s : Sl RowT) (h : s.list.length ≤ 1000) : callL E f_slices_Clone_api_Row_api_Row [rv s] [] [] = some (copyR s) := by
  rw [hE.runN rfl rfl]
  cases s with
  | nil => simp -implicitDefEqProofs only [go_sem, reduceIte, reduceCtorEq, Nat.reduceEqDiff, Nat.reduceAdd, Nat.reduceSub, Nat.reduceLT, Nat.reduceLeDiff, Nat.reduceBEq, Nat.reduceMul, Nat.reduceBNe, Int.reduceEq, Int.reduceLT, Int.reduceLE, Int.reduceNe, Int.reduceToNat, ir_slices_Clone_api_Row_api_Row, Sl.av, copyR]
  | mk xs =>
    simp only [Sl.list] at h
    have h' : xs.length * 56 ≤ 140737488355328 := by omega
    simp -implicitDefEqProofs only [go_sem, reduceIte, reduceCtorEq, Nat.reduceEqDiff, Nat.reduceAdd, Nat.reduceSub, Nat.reduceLT, Nat.reduceLeDiff, Nat.reduceBEq, Nat.reduceMul, Nat.reduceBNe, Int.reduceEq, Int.reduceLT, Int.reduceLE, Int.reduceNe, Int.reduceToNat, ir_slices_Clone_api_Row_api_Row, Sl.av, copyR, all_row, h', ro_row]
theorem ins_own (xs : List RowT) (g K : Nat) (hK : K ≤ xs.length) (hx : xs.length ≤ 1000) (r : RowT) :
    pInsert 6 56 [.own 0 g 0 xs.length, .v (.int .i64 K), .sl 6 [r.cells]] [.row 6 g (xs.map RowT.cells) false] =
      some (.own 0 (g + 1) 0 (xs.length + 1), [.row 6 (g + 1) ((xs.take K ++ r :: xs.drop K).map RowT.cells) false]) := by
  have hr : ross [r.cells] = true := rfl
  have hl : ([r.cells].all fun c => c.length == 6) = true := rfl
  simp only [pInsert, List.getElem?_cons_zero]
  rw [if_pos ⟨trivial, trivial, trivial, by simp, trivial, by omega, by omega, by simp, hl, by simp; omega, hr⟩]
  simp only [List.length_cons, List.length_nil, List.set_cons_zero, List.drop_zero, Int.toNat_natCast]
  rw [take_map_all, ← List.map_take, ← List.map_drop]
  simp only [List.map_append, List.map_cons, List.cons_append, List.nil_append]
theorem ins_nil (r : RowT) : pInsert 6 56 [.v (.slice none 0 0), .v (.int .i64 0), .sl 6 [r.cells]] [] = some (.own 0 0 0 1, [.row 6 0 [r.cells] false]) := rfl
/-- What adding a row comes to: the rows (none: nil), and an error's number. -/
def addS (l : List RowT) (r : RowT) : Sl RowT × Int :=
  if goodR none l = true ∧ rightB r = true then (if thereS r.sg l = true then (.nil, 6) else (.mk (putS l r), 0)) else (.nil, 3)
abbrev INOK (E : Prog) : Prop := E.prim f_slices_Insert_api_Row_api_Row = some (pInsert 6 56)
theorem fn_add {E : Prog} (hE : Std E fns) (hv : VOK E) (hin : INOK E) (l : Sl RowT) (hl : l.list.length ≤ 1000) (hs : ∀ r, r ∈ l.list → r.de.size < 2305843009213693952) (r : RowT) (hr : r.de.size < 2305843009213693952) :
    callP E f_archive_Add [rv l, .agg r.cells] = some (.tup [rv (addS l.list r).1, vi (addS l.list r).2]) := by
  have h1 := fn_good31 hE hv l hl hs
  have h2 := fn_right hE hv r hr
  simp only [RowT.cells] at h2
  rw [hE.run rfl rfl]
  unfold addS
  cases hg : goodR none l.list
  · rw [hg] at h1
    simp -implicitDefEqProofs only [go_sem, reduceIte, reduceCtorEq, Nat.reduceEqDiff, Nat.reduceAdd, Nat.reduceSub, Nat.reduceLT, Nat.reduceLeDiff, Nat.reduceBEq, Nat.reduceMul, Nat.reduceBNe, Int.reduceEq, Int.reduceLT, Int.reduceLE, Int.reduceNe, Int.reduceToNat, ir_archive_Add, RowT.cells, h1, ro_row, tupOf, avN]
  · rw [hg] at h1
    cases hr : rightB r
    · rw [hr] at h2
      simp -implicitDefEqProofs only [go_sem, reduceIte, reduceCtorEq, Nat.reduceEqDiff, Nat.reduceAdd, Nat.reduceSub, Nat.reduceLT, Nat.reduceLeDiff, Nat.reduceBEq, Nat.reduceMul, Nat.reduceBNe, Int.reduceEq, Int.reduceLT, Int.reduceLE, Int.reduceNe, Int.reduceToNat, ir_archive_Add, RowT.cells, h1, h2, ro_row, tupOf, avN]
    · rw [hr] at h2
      have hso := (goodR_srt hg).1
      have h3 := fn_search hE l hl r.sg hso
      cases ht : thereS r.sg l.list
      · rw [ht] at h3
        have h4 := fn_cloneRow hE l hl
        have hb := lb_le r.sg l.list
        cases l with
        | nil =>
          have e1 : Sl.list (Sl.nil : Sl RowT) = [] := rfl
          simp only [e1, lb, Int.natCast_zero] at h1 h3 h4 ht ⊢
          simp only [copyR] at h4
          have h5 : callL E f_slices_Insert_api_Row_api_Row [.v (.slice none 0 0), .v (.int .i64 0), .sl 6 [r.cells]] [] [] = some (.own 0 0 0 1, [.row 6 0 [r.cells] false]) := by rw [call_prim hin]; exact ins_nil r
          simp only [RowT.cells] at h5
          simp only [rv, avN] at h1 h3 h4
          simp -implicitDefEqProofs only [go_sem, reduceIte, reduceCtorEq, Nat.reduceEqDiff, Nat.reduceAdd, Nat.reduceSub, Nat.reduceLT, Nat.reduceLeDiff, Nat.reduceBEq, Nat.reduceMul, Nat.reduceBNe, Int.reduceEq, Int.reduceLT, Int.reduceLE, Int.reduceNe, Int.reduceToNat, ir_archive_Add, RowT.cells, h1, h2, h3, h4, h5, ro_row, tupOf, callA_eq, List.isEmpty_nil, putS, lb, avM, avN, ht, belowss]
        | mk xs =>
          have e1 : Sl.list (Sl.mk xs : Sl RowT) = xs := rfl
          simp only [e1] at h1 h3 h4 ht hb hl ⊢
          simp only [copyR] at h4
          have h5 : callL E f_slices_Insert_api_Row_api_Row [.own 0 1 0 xs.length, .v (.int .i64 (lb r.sg xs)), .sl 6 [r.cells]] [] [.row 6 1 (xs.map RowT.cells) false] = some (.own 0 2 0 (xs.length + 1), [.row 6 2 ((xs.take (lb r.sg xs) ++ r :: xs.drop (lb r.sg xs)).map RowT.cells) false]) := by rw [call_prim hin]; exact ins_own xs 1 _ hb hl r
          simp only [RowT.cells] at h5
          have hp : (putS xs r).length = xs.length + 1 := by simp [putS]; omega
          have hp2 : xs.take (lb r.sg xs) ++ r :: xs.drop (lb r.sg xs) = putS xs r := rfl
          rw [hp2] at h5
          rw [← hp] at h5
          simp only [rv, avM] at h1 h3 h4
          simp -implicitDefEqProofs only [go_sem, reduceIte, reduceCtorEq, Nat.reduceEqDiff, Nat.reduceAdd, Nat.reduceSub, Nat.reduceLT, Nat.reduceLeDiff, Nat.reduceBEq, Nat.reduceMul, Nat.reduceBNe, Int.reduceEq, Int.reduceLT, Int.reduceLE, Int.reduceNe, Int.reduceToNat, ir_archive_Add, RowT.cells, h1, h2, h3, h4, h5, ro_row, tupOf, callA_eq, List.isEmpty_nil, avM, ht]
      · rw [ht] at h3
        simp -implicitDefEqProofs only [go_sem, reduceIte, reduceCtorEq, Nat.reduceEqDiff, Nat.reduceAdd, Nat.reduceSub, Nat.reduceLT, Nat.reduceLeDiff, Nat.reduceBEq, Nat.reduceMul, Nat.reduceBNe, Int.reduceEq, Int.reduceLT, Int.reduceLE, Int.reduceNe, Int.reduceToNat, ir_archive_Add, RowT.cells, h1, h2, h3, ro_row, tupOf, avN]
/-! ### the document's -/
theorem put_loop {G : Nat → Option (List AV)} {raw : Raw} {L : Env × Store → Option (Sig × Env × Store)} (l : Sl RowT) (hl : l.list.length ≤ 1000) (r : RowT)
    (hL : ∀ e st, L (e, st) = (IR.runL G raw [] ir_usufructref31_put_L0 e st).bind (seqK fun e st => L (compact [] 1 [0, 3, 5] e st))) :
    ∀ (rest : List RowT) (i : Nat), l.list.drop i = rest → i ≤ l.list.length →
    L ([(0, rv l), (3, .ref 0 0 0 0), (5, vi i)], [.box r.cells]) = some (.exit 0, [(0, rv l), (3, .ref 0 0 0 0), (5, vi (i + lb r.sg rest : Nat))], [.box r.cells])
  | [], i, h, hi => by
    have h1 := drop_nil' h hi
    rw [hL]
    simp -implicitDefEqProofs only [go_sem, reduceIte, reduceCtorEq, Nat.reduceEqDiff, Nat.reduceAdd, Nat.reduceSub, Nat.reduceLT, Nat.reduceLeDiff, Nat.reduceBEq, Nat.reduceMul, Nat.reduceBNe, Int.reduceEq, Int.reduceLT, Int.reduceLE, Int.reduceNe, Int.reduceToNat, ir_usufructref31_put_L0, h1, lb]
  | x :: rest, i, h, hi => by
    obtain ⟨h1, h2, h3, h4, h5⟩ := drop_cons h
    have h6 := wrap_succ (i := i) (by omega)
    have ih := put_loop l hl r hL rest (i + 1) h2 h4
    rw [hL]
    by_cases c : x.sg < r.sg
    · have e : i + lb r.sg (x :: rest) = i + 1 + lb r.sg rest := by simp only [lb, if_pos c]; omega
      rw [e]
      simp -implicitDefEqProofs only [go_sem, reduceIte, reduceCtorEq, Nat.reduceEqDiff, Nat.reduceAdd, Nat.reduceSub, Nat.reduceLT, Nat.reduceLeDiff, Nat.reduceBEq, Nat.reduceMul, Nat.reduceBNe, Int.reduceEq, Int.reduceLT, Int.reduceLE, Int.reduceNe, Int.reduceToNat, ir_usufructref31_put_L0, h1, h3, h6, RowT.cells, ro_row, c]
      simp only [RowT.cells] at ih
      exact ih
    · have e : i + lb r.sg (x :: rest) = i := by simp only [lb, if_neg c]; omega
      rw [e]
      simp -implicitDefEqProofs only [go_sem, reduceIte, reduceCtorEq, Nat.reduceEqDiff, Nat.reduceAdd, Nat.reduceSub, Nat.reduceLT, Nat.reduceLeDiff, Nat.reduceBEq, Nat.reduceMul, Nat.reduceBNe, Int.reduceEq, Int.reduceLT, Int.reduceLE, Int.reduceNe, Int.reduceToNat, ir_usufructref31_put_L0, h1, h3, h6, RowT.cells, ro_row, c]
theorem sub_av {α : Type} (l : Sl α) (k : Nat) (f : α → List AV) (st : Store) (a b : Nat) : elems st ((l.sub a b).av k f) = some (((l.list.drop a).take (b - a)).map f) := by
  cases l with
  | nil => simp [Sl.sub, Sl.av, Sl.list, elems]
  | mk xs => simp [Sl.sub, Sl.av, Sl.list, elems]
end Go.Proofs.YtklggglkdfnpkaaDoor.Ev
