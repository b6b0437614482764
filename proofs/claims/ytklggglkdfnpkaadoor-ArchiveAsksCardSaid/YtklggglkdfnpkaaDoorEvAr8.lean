/-
  Archives: merging, by the document and by the code.
-/
import Derived.Test.YtklggglkdfnpkaaDoorEvAr7
set_option linter.unusedVariables false
set_option linter.unusedSimpArgs false
namespace Go.Proofs.YtklggglkdfnpkaaDoor.Ev
attribute [local congr] bind_congr_head
attribute [local go_sem] opd_t opd_c opd_g opd_f opds_nil opds_cons get_cons put_some put_none keep_nil keepC_s keepC_n keep_cons runs_nil runs_cons run_op run_opr run_call run_gand run_gor run_gif seqK_norm seqK_exit seqK_ret blkK_norm blkK_exit blkK_ret runL_skip runL_exit runL_ret runL_items runL_seq runL_cond runL_block runL_loop fin_bind finK_norm finK_ret rvs_nil rvs_cons rv_tmp rv_cell tupOf_one tupOf_nil tupOf_two ev_mov ev_pick ev_alloc ev_box ev_build parts_nil parts_cons fills_nil fills_cons ev_bsl ev_bslo ev_load ev_store ev_nilck ev_bin ev_binb ev_aeq ev_un ev_i2i ev_i2t ev_isnilI nilIF ev_s2b ev_ext ev_fld ev_idxs ev_fa ev_ias ev_len ev_lens ev_s2s ev_mkf ev_rng ev_nxt ev_app bOf_s pvOf_s agOf_s tpOf_s iOf_s sOf_s ite_bind Option.bind_some Option.bind_none if_true if_false ite_true ite_false argEnv_nil argEnv_cons len_av elems_av ias_av cells_av tuple_av AV.tuple AV.cells faF ldAt liveRef aggOf nilckF binV binI binS binB unV Bool.not_true Bool.not_false List.length_nil List.length_cons List.nil_append List.cons_append List.append_nil List.getElem?_cons_zero List.getElem?_cons_succ List.drop_zero List.drop_succ_cons List.drop_nil List.take_zero List.take_succ_cons List.take_nil List.set_cons_zero List.set_cons_succ compact_same compact_new closedB nodupB envIds ids0 upto visit pos sel AV.ids idss idsss Ob.ids AV.ren rens renss Ob.ren renEnv AV.snap snaps stAt okSt putCells List.all_nil List.all_cons List.contains_nil List.contains_cons Bool.and_true Bool.true_and Bool.and_false Bool.false_and Bool.or_true Bool.true_or Bool.or_false Bool.false_or decide_eq_true_eq decide_true decide_false beq_iff_eq bne_iff_ne beq_self_eq_true Bool.not_eq_true' Bool.false_eq_true eq_self and_self and_true true_and and_false false_and or_true true_or or_false false_or not_true_eq_false not_false_eq_true ne_eq Nat.zero_add Nat.add_zero Nat.le_refl Nat.not_lt_zero Nat.lt_irrefl Nat.zero_le Int.toNat_natCast gt_iff_lt ge_iff_le Int.lt_irrefl Int.natCast_nonneg txt_eq get_nil appF belows AV.under AV.flat flats List.length_map List.map_append List.map_cons List.map_nil List.length_append take_map_all List.flatten_cons List.flatten_nil bld_nil imp_false false_imp_iff false_implies true_implies implies_true decide_eq_false_iff_not Nat.one_mul Nat.mul_one idsss_app renss_app belowss_app ev_mn ev_mx ev_isnils ev_sls ev_slx evo_none evo_some vals minV maxV minF maxF backId List.getElem?_nil putAll Option.all_none Option.all_some Option.isSome_some intOf aszI compactV_same compactV_new callP_any callQ_eq callN_any AV.id? ids_avR ren_av under_av snap_av renss_mapf belowss_mapf idsss_mapf isnilsF List.length_eq_zero_iff int_beq int_bne decide_not slx_av Int.toNat_zero ev_mkm ev_lk ev_mup ev_mdl ev_lenm ev_isnilm mpOf_s mapAt_s mapOf_nil mapOf_mp isnilm_nil isnilm_mp lkR Option.getD_some Option.getD_none Option.isSome_none Prim.rdo ev_snp snp_own snp_v
def confS (a : List RowT) (y : RowT) : Bool := a.any fun x => decide (x.sg = y.sg) && !decide (x = y)
theorem confS_nil (y : RowT) : confS [] y = false := rfl
theorem confS_cons (x : RowT) (a : List RowT) (y : RowT) : confS (x :: a) y = ((decide (x.sg = y.sg) && !decide (x = y)) || confS a y) := rfl
theorem inner_loop {G : Nat → Option (List AV)} {raw : Raw} {L : Env × Store → Option (Sig × Env × Store)} (a b : Sl RowT) (o : AV) (q : Store) (ho : o.ids = []) (j : Nat) (y : RowT) (hy : b.list[j]? = some y) (ha : a.list.length ≤ 1000)
    (hL : ∀ e st, L (e, st) = (IR.runL G raw [] ir_usufructref31_Merge_L0 e st).bind (seqK fun e st => L (compact [] q.length [0, 1, 6, 7, 8, 9] e st))) :
    ∀ (rest : List RowT) (i : Nat) (th : Bool), a.list.drop i = rest → i ≤ a.list.length →
    L ([(0, rv a), (1, rv b), (6, o), (7, vi j), (8, vb th), (9, vi i)], q) =
      if confS rest y = true then some (.ret, [(4, .v (.slice none 0 0)), (5, vi 6)], q) else some (.exit 2, [(0, rv a), (1, rv b), (6, o), (7, vi j), (8, vb (th || thereS y.sg rest))], q)
  | [], i, th, h, hi => by
    have h1 := drop_nil' h hi
    rw [hL]
    simp -implicitDefEqProofs only [go_sem, reduceIte, reduceCtorEq, Nat.reduceEqDiff, Nat.reduceAdd, Nat.reduceSub, Nat.reduceLT, Nat.reduceLeDiff, Nat.reduceBEq, Nat.reduceMul, Nat.reduceBNe, Int.reduceEq, Int.reduceLT, Int.reduceLE, Int.reduceNe, Int.reduceToNat, ir_usufructref31_Merge_L0, h1, confS_nil, thereS_nil]
  | x :: rest, i, th, h, hi => by
    obtain ⟨h1, h2, h3, h4, h5⟩ := drop_cons h
    have h6 := wrap_succ (i := i) (by omega)
    have ih := inner_loop a b o q ho j y hy ha hL rest (i + 1) th h2 h4
    have ih2 := inner_loop a b o q ho j y hy ha hL rest (i + 1) true h2 h4
    rw [hL]
    by_cases c : x.sg = y.sg
    · have hyx := eqL_row x y
      simp only [RowT.cells] at hyx
      by_cases d : x = y
      · subst d
        simp only [decide_true] at hyx
        simp -implicitDefEqProofs only [go_sem, reduceIte, reduceCtorEq, Nat.reduceEqDiff, Nat.reduceAdd, Nat.reduceSub, Nat.reduceLT, Nat.reduceLeDiff, Nat.reduceBEq, Nat.reduceMul, Nat.reduceBNe, Int.reduceEq, Int.reduceLT, Int.reduceLE, Int.reduceNe, Int.reduceToNat, ir_usufructref31_Merge_L0, h1, hy, h3, h6, hyx, RowT.cells, ro_row, confS_cons, thereS_cons, ih2]
      · have c' : (x.sg = y.sg) = True := eq_true c
        simp only [d, decide_false] at hyx
        simp -implicitDefEqProofs only [go_sem, reduceIte, reduceCtorEq, Nat.reduceEqDiff, Nat.reduceAdd, Nat.reduceSub, Nat.reduceLT, Nat.reduceLeDiff, Nat.reduceBEq, Nat.reduceMul, Nat.reduceBNe, Int.reduceEq, Int.reduceLT, Int.reduceLE, Int.reduceNe, Int.reduceToNat, ir_usufructref31_Merge_L0, h1, hy, h3, h6, hyx, RowT.cells, ro_row, confS_cons, thereS_cons, c', d, ih2]
    · simp -implicitDefEqProofs only [go_sem, reduceIte, reduceCtorEq, Nat.reduceEqDiff, Nat.reduceAdd, Nat.reduceSub, Nat.reduceLT, Nat.reduceLeDiff, Nat.reduceBEq, Nat.reduceMul, Nat.reduceBNe, Int.reduceEq, Int.reduceLT, Int.reduceLE, Int.reduceNe, Int.reduceToNat, ir_usufructref31_Merge_L0, h1, hy, h3, h6, RowT.cells, ro_row, confS_cons, thereS_cons, c, ih]
/-- The document's merging. -/
def refMS (a : List RowT) : List RowT → List RowT → Option (List RowT)
  | out, [] => some out
  | out, y :: t => if confS a y = true then none else refMS a (if thereS y.sg a = true then out else putS out y) t
theorem putS_len (l : List RowT) (r : RowT) : (putS l r).length = l.length + 1 := by
  have := lb_le r.sg l
  simp [putS]; omega
theorem outer_loop {E : Prog} (hE : Std E fns) {L : Env × Store → Option (Sig × Env × Store)} (a b : Sl RowT) (q : Store) (ha : a.list.length ≤ 100) (hb : b.list.length ≤ 100)
    (hL : ∀ e st, L (e, st) = (IR.runL E.glob (callL E) [] ir_usufructref31_Merge_L1 e st).bind (seqK fun e st => L (compact [] q.length [0, 1, 6, 7] e st))) :
    ∀ (rest : List RowT) (j : Nat) (out : List RowT), b.list.drop j = rest → j ≤ b.list.length → out.length ≤ 100 + j →
    L ([(0, rv a), (1, rv b), (6, rv (.mk out)), (7, vi j)], q) = match refMS a.list out rest with
      | none => some (.ret, [(4, .v (.slice none 0 0)), (5, vi 6)], q)
      | some o => some (.exit 0, [(6, rv (.mk o))], q)
  | [], j, out, h, hi, ho => by
    have h1 := drop_nil' h hi
    rw [hL]
    simp -implicitDefEqProofs only [go_sem, reduceIte, reduceCtorEq, Nat.reduceEqDiff, Nat.reduceAdd, Nat.reduceSub, Nat.reduceLT, Nat.reduceLeDiff, Nat.reduceBEq, Nat.reduceMul, Nat.reduceBNe, Int.reduceEq, Int.reduceLT, Int.reduceLE, Int.reduceNe, Int.reduceToNat, ir_usufructref31_Merge_L1, h1, refMS]
  | y :: rest, j, out, h, hi, ho => by
    obtain ⟨h1, h2, h3, h4, h5⟩ := drop_cons h
    have h6 := wrap_succ (i := j) (by omega)
    have hi := inner_loop a b (rv (.mk out)) q (ids_avR ro_row) j y h1 (by omega) (loopL_eq (IR.runL E.glob (callL E) [] ir_usufructref31_Merge_L0) (compact [] q.length [0, 1, 6, 7, 8, 9])) a.list 0 false rfl (by omega)
    have hp := fn_put hE (.mk out) (by show out.length ≤ 1000; omega) y
    simp only [Int.natCast_zero, Bool.false_or] at hi
    simp only [RowT.cells] at hp
    have e1 : Sl.list (Sl.mk out : Sl RowT) = out := rfl
    rw [e1] at hp
    rw [hL]
    unfold refMS
    cases hc : confS a.list y
    · rw [hc] at hi
      simp only [Bool.false_eq_true, if_false] at hi
      cases ht : thereS y.sg a.list
      · rw [ht] at hi
        have ih := outer_loop hE a b q ha hb hL rest (j + 1) (putS out y) h2 h4 (by rw [putS_len]; omega)
        simp -implicitDefEqProofs only [go_sem, reduceIte, reduceCtorEq, Nat.reduceEqDiff, Nat.reduceAdd, Nat.reduceSub, Nat.reduceLT, Nat.reduceLeDiff, Nat.reduceBEq, Nat.reduceMul, Nat.reduceBNe, Int.reduceEq, Int.reduceLT, Int.reduceLE, Int.reduceNe, Int.reduceToNat, ir_usufructref31_Merge_L1, h1, h3, h6, hi, hp, RowT.cells, ro_row, ih]
      · rw [ht] at hi
        have ih := outer_loop hE a b q ha hb hL rest (j + 1) out h2 h4 (by omega)
        simp -implicitDefEqProofs only [go_sem, reduceIte, reduceCtorEq, Nat.reduceEqDiff, Nat.reduceAdd, Nat.reduceSub, Nat.reduceLT, Nat.reduceLeDiff, Nat.reduceBEq, Nat.reduceMul, Nat.reduceBNe, Int.reduceEq, Int.reduceLT, Int.reduceLE, Int.reduceNe, Int.reduceToNat, ir_usufructref31_Merge_L1, h1, h3, h6, hi, RowT.cells, ro_row, ih]
    · rw [hc] at hi
      simp only [if_true] at hi
      simp -implicitDefEqProofs only [go_sem, reduceIte, reduceCtorEq, Nat.reduceEqDiff, Nat.reduceAdd, Nat.reduceSub, Nat.reduceLT, Nat.reduceLeDiff, Nat.reduceBEq, Nat.reduceMul, Nat.reduceBNe, Int.reduceEq, Int.reduceLT, Int.reduceLE, Int.reduceNe, Int.reduceToNat, ir_usufructref31_Merge_L1, h1, h3, h6, hi, RowT.cells, ro_row]
end Go.Proofs.YtklggglkdfnpkaaDoor.Ev
