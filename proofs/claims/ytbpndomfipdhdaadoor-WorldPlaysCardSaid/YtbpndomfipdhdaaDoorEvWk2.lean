/-
  Commands and replies: which are right, and what answers them.
-/
import Derived.Test.YtbpndomfipdhdaaDoorEvWk1
set_option linter.unusedVariables false
set_option linter.unusedSimpArgs false
namespace Go.Proofs.YtbpndomfipdhdaaDoor.Ev
attribute [local congr] bind_congr_head
attribute [local go_sem] opd_t opd_c opd_g opd_f opds_nil opds_cons get_cons put_some put_none keep_nil keepC_s keepC_n keep_cons runs_nil runs_cons run_op run_opr run_call run_gand run_gor run_gif seqK_norm seqK_exit seqK_ret blkK_norm blkK_exit blkK_ret runL_skip runL_exit runL_ret runL_items runL_seq runL_cond runL_block runL_loop fin_bind finK_norm finK_ret rvs_nil rvs_cons rv_tmp rv_cell tupOf_one tupOf_nil tupOf_two ev_mov ev_pick ev_alloc ev_box ev_build parts_nil parts_cons fills_nil fills_cons ev_bsl ev_bslo ev_load ev_store ev_nilck ev_bin ev_binb ev_aeq ev_un ev_i2i ev_i2t ev_isnilI nilIF ev_s2b ev_ext ev_fld ev_idxs ev_fa ev_ias ev_len ev_lens ev_s2s ev_mkf ev_rng ev_nxt ev_app bOf_s pvOf_s agOf_s tpOf_s iOf_s sOf_s ite_bind Option.bind_some Option.bind_none if_true if_false ite_true ite_false argEnv_nil argEnv_cons len_av elems_av ias_av cells_av tuple_av faF ldAt liveRef aggOf nilckF binV binI binS binB unV Bool.not_true Bool.not_false List.length_nil List.length_cons List.nil_append List.cons_append List.append_nil List.getElem?_cons_zero List.getElem?_cons_succ List.drop_zero List.drop_succ_cons List.drop_nil List.take_zero List.take_succ_cons List.take_nil List.set_cons_zero List.set_cons_succ compact_same compact_new closedB nodupB envIds ids0 upto visit pos sel AV.ids idss idsss Ob.ids AV.ren rens renss Ob.ren renEnv AV.snap snaps stAt okSt putCells List.all_nil List.all_cons List.contains_nil List.contains_cons Bool.and_true Bool.true_and Bool.and_false Bool.false_and Bool.or_true Bool.true_or Bool.or_false Bool.false_or decide_eq_true_eq decide_true decide_false beq_iff_eq bne_iff_ne beq_self_eq_true Bool.not_eq_true' Bool.false_eq_true eq_self and_self and_true true_and and_false false_and or_true true_or or_false false_or not_true_eq_false not_false_eq_true ne_eq Nat.zero_add Nat.add_zero Nat.le_refl Nat.not_lt_zero Nat.lt_irrefl Nat.zero_le Int.toNat_natCast gt_iff_lt ge_iff_le Int.lt_irrefl Int.natCast_nonneg txt_eq get_nil appF belows AV.under AV.flat flats List.length_map List.map_append List.map_cons List.map_nil List.length_append take_map_all List.flatten_cons List.flatten_nil bld_nil imp_false false_imp_iff false_implies true_implies implies_true decide_eq_false_iff_not Nat.one_mul Nat.mul_one idsss_app renss_app belowss_app ev_mn ev_mx ev_isnils ev_sls ev_slx evo_none evo_some vals minV maxV minF maxF backId List.getElem?_nil putAll Option.all_none Option.all_some Option.isSome_some intOf aszI compactV_same compactV_new callP_any callQ_eq callN_any boxQ AV.id? ids_avR ren_av under_av snap_av renss_mapf belowss_mapf idsss_mapf isnilsF List.length_eq_zero_iff int_beq int_bne decide_not slx_av Int.toNat_zero ev_mkm ev_lk ev_mup ev_mdl ev_lenm ev_isnilm mpOf_s mapAt_s mapOf_nil mapOf_mp isnilm_nil isnilm_mp lkR Option.getD_some Option.getD_none Option.isSome_none Prim.rdo ev_snp snp_own snp_v exQ_nil exQ_cons exA_ref same_nil same_box same_row same_map sameL_nil sameL_cons sameA_int sameA_bool sameA_str sameA_slice sameA_map sameA_ptr sameA_own sameA_ref sameA_mp callB_eq
theorem cv_v (x : Value) : AV.cells (.v x) = [.v x] := rfl
theorem cv_fn (f : Nat) (x : List AV) : AV.cells (.fn f x) = [.fn f x] := rfl
theorem cv_ref (a b c d : Nat) : AV.cells (.ref a b c d) = [.ref a b c d] := rfl
theorem cv_agg (l : List AV) : AV.cells (.agg l) = l := rfl
theorem tv_v (x : Value) : AV.tuple (.v x) = false := rfl
theorem tv_fn (f : Nat) (x : List AV) : AV.tuple (.fn f x) = false := rfl
theorem tv_ref (a b c d : Nat) : AV.tuple (.ref a b c d) = false := rfl
theorem tv_agg (l : List AV) : AV.tuple (.agg l) = false := rfl
/-! ### what is right -/
def goodR (r : RepT) : Bool := fitI r.saga && (fitI r.step && fitI r.tr)
def goodC (c : CmdT) : Bool := fitI c.saga && (fitI c.step && fitI c.tr) && labelGood c.party && (match cutS c.key.data.toList with | some (n, _, u) => decide (n = c.saga) && decide (u = c.undo) | none => false)
abbrev VOK (E : Prog) : Prop := ∀ s : ByteArray, s.size < 9223372036854775807 → callP E f_utf8_ValidString [vs s] = some (vb (Lib.validD s.data.toList))
abbrev SPS (E : Prog) : Prop := ∀ s : ByteArray, s.size < 4294967281 → callP E f_strings_Split [vs s, vs ⟨#[47]⟩] = some (.sl 1 ((parts s.data.toList).map fun b => [vs (BA b)]))
theorem q3r (a b c : Value) : ross [[.v a], [.v b], [.v c]] = true := rfl
theorem q3b (a b c : Value) (n : Nat) : belowss n [[.v a], [.v b], [.v c]] = true := rfl
theorem q3i (a b c : Value) : idsss [[.v a], [.v b], [.v c]] = [] := rfl
theorem fn_goodC {E : Prog} (hE : Std E fns) (hv : VOK E) (hss : SPS E) (c : CmdT) (hk : c.key.size ≤ 400) (hp : c.party.size < 9223372036854775807) : callP E f_wire_GoodCommand [.agg c.cells] = some (vb (goodC c)) := by
  have h := fn_fits3 hE c.saga c.step c.tr
  have h2 := fn_labelGood hE hv c.party (by omega)
  have h3 := fn_cut hE hv hss c.key.data.toList hk
  rw [ba_of] at h3
  unfold goodC
  generalize hq : (fitI c.saga && (fitI c.step && fitI c.tr)) = a at h ⊢
  generalize labelGood c.party = b at h2 ⊢
  cases hc : cutS c.key.data.toList with
  | none =>
    rw [hc] at h3
    simp only [cutC] at h3
    rw [hE.run rfl rfl]
    cases a
    · simp -implicitDefEqProofs only [go_sem, reduceIte, reduceCtorEq, Nat.reduceEqDiff, Nat.reduceAdd, Nat.reduceSub, Nat.reduceLT, Nat.reduceLeDiff, Nat.reduceBEq, Nat.reduceMul, Nat.reduceBNe, Int.reduceEq, Int.reduceLT, Int.reduceLE, Int.reduceNe, Int.reduceToNat, ir_wire_GoodCommand, CmdT.cells, h, h3, q3r, q3b, q3i, cv_v, cv_fn, cv_ref, cv_agg, tv_v, tv_fn, tv_ref, tv_agg]
    · cases b
      · simp -implicitDefEqProofs only [go_sem, reduceIte, reduceCtorEq, Nat.reduceEqDiff, Nat.reduceAdd, Nat.reduceSub, Nat.reduceLT, Nat.reduceLeDiff, Nat.reduceBEq, Nat.reduceMul, Nat.reduceBNe, Int.reduceEq, Int.reduceLT, Int.reduceLE, Int.reduceNe, Int.reduceToNat, ir_wire_GoodCommand, CmdT.cells, h, h2, h3, q3r, q3b, q3i, cv_v, cv_fn, cv_ref, cv_agg, tv_v, tv_fn, tv_ref, tv_agg]
      · simp -implicitDefEqProofs only [go_sem, reduceIte, reduceCtorEq, Nat.reduceEqDiff, Nat.reduceAdd, Nat.reduceSub, Nat.reduceLT, Nat.reduceLeDiff, Nat.reduceBEq, Nat.reduceMul, Nat.reduceBNe, Int.reduceEq, Int.reduceLT, Int.reduceLE, Int.reduceNe, Int.reduceToNat, ir_wire_GoodCommand, CmdT.cells, h, h2, h3, q3r, q3b, q3i, cv_v, cv_fn, cv_ref, cv_agg, tv_v, tv_fn, tv_ref, tv_agg]
  | some q =>
    obtain ⟨n, nm, u⟩ := q
    rw [hc] at h3
    simp only [cutC] at h3
    rw [hE.run rfl rfl]
    dsimp only
    cases a
    · simp -implicitDefEqProofs only [go_sem, reduceIte, reduceCtorEq, Nat.reduceEqDiff, Nat.reduceAdd, Nat.reduceSub, Nat.reduceLT, Nat.reduceLeDiff, Nat.reduceBEq, Nat.reduceMul, Nat.reduceBNe, Int.reduceEq, Int.reduceLT, Int.reduceLE, Int.reduceNe, Int.reduceToNat, ir_wire_GoodCommand, CmdT.cells, h, h3, q3r, q3b, q3i, cv_v, cv_fn, cv_ref, cv_agg, tv_v, tv_fn, tv_ref, tv_agg]
    · cases b
      · simp -implicitDefEqProofs only [go_sem, reduceIte, reduceCtorEq, Nat.reduceEqDiff, Nat.reduceAdd, Nat.reduceSub, Nat.reduceLT, Nat.reduceLeDiff, Nat.reduceBEq, Nat.reduceMul, Nat.reduceBNe, Int.reduceEq, Int.reduceLT, Int.reduceLE, Int.reduceNe, Int.reduceToNat, ir_wire_GoodCommand, CmdT.cells, h, h2, h3, q3r, q3b, q3i, cv_v, cv_fn, cv_ref, cv_agg, tv_v, tv_fn, tv_ref, tv_agg]
      · by_cases q : n = c.saga
        · have q1 := eq_true q
          rw [decide_eq_true q]
          simp -implicitDefEqProofs only [go_sem, reduceIte, reduceCtorEq, Nat.reduceEqDiff, Nat.reduceAdd, Nat.reduceSub, Nat.reduceLT, Nat.reduceLeDiff, Nat.reduceBEq, Nat.reduceMul, Nat.reduceBNe, Int.reduceEq, Int.reduceLT, Int.reduceLE, Int.reduceNe, Int.reduceToNat, ir_wire_GoodCommand, CmdT.cells, h, h2, h3, q1, q3r, q3b, q3i, cv_v, cv_fn, cv_ref, cv_agg, tv_v, tv_fn, tv_ref, tv_agg]
          cases u <;> cases c.undo <;> rfl
        · have q1 := eq_false q
          rw [decide_eq_false q]
          simp -implicitDefEqProofs only [go_sem, reduceIte, reduceCtorEq, Nat.reduceEqDiff, Nat.reduceAdd, Nat.reduceSub, Nat.reduceLT, Nat.reduceLeDiff, Nat.reduceBEq, Nat.reduceMul, Nat.reduceBNe, Int.reduceEq, Int.reduceLT, Int.reduceLE, Int.reduceNe, Int.reduceToNat, ir_wire_GoodCommand, CmdT.cells, h, h2, h3, q1, q3r, q3b, q3i, cv_v, cv_fn, cv_ref, cv_agg, tv_v, tv_fn, tv_ref, tv_agg]
end Go.Proofs.YtbpndomfipdhdaaDoor.Ev
