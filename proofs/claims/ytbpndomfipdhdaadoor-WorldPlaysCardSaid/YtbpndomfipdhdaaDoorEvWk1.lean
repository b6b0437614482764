/-
  Commands and replies: numbers that fit.
-/
import Derived.Test.YtbpndomfipdhdaaDoorEvCut
set_option linter.unusedVariables false
set_option linter.unusedSimpArgs false
namespace Go.Proofs.YtbpndomfipdhdaaDoor.Ev
attribute [local congr] bind_congr_head
attribute [local go_sem] opd_t opd_c opd_g opd_f opds_nil opds_cons get_cons put_some put_none keep_nil keepC_s keepC_n keep_cons runs_nil runs_cons run_op run_opr run_call run_gand run_gor run_gif seqK_norm seqK_exit seqK_ret blkK_norm blkK_exit blkK_ret runL_skip runL_exit runL_ret runL_items runL_seq runL_cond runL_block runL_loop fin_bind finK_norm finK_ret rvs_nil rvs_cons rv_tmp rv_cell tupOf_one tupOf_nil tupOf_two ev_mov ev_pick ev_alloc ev_box ev_build parts_nil parts_cons fills_nil fills_cons ev_bsl ev_bslo ev_load ev_store ev_nilck ev_bin ev_binb ev_aeq ev_un ev_i2i ev_i2t ev_isnilI nilIF ev_s2b ev_ext ev_fld ev_idxs ev_fa ev_ias ev_len ev_lens ev_s2s ev_mkf ev_rng ev_nxt ev_app bOf_s pvOf_s agOf_s tpOf_s iOf_s sOf_s ite_bind Option.bind_some Option.bind_none if_true if_false ite_true ite_false argEnv_nil argEnv_cons len_av elems_av ias_av cells_av tuple_av AV.tuple AV.cells faF ldAt liveRef aggOf nilckF binV binI binS binB unV Bool.not_true Bool.not_false List.length_nil List.length_cons List.nil_append List.cons_append List.append_nil List.getElem?_cons_zero List.getElem?_cons_succ List.drop_zero List.drop_succ_cons List.drop_nil List.take_zero List.take_succ_cons List.take_nil List.set_cons_zero List.set_cons_succ compact_same compact_new closedB nodupB envIds ids0 upto visit pos sel AV.ids idss idsss Ob.ids AV.ren rens renss Ob.ren renEnv AV.snap snaps stAt okSt putCells List.all_nil List.all_cons List.contains_nil List.contains_cons Bool.and_true Bool.true_and Bool.and_false Bool.false_and Bool.or_true Bool.true_or Bool.or_false Bool.false_or decide_eq_true_eq decide_true decide_false beq_iff_eq bne_iff_ne beq_self_eq_true Bool.not_eq_true' Bool.false_eq_true eq_self and_self and_true true_and and_false false_and or_true true_or or_false false_or not_true_eq_false not_false_eq_true ne_eq Nat.zero_add Nat.add_zero Nat.le_refl Nat.not_lt_zero Nat.lt_irrefl Nat.zero_le Int.toNat_natCast gt_iff_lt ge_iff_le Int.lt_irrefl Int.natCast_nonneg txt_eq get_nil appF elems belows AV.under AV.flat flats List.length_map List.map_append List.map_cons List.map_nil List.length_append take_map_all List.flatten_cons List.flatten_nil bld_nil imp_false false_imp_iff false_implies true_implies implies_true decide_eq_false_iff_not Nat.one_mul Nat.mul_one idsss_app renss_app belowss_app ev_mn ev_mx ev_isnils ev_sls ev_slx evo_none evo_some vals minV maxV minF maxF backId List.getElem?_nil putAll Option.all_none Option.all_some Option.isSome_some intOf aszI compactV_same compactV_new callP_any callQ_eq callN_any boxQ AV.id? ids_avR ren_av under_av snap_av renss_mapf belowss_mapf idsss_mapf isnilsF List.length_eq_zero_iff int_beq int_bne decide_not slx_av Int.toNat_zero ev_mkm ev_lk ev_mup ev_mdl ev_lenm ev_isnilm mpOf_s mapAt_s mapOf_nil mapOf_mp isnilm_nil isnilm_mp lkR Option.getD_some Option.getD_none Option.isSome_none Prim.rdo ev_snp snp_own snp_v exQ_nil exQ_cons exA_ref same_nil same_box same_row same_map sameL_nil sameL_cons sameA_int sameA_bool sameA_str sameA_slice sameA_map sameA_ptr sameA_own sameA_ref sameA_mp callB_eq
structure CmdT where
  saga : Int
  step : Int
  undo : Bool
  tr : Int
  party : ByteArray
  key : ByteArray
  deriving DecidableEq
structure RepT where
  saga : Int
  step : Int
  undo : Bool
  tr : Int
  good : Bool
  deriving DecidableEq
def CmdT.cells (c : CmdT) : List AV := [vi c.saga, vi c.step, vb c.undo, vi c.tr, vs c.party, vs c.key]
def RepT.cells (c : RepT) : List AV := [vi c.saga, vi c.step, vb c.undo, vi c.tr, vb c.good]
def intL (n : Int) : List AV := [vi n]
theorem ro_intL : Ro intL := fun _ => rfl
/-! ### numbers that fit -/
def fitI (n : Int) : Bool := decide (0 ≤ n) && decide (n ≤ 999999999999999999)
theorem fits_loop {G : Nat → Option (List AV)} {raw : Raw} {L : Env × Store → Option (Sig × Env × Store)} (l : Sl Int) (hl : l.list.length ≤ 1000)
    (hL : ∀ e st, L (e, st) = (IR.runL G raw [] ir_wire_fits_L0 e st).bind (seqK fun e st => L (compact [] 0 [5, 6, 7] e st))) :
    ∀ (rest : List Int) (i : Nat), l.list.drop i = rest → i ≤ l.list.length → L ([(5, l.av 1 intL), (6, vi l.list.length), (7, vi i)], []) =
      if rest.all fitI = true then some (.exit 0, [], []) else some (.ret, [(2, vb false)], [])
  | [], i, h, hi => by
    have h1 := drop_nil' h hi
    rw [hL]
    simp -implicitDefEqProofs only [go_sem, reduceIte, reduceCtorEq, Nat.reduceEqDiff, Nat.reduceAdd, Nat.reduceSub, Nat.reduceLT, Nat.reduceLeDiff, Nat.reduceBEq, Nat.reduceMul, Nat.reduceBNe, Int.reduceEq, Int.reduceLT, Int.reduceLE, Int.reduceNe, Int.reduceToNat, ir_wire_fits_L0, h1, List.all_nil]
  | x :: rest, i, h, hi => by
    obtain ⟨h1, h2, h3, h4, h5⟩ := drop_cons h
    have h6 := wrap_succ (i := i) (by omega)
    have ih := fits_loop l hl hL rest (i + 1) h2 h4
    rw [hL, List.all_cons]
    unfold fitI at ih ⊢
    by_cases c1 : x < 0
    · have e : decide (0 ≤ x) = false := decide_eq_false (by omega)
      rw [e]
      simp -implicitDefEqProofs only [go_sem, reduceIte, reduceCtorEq, Nat.reduceEqDiff, Nat.reduceAdd, Nat.reduceSub, Nat.reduceLT, Nat.reduceLeDiff, Nat.reduceBEq, Nat.reduceMul, Nat.reduceBNe, Int.reduceEq, Int.reduceLT, Int.reduceLE, Int.reduceNe, Int.reduceToNat, ir_wire_fits_L0, h1, h3, intL, c1, ro_intL]
    · have e : decide (0 ≤ x) = true := decide_eq_true (by omega)
      rw [e]
      by_cases c2 : 999999999999999999 < x
      · have e2 : decide (x ≤ 999999999999999999) = false := decide_eq_false (by omega)
        rw [e2]
        simp -implicitDefEqProofs only [go_sem, reduceIte, reduceCtorEq, Nat.reduceEqDiff, Nat.reduceAdd, Nat.reduceSub, Nat.reduceLT, Nat.reduceLeDiff, Nat.reduceBEq, Nat.reduceMul, Nat.reduceBNe, Int.reduceEq, Int.reduceLT, Int.reduceLE, Int.reduceNe, Int.reduceToNat, ir_wire_fits_L0, h1, h3, intL, c1, c2, ro_intL]
      · have e2 : decide (x ≤ 999999999999999999) = true := decide_eq_true (by omega)
        rw [e2]
        simp -implicitDefEqProofs only [go_sem, reduceIte, reduceCtorEq, Nat.reduceEqDiff, Nat.reduceAdd, Nat.reduceSub, Nat.reduceLT, Nat.reduceLeDiff, Nat.reduceBEq, Nat.reduceMul, Nat.reduceBNe, Int.reduceEq, Int.reduceLT, Int.reduceLE, Int.reduceNe, Int.reduceToNat, ir_wire_fits_L0, h1, h3, intL, c1, c2, h6, ih, ro_intL]
theorem fn_fits {E : Prog} (hE : Std E fns) (l : Sl Int) (hl : l.list.length ≤ 1000) : callP E f_wire_fits [l.av 1 intL] = some (vb (l.list.all fitI)) := by
  have h := fits_loop l hl (loopL_eq (IR.runL E.glob (callL E) [] ir_wire_fits_L0) (compact [] 0 [5, 6, 7])) l.list 0 rfl (by omega)
  simp only [Int.natCast_zero] at h
  rw [hE.run rfl rfl]
  simp -implicitDefEqProofs only [go_sem, reduceIte, reduceCtorEq, Nat.reduceEqDiff, Nat.reduceAdd, Nat.reduceSub, Nat.reduceLT, Nat.reduceLeDiff, Nat.reduceBEq, Nat.reduceMul, Nat.reduceBNe, Int.reduceEq, Int.reduceLT, Int.reduceLE, Int.reduceNe, Int.reduceToNat, ir_wire_fits, h, ro_intL]
  cases l.list.all fitI <;> simp -implicitDefEqProofs only [go_sem, reduceIte, reduceCtorEq, Nat.reduceEqDiff, Nat.reduceAdd, Nat.reduceSub, Nat.reduceLT, Nat.reduceLeDiff, Nat.reduceBEq, Nat.reduceMul, Nat.reduceBNe, Int.reduceEq, Int.reduceLT, Int.reduceLE, Int.reduceNe, Int.reduceToNat]
theorem fn_fits1 {E : Prog} (hE : Std E fns) (a : Int) : callP E f_wire_fits [.sl 1 [[vi a]]] = some (vb (fitI a)) := by
  have h := fn_fits hE (.mk [a]) (by simp [Sl.list])
  simp only [av_mk, List.map_cons, List.map_nil, intL, Sl.list, List.all_cons, List.all_nil, Bool.and_true] at h
  exact h
theorem fn_fits3 {E : Prog} (hE : Std E fns) (a b c : Int) : callP E f_wire_fits [.sl 1 [[vi a], [vi b], [vi c]]] = some (vb (fitI a && (fitI b && fitI c))) := by
  have h := fn_fits hE (.mk [a, b, c]) (by simp [Sl.list])
  simp only [av_mk, List.map_cons, List.map_nil, intL, Sl.list, List.all_cons, List.all_nil, Bool.and_true] at h
  exact h
theorem fn_answer {E : Prog} (hE : Std E fns) (c : CmdT) (g : Bool) : callP E f_wire_Answer [.agg c.cells, vb g] = some (.agg (RepT.cells ⟨c.saga, c.step, c.undo, c.tr, g⟩)) := by
  rw [hE.run rfl rfl]
  simp -implicitDefEqProofs only [go_sem, reduceIte, reduceCtorEq, Nat.reduceEqDiff, Nat.reduceAdd, Nat.reduceSub, Nat.reduceLT, Nat.reduceLeDiff, Nat.reduceBEq, Nat.reduceMul, Nat.reduceBNe, Int.reduceEq, Int.reduceLT, Int.reduceLE, Int.reduceNe, Int.reduceToNat, ir_wire_Answer, CmdT.cells, RepT.cells]
theorem fn_rfits {E : Prog} (hE : Std E fns) (n : Int) : callP E f_usufructref19_fits [vi n] = some (vb (fitI n)) := by
  rw [hE.run rfl rfl]
  unfold fitI
  by_cases c1 : 0 ≤ n
  · simp -implicitDefEqProofs only [go_sem, reduceIte, reduceCtorEq, Nat.reduceEqDiff, Nat.reduceAdd, Nat.reduceSub, Nat.reduceLT, Nat.reduceLeDiff, Nat.reduceBEq, Nat.reduceMul, Nat.reduceBNe, Int.reduceEq, Int.reduceLT, Int.reduceLE, Int.reduceNe, Int.reduceToNat, ir_usufructref19_fits, c1]
    try simp
  · simp -implicitDefEqProofs only [go_sem, reduceIte, reduceCtorEq, Nat.reduceEqDiff, Nat.reduceAdd, Nat.reduceSub, Nat.reduceLT, Nat.reduceLeDiff, Nat.reduceBEq, Nat.reduceMul, Nat.reduceBNe, Int.reduceEq, Int.reduceLT, Int.reduceLE, Int.reduceNe, Int.reduceToNat, ir_usufructref19_fits, c1]
    try simp
end Go.Proofs.YtbpndomfipdhdaaDoor.Ev
