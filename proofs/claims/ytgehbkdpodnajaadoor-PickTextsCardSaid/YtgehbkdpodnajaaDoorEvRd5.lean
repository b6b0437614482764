/-
  Picks as texts: IndexAny of the signs, and the code's term.
-/
import Derived.Test.YtgehbkdpodnajaaDoorEvRd2
import Derived.Test.YtgehbkdpodnajaaDoorEvPick10
set_option linter.unusedVariables false
set_option linter.unusedSimpArgs false
namespace Go.Proofs.YtgehbkdpodnajaaDoor.Ev
attribute [local congr] bind_congr_head
attribute [local go_sem] opd_t opd_c opd_g opd_f opds_nil opds_cons get_cons put_some put_none keep_nil keepC_s keepC_n keep_cons runs_nil runs_cons run_op run_opr run_call run_gand run_gor run_gif seqK_norm seqK_exit seqK_ret blkK_norm blkK_exit blkK_ret runL_skip runL_exit runL_ret runL_items runL_seq runL_cond runL_block runL_loop fin_bind finK_norm finK_ret rvs_nil rvs_cons rv_tmp rv_cell tupOf_one tupOf_nil tupOf_two ev_mov ev_pick ev_alloc ev_box ev_build parts_nil parts_cons fills_nil fills_cons ev_bsl ev_bslo ev_load ev_store ev_nilck ev_bin ev_binb ev_aeq ev_un ev_i2i ev_i2t ev_s2b ev_ext ev_fld ev_idxs ev_fa ev_ias ev_len ev_lens ev_s2s ev_mkf ev_rng ev_nxt ev_app bOf_s pvOf_s agOf_s tpOf_s iOf_s sOf_s ite_bind Option.bind_some Option.bind_none if_true if_false ite_true ite_false argEnv_nil argEnv_cons len_av elems_av ias_av cells_av tuple_av AV.tuple AV.cells faF ldAt liveRef aggOf nilckF binV binI binS binB unV Bool.not_true Bool.not_false List.length_nil List.length_cons List.nil_append List.cons_append List.append_nil List.getElem?_cons_zero List.getElem?_cons_succ List.drop_zero List.drop_succ_cons List.drop_nil List.take_zero List.take_succ_cons List.take_nil List.set_cons_zero List.set_cons_succ compact_same compact_new closedB nodupB envIds ids0 upto visit pos sel AV.ids idss idsss Ob.ids AV.ren rens renss Ob.ren renEnv AV.snap snaps stAt okSt putCells List.all_nil List.all_cons List.contains_nil List.contains_cons Bool.and_true Bool.true_and Bool.and_false Bool.false_and Bool.or_true Bool.true_or Bool.or_false Bool.false_or decide_eq_true_eq decide_true decide_false beq_iff_eq bne_iff_ne beq_self_eq_true Bool.not_eq_true' Bool.false_eq_true eq_self and_self and_true true_and and_false false_and or_true true_or or_false false_or not_true_eq_false not_false_eq_true ne_eq Nat.zero_add Nat.add_zero Nat.le_refl Nat.not_lt_zero Nat.lt_irrefl Nat.zero_le Int.toNat_natCast gt_iff_lt ge_iff_le Int.lt_irrefl Int.natCast_nonneg txt_eq get_nil appF elems belows AV.under AV.flat flats List.length_map List.map_append List.map_cons List.map_nil List.length_append take_map_all List.flatten_cons List.flatten_nil bld_nil imp_false false_imp_iff false_implies true_implies implies_true decide_eq_false_iff_not Nat.one_mul Nat.mul_one idsss_app renss_app belowss_app ev_mn ev_mx ev_isnils ev_sls ev_slx evo_none evo_some vals minV maxV minF maxF backId List.getElem?_nil putAll Option.all_none Option.all_some Option.isSome_some intOf aszI compactV_same compactV_new callP_any callQ_eq callN_any boxQ AV.id? ids_avR ren_av under_av snap_av renss_mapf belowss_mapf idsss_mapf isnilsF List.length_eq_zero_iff int_beq int_bne decide_not slx_av Int.toNat_zero
theorem pnumber_loop {G : Nat → Option (List AV)} {raw : Raw} {L : Env × Store → Option (Sig × Env × Store)} (l : List UInt8) (h18 : l.length ≤ 18)
    (hL : ∀ e st, L (e, st) = (IR.runL G raw [] ir_pick_number_L0 e st).bind (seqK fun e st => L (compact [] 1 [2, 24] e st))) :
    ∀ (f pp : Nat) (n : Int), l.length - pp ≤ f → pp ≤ l.length → 0 ≤ n → n < ((10 ^ pp : Nat) : Int) → ∃ q, L ([(2, vi n), (24, .it 0)], [.sit (BA l) pp]) =
      if (l.drop pp).all isDig = true then some (.exit 0, [(2, vi (valD n (l.drop pp)))], [.sit (BA l) q]) else some (.ret, [(2, vi 0), (3, vb false)], [.sit (BA l) q])
  | 0, pp, n, h, hp, h0, hn => by
    refine ⟨pp, ?_⟩
    have hp : ¬ pp < (BA l).size := by rw [ba_size]; omega
    have hd : l.drop pp = [] := List.drop_of_length_le (by omega)
    rw [hL]
    simp only [go_sem, reduceIte, reduceCtorEq, Nat.reduceEqDiff, Nat.reduceAdd, Nat.reduceSub, Nat.reduceLT, Nat.reduceLeDiff, Nat.reduceBEq, Nat.reduceMul, Nat.reduceBNe, Int.reduceEq, Int.reduceLT, Int.reduceLE, Int.reduceNe, Int.reduceToNat, ir_pick_number_L0, nxtF, hp, hd]
    rfl
  | f + 1, pp, n, h, hp, h0, hn => by
    by_cases c : pp < l.length
    · have c' : pp < (BA l).size := by rw [ba_size]; exact c
      have hd : l.drop pp = l.getD pp 0 :: l.drop (pp + 1) := by
        rw [List.drop_eq_getElem_cons c, List.getD_eq_getElem?_getD, List.getElem?_eq_getElem c]; rfl
      have hg : (BA l).get! pp = l.getD pp 0 := ba_get l pp
      have h10 : 10 ^ pp ≤ 10 ^ 17 := Nat.pow_le_pow_right (by decide) (by omega)
      have h11 : 10 ^ 17 = 100000000000000000 := by decide
      by_cases cd : isDig (l.getD pp 0) = true
      · have e := dec_dig (BA l) pp (by rw [hg]; exact cd)
        rw [hg] at e
        have hb := dig_of cd
        obtain ⟨q, ih⟩ := pnumber_loop l h18 hL f (pp + 1) (10 * n + (((l.getD pp 0).toNat : Int) - 48)) (by omega) (by omega) (by omega) (by rw [Nat.pow_succ]; omega)
        refine ⟨q, ?_⟩
        have e1 : ¬ ((l.getD pp 0).toNat : Int) < 48 := by omega
        have e2 : ¬ (57 : Int) < ((l.getD pp 0).toNat : Int) := by omega
        have w1 : IntKind.i64.wrap (10 * n) = 10 * n := IntWalk.i64_in _ (by omega)
        have w2 : IntKind.i32.wrap (((l.getD pp 0).toNat : Int) - 48) = ((l.getD pp 0).toNat : Int) - 48 := i32_in (by omega)
        have w3 : IntKind.i64.wrap (((l.getD pp 0).toNat : Int) - 48) = ((l.getD pp 0).toNat : Int) - 48 := IntWalk.i64_in _ (by omega)
        have w4 : IntKind.i64.wrap (10 * n + (((l.getD pp 0).toNat : Int) - 48)) = 10 * n + (((l.getD pp 0).toNat : Int) - 48) := IntWalk.i64_in _ (by omega)
        have hv : valD n (l.drop pp) = valD (10 * n + (((l.getD pp 0).toNat : Int) - 48)) (l.drop (pp + 1)) := by rw [hd]; rfl
        have ha : (l.drop pp).all isDig = (l.drop (pp + 1)).all isDig := by rw [hd, List.all_cons, cd, Bool.true_and]
        rw [hL, hv, ha]
        simp only [go_sem, reduceIte, reduceCtorEq, Nat.reduceEqDiff, Nat.reduceAdd, Nat.reduceSub, Nat.reduceLT, Nat.reduceLeDiff, Nat.reduceBEq, Nat.reduceMul, Nat.reduceBNe, Int.reduceEq, Int.reduceLT, Int.reduceLE, Int.reduceNe, Int.reduceToNat, ir_pick_number_L0, nxtF, c', e, e1, e2, w1, w2, w3, w4, ih]
      · have e := dec_not (BA l) pp (by rw [hg]; exact cd)
        have ha : (l.drop pp).all isDig = false := by rw [hd, List.all_cons, Bool.eq_false_iff.2 cd, Bool.false_and]
        refine ⟨pp + (Utf8.decode (BA l) pp).2, ?_⟩
        rw [hL, ha]
        by_cases e1 : ((Utf8.decode (BA l) pp).1 : Int) < 48
        · simp only [go_sem, reduceIte, reduceCtorEq, Nat.reduceEqDiff, Nat.reduceAdd, Nat.reduceSub, Nat.reduceLT, Nat.reduceLeDiff, Nat.reduceBEq, Nat.reduceMul, Nat.reduceBNe, Int.reduceEq, Int.reduceLT, Int.reduceLE, Int.reduceNe, Int.reduceToNat, ir_pick_number_L0, nxtF, c', e1]
        · have e2 : (57 : Int) < ((Utf8.decode (BA l) pp).1 : Int) := by omega
          simp only [go_sem, reduceIte, reduceCtorEq, Nat.reduceEqDiff, Nat.reduceAdd, Nat.reduceSub, Nat.reduceLT, Nat.reduceLeDiff, Nat.reduceBEq, Nat.reduceMul, Nat.reduceBNe, Int.reduceEq, Int.reduceLT, Int.reduceLE, Int.reduceNe, Int.reduceToNat, ir_pick_number_L0, nxtF, c', e1, e2]
    · refine ⟨pp, ?_⟩
      have hp : ¬ pp < (BA l).size := by rw [ba_size]; omega
      have hd : l.drop pp = [] := List.drop_of_length_le (by omega)
      rw [hL]
      simp only [go_sem, reduceIte, reduceCtorEq, Nat.reduceEqDiff, Nat.reduceAdd, Nat.reduceSub, Nat.reduceLT, Nat.reduceLeDiff, Nat.reduceBEq, Nat.reduceMul, Nat.reduceBNe, Int.reduceEq, Int.reduceLT, Int.reduceLE, Int.reduceNe, Int.reduceToNat, ir_pick_number_L0, nxtF, hp, hd]
      rfl
def num15R (l : List UInt8) : AV := if num15 l = true then .tup [vi (valD 0 l), vb true] else .tup [vi 0, vb false]
theorem byteAt_ba {l : List UInt8} {i : Nat} (h : i < l.length) : byteAt (BA l) (i : Int) = some ((l.getD i 0).toNat : Int) := by
  rw [byteAt_nat (by rw [ba_size]; exact h), ba_get]
theorem ba_nil {l : List UInt8} : BA l = ⟨#[]⟩ ↔ l = [] := ba_inj (b := [])
theorem fn_pnumber {E : Prog} (hE : Std E fns) (l : List UInt8) (hl : l.length < 9223372036854775807) : callP E f_pick_number [vs (BA l)] = some (num15R l) := by
  rw [hE.run rfl rfl]
  by_cases c1 : l = []
  · subst c1
    simp only [go_sem, reduceIte, reduceCtorEq, Nat.reduceEqDiff, Nat.reduceAdd, Nat.reduceSub, Nat.reduceLT, Nat.reduceLeDiff, Nat.reduceBEq, Nat.reduceMul, Nat.reduceBNe, Int.reduceEq, Int.reduceLT, Int.reduceLE, Int.reduceNe, Int.reduceToNat, ir_pick_number, ba_nil]; rfl
  · by_cases c2 : 15 < l.length
    · have c2' : (15 : Int) < (BA l).size := by rw [ba_size]; omega
      have : num15 l = false := by unfold num15; rw [decide_eq_false (show ¬ l.length ≤ 15 by omega)]; simp
      simp only [go_sem, reduceIte, reduceCtorEq, Nat.reduceEqDiff, Nat.reduceAdd, Nat.reduceSub, Nat.reduceLT, Nat.reduceLeDiff, Nat.reduceBEq, Nat.reduceMul, Nat.reduceBNe, Int.reduceEq, Int.reduceLT, Int.reduceLE, Int.reduceNe, Int.reduceToNat, ir_pick_number, ba_nil, c1, c2', num15R, this]
    · have c2' : ¬ (15 : Int) < (BA l).size := by rw [ba_size]; omega
      have hb := byteAt_ba (l := l) (i := 0) (List.length_pos_iff.2 c1)
      simp only [Int.natCast_zero] at hb
      have hn : ((l.getD 0 0).toNat : Int) = 48 ↔ l.getD 0 0 = 48 := by
        constructor
        · intro h
          have : (l.getD 0 0).toNat = (48 : UInt8).toNat := by show _ = 48; omega
          exact UInt8.toNat_inj.1 this
        · intro h; rw [h]; rfl
      have hb1 : ((1 : Int) < (BA l).size) ↔ 1 < l.length := by rw [ba_size]; omega
      have h48 : ((UInt8.toNat 48 : Nat) : Int) = 48 := rfl
      by_cases c3 : l.getD 0 0 = 48 ∧ 1 < l.length
      · have : num15 l = false := by unfold num15; rw [decide_eq_true c3.1, decide_eq_true c3.2]; simp
        simp only [go_sem, reduceIte, reduceCtorEq, Nat.reduceEqDiff, Nat.reduceAdd, Nat.reduceSub, Nat.reduceLT, Nat.reduceLeDiff, Nat.reduceBEq, Nat.reduceMul, Nat.reduceBNe, Int.reduceEq, Int.reduceLT, Int.reduceLE, Int.reduceNe, Int.reduceToNat, ir_pick_number, ba_nil, c1, c2', hb, hn, hb1, c3, num15R, this, h48]
      · obtain ⟨q, ih⟩ := pnumber_loop l (by omega) (loopL_eq (IR.runL E.glob (callL E) [] ir_pick_number_L0) (compact [] 1 [2, 24])) l.length 0 0 (by omega) (by omega) (by omega) (by decide)
        rw [List.drop_zero] at ih
        have hk : num15 l = l.all isDig := by
          unfold num15
          rw [decide_eq_true c1, decide_eq_true (show l.length ≤ 15 by omega)]
          by_cases c4 : l.getD 0 0 = 48
          · rw [decide_eq_false fun h => c3 ⟨c4, h⟩]; simp
          · rw [decide_eq_false c4]; simp
        unfold num15R
        rw [hk]
        by_cases c4 : l.getD 0 0 = 48
        · have c5 : ¬ 1 < l.length := fun h => c3 ⟨c4, h⟩
          cases c6 : l.all isDig
          · simp only [c6, Bool.false_eq_true, if_false] at ih
            simp only [go_sem, reduceIte, reduceCtorEq, Nat.reduceEqDiff, Nat.reduceAdd, Nat.reduceSub, Nat.reduceLT, Nat.reduceLeDiff, Nat.reduceBEq, Nat.reduceMul, Nat.reduceBNe, Int.reduceEq, Int.reduceLT, Int.reduceLE, Int.reduceNe, Int.reduceToNat, ir_pick_number, ba_nil, c1, c2', hb, hn, hb1, c4, c5, ih, h48]
          · simp only [c6, if_true] at ih
            simp only [go_sem, reduceIte, reduceCtorEq, Nat.reduceEqDiff, Nat.reduceAdd, Nat.reduceSub, Nat.reduceLT, Nat.reduceLeDiff, Nat.reduceBEq, Nat.reduceMul, Nat.reduceBNe, Int.reduceEq, Int.reduceLT, Int.reduceLE, Int.reduceNe, Int.reduceToNat, ir_pick_number, ba_nil, c1, c2', hb, hn, hb1, c4, c5, ih, h48]
        · cases c6 : l.all isDig
          · simp only [c6, Bool.false_eq_true, if_false] at ih
            simp only [go_sem, reduceIte, reduceCtorEq, Nat.reduceEqDiff, Nat.reduceAdd, Nat.reduceSub, Nat.reduceLT, Nat.reduceLeDiff, Nat.reduceBEq, Nat.reduceMul, Nat.reduceBNe, Int.reduceEq, Int.reduceLT, Int.reduceLE, Int.reduceNe, Int.reduceToNat, ir_pick_number, ba_nil, c1, c2', hb, hn, hb1, c4, ih]
          · simp only [c6, if_true] at ih
            simp only [go_sem, reduceIte, reduceCtorEq, Nat.reduceEqDiff, Nat.reduceAdd, Nat.reduceSub, Nat.reduceLT, Nat.reduceLeDiff, Nat.reduceBEq, Nat.reduceMul, Nat.reduceBNe, Int.reduceEq, Int.reduceLT, Int.reduceLE, Int.reduceNe, Int.reduceToNat, ir_pick_number, ba_nil, c1, c2', hb, hn, hb1, c4, ih]

theorem ba_app (a b : List UInt8) : BA a ++ BA b = BA (a ++ b) := by
  rw [← ba_of (BA a ++ BA b)]
  rw [ba_inj, ByteArray.data_append, Array.toList_append, ba_data, ba_data]

theorem extract_ba (l : List UInt8) (i j : Nat) : (BA l).extract i j = BA ((l.drop i).take (j - i)) := by
  rw [← ba_of ((BA l).extract i j), ba_inj, ByteArray.data_extract, Array.toList_extract, ba_data]
/-- The table of the phases' words. -/
def phasesA : List AV := (phW.map fun w => AV.v (.string (BA w)))
abbrev PHOK (E : Prog) : Prop := E.glob 0 = some phasesA
theorem ba_flip {a b : List UInt8} : (BA a = BA b) = (b = a) := propext (ba_inj.trans eq_comm)
theorem fn_phase {E : Prog} (hE : Std E fns) (hp : PHOK E) (n : Int) (h0 : 0 ≤ n) (h1 : n ≤ 5) : callP E f_script_Phase [vi n] = some (vs (BA (phWord n))) := by
  have : n = 0 ∨ n = 1 ∨ n = 2 ∨ n = 3 ∨ n = 4 ∨ n = 5 := by omega
  rw [hE.run rfl rfl]
  rcases this with rfl | rfl | rfl | rfl | rfl | rfl <;>
    (simp only [go_sem, reduceIte, reduceCtorEq, Nat.reduceEqDiff, Nat.reduceAdd, Nat.reduceSub, Nat.reduceLT, Nat.reduceLeDiff, Nat.reduceBEq, Nat.reduceMul, Nat.reduceBNe, Int.reduceEq, Int.reduceLT, Int.reduceLE, Int.reduceNe, Int.reduceToNat, ir_script_Phase, ev_iap, iapF, hp, phasesA, phW, cast6, Int.reduceToNat]; rfl)
theorem pphase_loop {E : Prog} (hE : Std E fns) (hp : PHOK E) {L : Env × Store → Option (Sig × Env × Store)} (v : List UInt8)
    (hL : ∀ e st, L (e, st) = (IR.runL E.glob (callL E) [] ir_pick_phase_L0 e st).bind (seqK fun e st => L (compact [] 0 [0, 4] e st))) :
    L ([(0, vs (BA v)), (4, vi 0)], []) = match phIx v with
      | some n => some (.ret, [(2, vi n), (3, vb true)], [])
      | none => some (.exit 0, [], []) := by
  have f := fun n h0 h1 => fn_phase hE hp n h0 h1
  have f0 := f 0 (by omega) (by omega)
  have f1 := f 1 (by omega) (by omega)
  have f2 := f 2 (by omega) (by omega)
  have f3 := f 3 (by omega) (by omega)
  have f4 := f 4 (by omega) (by omega)
  have f5 := f 5 (by omega) (by omega)
  have w : ∀ n : Nat, n < 10 → IntKind.i64.wrap ((n : Int) + 1) = ((n + 1 : Nat) : Int) := fun n h => wrap_succ (by omega)
  have w0 : IntKind.i64.wrap (0 + 1) = 1 := w 0 (by omega)
  have w1 : IntKind.i64.wrap (1 + 1) = 2 := w 1 (by omega)
  have w2 : IntKind.i64.wrap (2 + 1) = 3 := w 2 (by omega)
  have w3 : IntKind.i64.wrap (3 + 1) = 4 := w 3 (by omega)
  have w4 : IntKind.i64.wrap (4 + 1) = 5 := w 4 (by omega)
  have w5 : IntKind.i64.wrap (5 + 1) = 6 := w 5 (by omega)
  have h6 : L ([(0, vs (BA v)), (4, vi 6)], []) = some (.exit 0, [], []) := by
    rw [hL]; simp only [go_sem, reduceIte, reduceCtorEq, Nat.reduceEqDiff, Nat.reduceAdd, Nat.reduceSub, Nat.reduceLT, Nat.reduceLeDiff, Nat.reduceBEq, Nat.reduceMul, Nat.reduceBNe, Int.reduceEq, Int.reduceLT, Int.reduceLE, Int.reduceNe, Int.reduceToNat, ir_pick_phase_L0]
  have h5 : L ([(0, vs (BA v)), (4, vi 5)], []) = if v = phWord 5 then some (.ret, [(2, vi 5), (3, vb true)], []) else some (.exit 0, [], []) := by
    rw [hL]; simp only [go_sem, reduceIte, reduceCtorEq, Nat.reduceEqDiff, Nat.reduceAdd, Nat.reduceSub, Nat.reduceLT, Nat.reduceLeDiff, Nat.reduceBEq, Nat.reduceMul, Nat.reduceBNe, Int.reduceEq, Int.reduceLT, Int.reduceLE, Int.reduceNe, Int.reduceToNat, ir_pick_phase_L0, f5, ba_flip, w5, h6]
  have h4 : L ([(0, vs (BA v)), (4, vi 4)], []) = if v = phWord 4 then some (.ret, [(2, vi 4), (3, vb true)], []) else if v = phWord 5 then some (.ret, [(2, vi 5), (3, vb true)], []) else some (.exit 0, [], []) := by
    rw [hL]; simp only [go_sem, reduceIte, reduceCtorEq, Nat.reduceEqDiff, Nat.reduceAdd, Nat.reduceSub, Nat.reduceLT, Nat.reduceLeDiff, Nat.reduceBEq, Nat.reduceMul, Nat.reduceBNe, Int.reduceEq, Int.reduceLT, Int.reduceLE, Int.reduceNe, Int.reduceToNat, ir_pick_phase_L0, f4, ba_flip, w4, h5]
  have h3 : L ([(0, vs (BA v)), (4, vi 3)], []) = if v = phWord 3 then some (.ret, [(2, vi 3), (3, vb true)], []) else if v = phWord 4 then some (.ret, [(2, vi 4), (3, vb true)], []) else if v = phWord 5 then some (.ret, [(2, vi 5), (3, vb true)], []) else some (.exit 0, [], []) := by
    rw [hL]; simp only [go_sem, reduceIte, reduceCtorEq, Nat.reduceEqDiff, Nat.reduceAdd, Nat.reduceSub, Nat.reduceLT, Nat.reduceLeDiff, Nat.reduceBEq, Nat.reduceMul, Nat.reduceBNe, Int.reduceEq, Int.reduceLT, Int.reduceLE, Int.reduceNe, Int.reduceToNat, ir_pick_phase_L0, f3, ba_flip, w3, h4]
  have h2 : L ([(0, vs (BA v)), (4, vi 2)], []) = if v = phWord 2 then some (.ret, [(2, vi 2), (3, vb true)], []) else if v = phWord 3 then some (.ret, [(2, vi 3), (3, vb true)], []) else if v = phWord 4 then some (.ret, [(2, vi 4), (3, vb true)], []) else if v = phWord 5 then some (.ret, [(2, vi 5), (3, vb true)], []) else some (.exit 0, [], []) := by
    rw [hL]; simp only [go_sem, reduceIte, reduceCtorEq, Nat.reduceEqDiff, Nat.reduceAdd, Nat.reduceSub, Nat.reduceLT, Nat.reduceLeDiff, Nat.reduceBEq, Nat.reduceMul, Nat.reduceBNe, Int.reduceEq, Int.reduceLT, Int.reduceLE, Int.reduceNe, Int.reduceToNat, ir_pick_phase_L0, f2, ba_flip, w2, h3]
  have h1 : L ([(0, vs (BA v)), (4, vi 1)], []) = if v = phWord 1 then some (.ret, [(2, vi 1), (3, vb true)], []) else if v = phWord 2 then some (.ret, [(2, vi 2), (3, vb true)], []) else if v = phWord 3 then some (.ret, [(2, vi 3), (3, vb true)], []) else if v = phWord 4 then some (.ret, [(2, vi 4), (3, vb true)], []) else if v = phWord 5 then some (.ret, [(2, vi 5), (3, vb true)], []) else some (.exit 0, [], []) := by
    rw [hL]; simp only [go_sem, reduceIte, reduceCtorEq, Nat.reduceEqDiff, Nat.reduceAdd, Nat.reduceSub, Nat.reduceLT, Nat.reduceLeDiff, Nat.reduceBEq, Nat.reduceMul, Nat.reduceBNe, Int.reduceEq, Int.reduceLT, Int.reduceLE, Int.reduceNe, Int.reduceToNat, ir_pick_phase_L0, f1, ba_flip, w1, h2]
  rw [hL]
  simp only [go_sem, reduceIte, reduceCtorEq, Nat.reduceEqDiff, Nat.reduceAdd, Nat.reduceSub, Nat.reduceLT, Nat.reduceLeDiff, Nat.reduceBEq, Nat.reduceMul, Nat.reduceBNe, Int.reduceEq, Int.reduceLT, Int.reduceLE, Int.reduceNe, Int.reduceToNat, ir_pick_phase_L0, f0, ba_flip, w0, h1]
  unfold phIx
  by_cases c0 : v = phWord 0
  · simp only [if_pos c0]
  simp only [if_neg c0]
  by_cases c1 : v = phWord 1
  · simp only [if_pos c1]
  simp only [if_neg c1]
  by_cases c2 : v = phWord 2
  · simp only [if_pos c2]
  simp only [if_neg c2]
  by_cases c3 : v = phWord 3
  · simp only [if_pos c3]
  simp only [if_neg c3]
  by_cases c4 : v = phWord 4
  · simp only [if_pos c4]
  simp only [if_neg c4]
  by_cases c5 : v = phWord 5
  · simp only [if_pos c5]
  simp only [if_neg c5]
def phR (v : List UInt8) : AV := match phIx v with
  | some n => .tup [vi n, vb true]
  | none => .tup [vi 0, vb false]
theorem fn_pphase {E : Prog} (hE : Std E fns) (hp : PHOK E) (v : List UInt8) : callP E f_pick_phase [vs (BA v)] = some (phR v) := by
  have h := pphase_loop hE hp v (loopL_eq (IR.runL E.glob (callL E) [] ir_pick_phase_L0) (compact [] 0 [0, 4]))
  rw [hE.run rfl rfl]
  unfold phR
  cases hx : phIx v with
  | none =>
    rw [hx] at h
    dsimp only at h
    simp only [go_sem, reduceIte, reduceCtorEq, Nat.reduceEqDiff, Nat.reduceAdd, Nat.reduceSub, Nat.reduceLT, Nat.reduceLeDiff, Nat.reduceBEq, Nat.reduceMul, Nat.reduceBNe, Int.reduceEq, Int.reduceLT, Int.reduceLE, Int.reduceNe, Int.reduceToNat, ir_pick_phase, h]
  | some n =>
    rw [hx] at h
    dsimp only at h
    simp only [go_sem, reduceIte, reduceCtorEq, Nat.reduceEqDiff, Nat.reduceAdd, Nat.reduceSub, Nat.reduceLT, Nat.reduceLeDiff, Nat.reduceBEq, Nat.reduceMul, Nat.reduceBNe, Int.reduceEq, Int.reduceLT, Int.reduceLE, Int.reduceNe, Int.reduceToNat, ir_pick_phase, h]
theorem fn_words {E : Prog} (hE : Std E fns) (f : ByteArray) : callP E f_pick_words [vs f] = some (vb (decide (6 ≤ fieldK f ∧ fieldK f ≠ 9))) := by
  have c := cmp_of f
  have h := fn_contains hE (.mk [wDef, wPhase, wOut]) f (by simp [Sl.list])
  have e : f ∈ (Sl.mk [wDef, wPhase, wOut]).list ↔ (6 ≤ fieldK f ∧ fieldK f ≠ 9) := by
    show f ∈ [wDef, wPhase, wOut] ↔ _
    simp only [List.mem_cons, List.not_mem_nil, or_false]
    have c6 := c.c6; have c7 := c.c7; have c8 := c.c8; have hk := c.le
    show (f = ⟨#[100, 101, 102]⟩ ∨ f = ⟨#[112, 104, 97, 115, 101]⟩ ∨ f = ⟨#[111, 117, 116]⟩) ↔ _
    rw [c6, c7, c8]
    omega
  have ed : decide (f ∈ (Sl.mk [wDef, wPhase, wOut]).list) = decide (6 ≤ fieldK f ∧ fieldK f ≠ 9) := decide_eq_decide.2 e
  rw [ed] at h
  simp only [av_mk, List.map_cons, List.map_nil, strC, wDef, wPhase, wOut] at h
  rw [hE.run rfl rfl]
  simp only [go_sem, reduceIte, reduceCtorEq, Nat.reduceEqDiff, Nat.reduceAdd, Nat.reduceSub, Nat.reduceLT, Nat.reduceLeDiff, Nat.reduceBEq, Nat.reduceMul, Nat.reduceBNe, Int.reduceEq, Int.reduceLT, Int.reduceLE, Int.reduceNe, Int.reduceToNat, ir_pick_words, h, ross, belowss, idsss]
def valN (k : Nat) (v : List UInt8) : Int := if k = 6 then 0 else if k = 7 then (match phIx v with | some n => n | none => 0) else if k = 8 then (if v = wYes then 1 else 0) else if num15 v = true then valD 0 v else 0
def valT (k : Nat) (v : List UInt8) : List UInt8 := if k = 6 then v else []
def valK (k : Nat) (v : List UInt8) : Bool := if k = 6 then labelGood (BA v) else if k = 7 then (phIx v).isSome else if k = 8 then decide (v = wYes) || decide (v = wNo) else num15 v
theorem valueS_eq (k : Nat) (v : List UInt8) : valueS k v = if valK k v = true then some (valN k v, valT k v) else none := by
  unfold valueS valK valN valT
  by_cases k6 : k = 6
  · simp only [k6, if_true]
  by_cases k7 : k = 7
  · simp only [k7, if_true]
    cases phIx v <;> rfl
  by_cases k8 : k = 8
  · simp only [k8, if_true]
    by_cases h1 : v = wYes
    · simp [h1]
    · by_cases h2 : v = wNo
      · subst h2
        have hne : ¬ wNo = wYes := by decide
        simp [hne]
      · simp [h1, h2]
  · simp only [k6, k7, k8, if_false]
    cases num15 v <;> simp
set_option maxHeartbeats 4000000 in
theorem fn_value {E : Prog} (hE : Std E fns) (hv : VOK E) (hp : PHOK E) (nt : Bool) (f : ByteArray) (sg : Int) (v : List UInt8) (hl : v.length < 9223372036854775807) :
    callP E f_pick_value [.agg [vb nt, vs f, vi sg, vi 0, vs ⟨#[]⟩], vs (BA v)] = some (.tup [.agg [vb nt, vs f, vi sg, vi (valN (fieldK f) v), vs (BA (valT (fieldK f) v))], vb (valK (fieldK f) v)]) := by
  have c := cmp_of f
  have h1 := fn_labelGood hE hv (BA v) (by rw [ba_size]; exact hl)
  have h2 := fn_pphase hE hp v
  have h3 := fn_pnumber hE v hl
  have hnil : BA [] = ⟨#[]⟩ := rfl
  have y1 : (BA v = ⟨#[121, 101, 115]⟩) = (v = wYes) := propext (ba_inj (b := wYes))
  have y2 : (BA v = ⟨#[110, 111]⟩) = (v = wNo) := propext (ba_inj (b := wNo))
  rw [hE.run rfl rfl]
  generalize fieldK f = k at c ⊢
  have hk := c.le
  unfold valN valT valK
  have : k = 6 ∨ k = 7 ∨ k = 8 ∨ (¬ k = 6 ∧ ¬ k = 7 ∧ ¬ k = 8) := by omega
  rcases this with rfl | rfl | rfl | ⟨e6, e7, e8⟩
  · simp only [go_sem, reduceIte, reduceCtorEq, Nat.reduceEqDiff, Nat.reduceAdd, Nat.reduceSub, Nat.reduceLT, Nat.reduceLeDiff, Nat.reduceBEq, Nat.reduceMul, Nat.reduceBNe, Int.reduceEq, Int.reduceLT, Int.reduceLE, Int.reduceNe, Int.reduceToNat, ir_pick_value, c.c6, c.c7, c.c8, h1]
  · unfold phR at h2
    cases hx : phIx v <;> rw [hx] at h2 <;> simp only [go_sem, reduceIte, reduceCtorEq, Nat.reduceEqDiff, Nat.reduceAdd, Nat.reduceSub, Nat.reduceLT, Nat.reduceLeDiff, Nat.reduceBEq, Nat.reduceMul, Nat.reduceBNe, Int.reduceEq, Int.reduceLT, Int.reduceLE, Int.reduceNe, Int.reduceToNat, ir_pick_value, c.c6, c.c7, c.c8, h2, hnil] <;> rfl
  · by_cases a1 : v = wYes
    · have p1 : (BA v = ⟨#[121, 101, 115]⟩) = True := y1.trans (eq_true a1)
      simp only [go_sem, reduceIte, reduceCtorEq, Nat.reduceEqDiff, Nat.reduceAdd, Nat.reduceSub, Nat.reduceLT, Nat.reduceLeDiff, Nat.reduceBEq, Nat.reduceMul, Nat.reduceBNe, Int.reduceEq, Int.reduceLT, Int.reduceLE, Int.reduceNe, Int.reduceToNat, ir_pick_value, c.c6, c.c7, c.c8, p1, if_pos a1, decide_eq_true a1, hnil]
    · have p1 : (BA v = ⟨#[121, 101, 115]⟩) = False := y1.trans (eq_false a1)
      by_cases a2 : v = wNo
      · have p2 : (BA v = ⟨#[110, 111]⟩) = True := y2.trans (eq_true a2)
        simp only [go_sem, reduceIte, reduceCtorEq, Nat.reduceEqDiff, Nat.reduceAdd, Nat.reduceSub, Nat.reduceLT, Nat.reduceLeDiff, Nat.reduceBEq, Nat.reduceMul, Nat.reduceBNe, Int.reduceEq, Int.reduceLT, Int.reduceLE, Int.reduceNe, Int.reduceToNat, ir_pick_value, c.c6, c.c7, c.c8, p1, p2, if_neg a1, decide_eq_false a1, decide_eq_true a2, hnil]
      · have p2 : (BA v = ⟨#[110, 111]⟩) = False := y2.trans (eq_false a2)
        simp only [go_sem, reduceIte, reduceCtorEq, Nat.reduceEqDiff, Nat.reduceAdd, Nat.reduceSub, Nat.reduceLT, Nat.reduceLeDiff, Nat.reduceBEq, Nat.reduceMul, Nat.reduceBNe, Int.reduceEq, Int.reduceLT, Int.reduceLE, Int.reduceNe, Int.reduceToNat, ir_pick_value, c.c6, c.c7, c.c8, p1, p2, if_neg a1, decide_eq_false a1, decide_eq_false a2, hnil]
  · unfold num15R at h3
    cases hx : num15 v <;> rw [hx] at h3 <;> simp only [Bool.false_eq_true, if_false, if_true] at h3 <;>
      simp only [go_sem, reduceIte, reduceCtorEq, Nat.reduceEqDiff, Nat.reduceAdd, Nat.reduceSub, Nat.reduceLT, Nat.reduceLeDiff, Nat.reduceBEq, Nat.reduceMul, Nat.reduceBNe, Int.reduceEq, Int.reduceLT, Int.reduceLE, Int.reduceNe, Int.reduceToNat, ir_pick_value, c.c6, c.c7, c.c8, e6, e7, e8, h3, hnil]
theorem fn_pre {E : Prog} (hE : Std E fns) (l : List UInt8) : callP E f_stringslite_HasPrefix [vs (BA l), vs ⟨#[33]⟩] = some (vb (decide (l.head? = some 33))) := by
  have s1 : ((⟨#[33]⟩ : ByteArray).size : Int) = 1 := rfl
  rw [hE.run rfl rfl]
  cases l with
  | nil =>
    have s0 : ((BA []).size : Int) = 0 := rfl
    have c1 : ¬ (1 : Int) ≤ 0 := by decide
    simp only [go_sem, reduceIte, reduceCtorEq, Nat.reduceEqDiff, Nat.reduceAdd, Nat.reduceSub, Nat.reduceLT, Nat.reduceLeDiff, Nat.reduceBEq, Nat.reduceMul, Nat.reduceBNe, Int.reduceEq, Int.reduceLT, Int.reduceLE, Int.reduceNe, Int.reduceToNat, ir_stringslite_HasPrefix, s0, s1, c1, List.head?_nil]
  | cons x r =>
    have e1 : (1 : Int) ≤ ((BA (x :: r)).size : Int) := by rw [ba_size, List.length_cons]; omega
    have e2 : (BA (x :: r)).extract 0 1 = BA [x] := by rw [extract_ba]; rfl
    have e3 : (BA [x] = (⟨#[33]⟩ : ByteArray)) = (x = 33) := propext ((ba_inj (b := [33])).trans (by simp))
    have e4 : (some x = some (33 : UInt8)) = (x = 33) := propext (by simp)
    have e5 : (0 : Int) ≤ 1 := by decide
    simp only [go_sem, reduceIte, reduceCtorEq, Nat.reduceEqDiff, Nat.reduceAdd, Nat.reduceSub, Nat.reduceLT, Nat.reduceLeDiff, Nat.reduceBEq, Nat.reduceMul, Nat.reduceBNe, Int.reduceEq, Int.reduceLT, Int.reduceLE, Int.reduceNe, Int.reduceToNat, ir_stringslite_HasPrefix, s1, e1, e2, e3, e4, e5, Int.reduceToNat, List.head?_cons]
theorem fn_cut_yes {E : Prog} (hE : Std E fns) (r : List UInt8) : callP E f_strings_CutPrefix [vs (BA (33 :: r)), vs ⟨#[33]⟩] = some (.tup [vs (BA r), vb true]) := by
  have hp := fn_pre hE (33 :: r)
  simp only [List.head?_cons, decide_true] at hp
  have s1 : ((⟨#[33]⟩ : ByteArray).size : Int) = 1 := rfl
  have e1 : (1 : Int) ≤ ((BA (33 :: r)).size : Int) := by rw [ba_size, List.length_cons]; omega
  have e0 : (0 : Int) ≤ ((BA (33 :: r)).size : Int) := by omega
  have e2 : (BA (33 :: r)).extract 1 (BA (33 :: r)).size = BA r := by rw [extract_ba, ba_size]; simp
  have e5 : (0 : Int) ≤ 1 := by decide
  have hq : callP E f_stringslite_CutPrefix [vs (BA (33 :: r)), vs ⟨#[33]⟩] = some (.tup [vs (BA r), vb true]) := by
    rw [hE.run rfl rfl]
    simp only [go_sem, reduceIte, reduceCtorEq, Nat.reduceEqDiff, Nat.reduceAdd, Nat.reduceSub, Nat.reduceLT, Nat.reduceLeDiff, Nat.reduceBEq, Nat.reduceMul, Nat.reduceBNe, Int.reduceEq, Int.reduceLT, Int.reduceLE, Int.reduceNe, Int.reduceToNat, ir_stringslite_CutPrefix, hp, s1, e0, e1, e2, e5, Int.reduceToNat, Int.le_refl]
  rw [hE.run rfl rfl]
  simp only [go_sem, reduceIte, reduceCtorEq, Nat.reduceEqDiff, Nat.reduceAdd, Nat.reduceSub, Nat.reduceLT, Nat.reduceLeDiff, Nat.reduceBEq, Nat.reduceMul, Nat.reduceBNe, Int.reduceEq, Int.reduceLT, Int.reduceLE, Int.reduceNe, Int.reduceToNat, ir_strings_CutPrefix, hq]
theorem fn_cut_no {E : Prog} (hE : Std E fns) (l : List UInt8) (h : l.head? ≠ some 33) : callP E f_strings_CutPrefix [vs (BA l), vs ⟨#[33]⟩] = some (.tup [vs (BA l), vb false]) := by
  have hp := fn_pre hE l
  rw [decide_eq_false h] at hp
  have hq : callP E f_stringslite_CutPrefix [vs (BA l), vs ⟨#[33]⟩] = some (.tup [vs (BA l), vb false]) := by
    rw [hE.run rfl rfl]
    simp only [go_sem, reduceIte, reduceCtorEq, Nat.reduceEqDiff, Nat.reduceAdd, Nat.reduceSub, Nat.reduceLT, Nat.reduceLeDiff, Nat.reduceBEq, Nat.reduceMul, Nat.reduceBNe, Int.reduceEq, Int.reduceLT, Int.reduceLE, Int.reduceNe, Int.reduceToNat, ir_stringslite_CutPrefix, hp]
  rw [hE.run rfl rfl]
  simp only [go_sem, reduceIte, reduceCtorEq, Nat.reduceEqDiff, Nat.reduceAdd, Nat.reduceSub, Nat.reduceLT, Nat.reduceLeDiff, Nat.reduceBEq, Nat.reduceMul, Nat.reduceBNe, Int.reduceEq, Int.reduceLT, Int.reduceLE, Int.reduceNe, Int.reduceToNat, ir_strings_CutPrefix, hq]
end Go.Proofs.YtgehbkdpodnajaaDoor.Ev
set_option linter.unusedVariables false
set_option linter.unusedSimpArgs false
namespace Go.Proofs.YtgehbkdpodnajaaDoor.Ev
attribute [local congr] bind_congr_head
attribute [local go_sem] opd_t opd_c opd_g opd_f opds_nil opds_cons get_cons put_some put_none keep_nil keepC_s keepC_n keep_cons runs_nil runs_cons run_op run_opr run_call run_gand run_gor run_gif seqK_norm seqK_exit seqK_ret blkK_norm blkK_exit blkK_ret runL_skip runL_exit runL_ret runL_items runL_seq runL_cond runL_block runL_loop fin_bind finK_norm finK_ret rvs_nil rvs_cons rv_tmp rv_cell tupOf_one tupOf_nil tupOf_two ev_mov ev_pick ev_alloc ev_box ev_build parts_nil parts_cons fills_nil fills_cons ev_bsl ev_bslo ev_load ev_store ev_nilck ev_bin ev_binb ev_aeq ev_un ev_i2i ev_i2t ev_s2b ev_ext ev_fld ev_idxs ev_fa ev_ias ev_len ev_lens ev_s2s ev_mkf ev_rng ev_nxt ev_app bOf_s pvOf_s agOf_s tpOf_s iOf_s sOf_s ite_bind Option.bind_some Option.bind_none if_true if_false ite_true ite_false argEnv_nil argEnv_cons len_av elems_av ias_av cells_av tuple_av AV.tuple AV.cells faF ldAt liveRef aggOf nilckF binV binI binS binB unV Bool.not_true Bool.not_false List.length_nil List.length_cons List.nil_append List.cons_append List.append_nil List.getElem?_cons_zero List.getElem?_cons_succ List.drop_zero List.drop_succ_cons List.drop_nil List.take_zero List.take_succ_cons List.take_nil List.set_cons_zero List.set_cons_succ compact_same compact_new closedB nodupB envIds ids0 upto visit pos sel AV.ids idss idsss Ob.ids AV.ren rens renss Ob.ren renEnv AV.snap snaps stAt okSt putCells List.all_nil List.all_cons List.contains_nil List.contains_cons Bool.and_true Bool.true_and Bool.and_false Bool.false_and Bool.or_true Bool.true_or Bool.or_false Bool.false_or decide_eq_true_eq decide_true decide_false beq_iff_eq bne_iff_ne beq_self_eq_true Bool.not_eq_true' Bool.false_eq_true eq_self and_self and_true true_and and_false false_and or_true true_or or_false false_or not_true_eq_false not_false_eq_true ne_eq Nat.zero_add Nat.add_zero Nat.le_refl Nat.not_lt_zero Nat.lt_irrefl Nat.zero_le Int.toNat_natCast gt_iff_lt ge_iff_le Int.lt_irrefl Int.natCast_nonneg txt_eq get_nil appF elems belows AV.under AV.flat flats List.length_map List.map_append List.map_cons List.map_nil List.length_append take_map_all List.flatten_cons List.flatten_nil bld_nil imp_false false_imp_iff false_implies true_implies implies_true decide_eq_false_iff_not Nat.one_mul Nat.mul_one idsss_app renss_app belowss_app ev_mn ev_mx ev_isnils ev_sls ev_slx evo_none evo_some vals minV maxV minF maxF backId List.getElem?_nil putAll Option.all_none Option.all_some Option.isSome_some intOf aszI compactV_same compactV_new callP_any callQ_eq callN_any boxQ AV.id? ids_avR ren_av under_av snap_av renss_mapf belowss_mapf idsss_mapf isnilsF List.length_eq_zero_iff int_beq int_bne decide_not slx_av Int.toNat_zero
def cK : ByteArray := ⟨#[61, 60, 62]⟩
theorem cK_size : cK.size = 3 := rfl
abbrev IBOK (E : Prog) : Prop := ∀ (s : ByteArray) (n : Int), callP E f_strings_IndexByte [vs s, .v (.int .u8 n)] = some (vi (Lib.indexByte s.data.toList n.toNat.toUInt8))
theorem indexByte_no {z : UInt8} : ∀ {l : List UInt8}, z ∉ l → Lib.indexByte l z = -1
  | [], _ => rfl
  | b :: l, h => by
    have h1 : b ≠ z := fun e => h (by simp [e])
    have ih := indexByte_no (l := l) fun m => h (List.mem_cons_of_mem _ m)
    unfold Lib.indexByte
    simp [h1, ih]
/-! ### a rune among the signs -/
theorem fn_ixr_low {E : Prog} (hE : Std E fns) (hib : IBOK E) (c : Int) (h0 : 0 ≤ c) (h1 : c < 128) : callP E f_strings_IndexRune [vs cK, .v (.int .i32 c)] = some (vi (Lib.indexByte [61, 60, 62] c.toNat.toUInt8)) := by
  have h2 := hib cK c
  have w : IntKind.u8.wrap c = c := by rw [IntKind.wrap_u8]; omega
  rw [show cK.data.toList = [61, 60, 62] from rfl] at h2
  rw [hE.run rfl rfl]
  simp only [go_sem, reduceIte, reduceCtorEq, Nat.reduceEqDiff, Nat.reduceAdd, Nat.reduceSub, Nat.reduceLT, Nat.reduceLeDiff, Nat.reduceBEq, Nat.reduceMul, Nat.reduceBNe, Int.reduceEq, Int.reduceLT, Int.reduceLE, Int.reduceNe, Int.reduceToNat, ir_strings_IndexRune, h0, h1, w, h2]
theorem ixr_loop {E : Prog} {L : Env × Store → Option (Sig × Env × Store)} (hL : ∀ e st, L (e, st) = (IR.runL E.glob (callL E) [] ir_strings_IndexRune_L0 e st).bind (seqK fun e st => L (compact [] 1 [175] e st))) :
    L ([(175, .it 0)], [.sit cK 0]) = some (.exit 9, [], [.sit cK 3]) := by
  have d0 : Utf8.decode cK 0 = (61, 1) := by decide
  have d1 : Utf8.decode cK 1 = (60, 1) := by decide
  have d2 : Utf8.decode cK 2 = (62, 1) := by decide
  rw [hL]; simp only [go_sem, reduceIte, reduceCtorEq, Nat.reduceEqDiff, Nat.reduceAdd, Nat.reduceSub, Nat.reduceLT, Nat.reduceLeDiff, Nat.reduceBEq, Nat.reduceMul, Nat.reduceBNe, Int.reduceEq, Int.reduceLT, Int.reduceLE, Int.reduceNe, Int.reduceToNat, ir_strings_IndexRune_L0, nxtF, cK_size, d0]
  rw [hL]; simp only [go_sem, reduceIte, reduceCtorEq, Nat.reduceEqDiff, Nat.reduceAdd, Nat.reduceSub, Nat.reduceLT, Nat.reduceLeDiff, Nat.reduceBEq, Nat.reduceMul, Nat.reduceBNe, Int.reduceEq, Int.reduceLT, Int.reduceLE, Int.reduceNe, Int.reduceToNat, ir_strings_IndexRune_L0, nxtF, cK_size, d1]
  rw [hL]; simp only [go_sem, reduceIte, reduceCtorEq, Nat.reduceEqDiff, Nat.reduceAdd, Nat.reduceSub, Nat.reduceLT, Nat.reduceLeDiff, Nat.reduceBEq, Nat.reduceMul, Nat.reduceBNe, Int.reduceEq, Int.reduceLT, Int.reduceLE, Int.reduceNe, Int.reduceToNat, ir_strings_IndexRune_L0, nxtF, cK_size, d2]
  rw [hL]; simp only [go_sem, reduceIte, reduceCtorEq, Nat.reduceEqDiff, Nat.reduceAdd, Nat.reduceSub, Nat.reduceLT, Nat.reduceLeDiff, Nat.reduceBEq, Nat.reduceMul, Nat.reduceBNe, Int.reduceEq, Int.reduceLT, Int.reduceLE, Int.reduceNe, Int.reduceToNat, ir_strings_IndexRune_L0, nxtF, cK_size]
  simp
theorem fn_ixr_err {E : Prog} (hE : Std E fns) : callP E f_strings_IndexRune [vs cK, .v (.int .i32 65533)] = some (vi (-1)) := by
  have h := ixr_loop (E := E) (loopL_eq (IR.runL E.glob (callL E) [] ir_strings_IndexRune_L0) (compact [] 1 [175]))
  rw [hE.run rfl rfl]
  simp only [go_sem, reduceIte, reduceCtorEq, Nat.reduceEqDiff, Nat.reduceAdd, Nat.reduceSub, Nat.reduceLT, Nat.reduceLeDiff, Nat.reduceBEq, Nat.reduceMul, Nat.reduceBNe, Int.reduceEq, Int.reduceLT, Int.reduceLE, Int.reduceNe, Int.reduceToNat, ir_strings_IndexRune, h]
theorem fn_validRune {E : Prog} (hE : Std E fns) (c : Int) : callP E f_utf8_ValidRune [.v (.int .i32 c)] = some (vb (Utf8.valid c)) := by
  rw [hE.run rfl rfl]
  unfold Utf8.valid
  by_cases h0 : 0 ≤ c
  · by_cases h1 : c < 55296
    · simp only [go_sem, reduceIte, reduceCtorEq, Nat.reduceEqDiff, Nat.reduceAdd, Nat.reduceSub, Nat.reduceLT, Nat.reduceLeDiff, Nat.reduceBEq, Nat.reduceMul, Nat.reduceBNe, Int.reduceEq, Int.reduceLT, Int.reduceLE, Int.reduceNe, Int.reduceToNat, ir_utf8_ValidRune, h0, h1] <;> simp [h0, h1]
    · by_cases h2 : 57343 < c
      · by_cases h3 : c ≤ 1114111
        · simp only [go_sem, reduceIte, reduceCtorEq, Nat.reduceEqDiff, Nat.reduceAdd, Nat.reduceSub, Nat.reduceLT, Nat.reduceLeDiff, Nat.reduceBEq, Nat.reduceMul, Nat.reduceBNe, Int.reduceEq, Int.reduceLT, Int.reduceLE, Int.reduceNe, Int.reduceToNat, ir_utf8_ValidRune, h0, h1, h2, h3] <;> simp [h0, h1, h3, show (57344 : Int) ≤ c by omega]
        · simp only [go_sem, reduceIte, reduceCtorEq, Nat.reduceEqDiff, Nat.reduceAdd, Nat.reduceSub, Nat.reduceLT, Nat.reduceLeDiff, Nat.reduceBEq, Nat.reduceMul, Nat.reduceBNe, Int.reduceEq, Int.reduceLT, Int.reduceLE, Int.reduceNe, Int.reduceToNat, ir_utf8_ValidRune, h0, h1, h2, h3] <;> simp [h0, h1, h3]
      · simp only [go_sem, reduceIte, reduceCtorEq, Nat.reduceEqDiff, Nat.reduceAdd, Nat.reduceSub, Nat.reduceLT, Nat.reduceLeDiff, Nat.reduceBEq, Nat.reduceMul, Nat.reduceBNe, Int.reduceEq, Int.reduceLT, Int.reduceLE, Int.reduceNe, Int.reduceToNat, ir_utf8_ValidRune, h0, h1, h2] <;> simp [h0, h1, show ¬ (57344 : Int) ≤ c by omega]
  · have h2 : ¬ (57343 : Int) < c := by omega
    simp only [go_sem, reduceIte, reduceCtorEq, Nat.reduceEqDiff, Nat.reduceAdd, Nat.reduceSub, Nat.reduceLT, Nat.reduceLeDiff, Nat.reduceBEq, Nat.reduceMul, Nat.reduceBNe, Int.reduceEq, Int.reduceLT, Int.reduceLE, Int.reduceNe, Int.reduceToNat, ir_utf8_ValidRune, h0, h2] <;> simp [h0, show ¬ (57344 : Int) ≤ c by omega]
theorem enc_hi {c : Int} (h0 : 128 ≤ c) (hv : Utf8.valid c = true) : ∃ (a : List UInt8) (z : UInt8), Utf8.encode c = BA (a ++ [z]) ∧ 128 ≤ z.toNat ∧ (a.length = 1 ∨ a.length = 2 ∨ a.length = 3) := by
  have hz : ∀ n : Nat, 128 ≤ (UInt8.ofNat (0x80 + n % 64)).toNat := fun n => by simp; omega
  unfold Utf8.encode
  simp only [hv, if_true]
  rw [if_neg (by omega)]
  split
  · exact ⟨[_], _, rfl, hz _, .inl rfl⟩
  · split
    · exact ⟨[_, _], _, rfl, hz _, .inr (.inl rfl)⟩
    · exact ⟨[_, _, _], _, rfl, hz _, .inr (.inr rfl)⟩
theorem byteAt_last (a : List UInt8) (z : UInt8) : byteAt (BA (a ++ [z])) (a.length : Int) = some (z.toNat : Int) := by
  rw [byteAt_ba (by simp)]
  simp [List.getD_eq_getElem?_getD]
theorem fn_ixr_hi {E : Prog} (hE : Std E fns) (hib : IBOK E) (c : Int) (h0 : 128 ≤ c) (he : c ≠ 65533) (hv : Utf8.valid c = true) : callP E f_strings_IndexRune [vs cK, .v (.int .i32 c)] = some (vi (-1)) := by
  obtain ⟨a, z, e1, hz, ha⟩ := enc_hi h0 hv
  have hvr := fn_validRune hE c
  rw [hv] at hvr
  have hsz : (BA (a ++ [z])).size = a.length + 1 := by rw [ba_size]; simp
  have hb := byteAt_last a z
  have zn : ∀ b : UInt8, b.toNat < 128 → b ≠ z := fun b hb e => by rw [e] at hb; omega
  have zz : (z.toNat : Int).toNat.toUInt8 = z := by
    rw [Int.toNat_natCast]; exact UInt8.ofNat_toNat
  have hi2 := hib (cK.extract 2 3) z.toNat
  have hi3 := hib (cK.extract 3 3) z.toNat
  rw [zz, indexByte_no (by
    show z ∉ [62]
    simp only [List.mem_singleton]
    exact fun e => zn 62 (by decide) e.symm)] at hi2
  rw [zz, indexByte_no (by show z ∉ []; simp)] at hi3
  have c0 : 0 ≤ c := by omega
  have c1 : ¬ c < 128 := by omega
  have z60 : ¬ (60 : Int) = (z.toNat : Int) := by omega
  have z62 : ¬ (62 : Int) = (z.toNat : Int) := by omega
  have b1 : byteAt cK 1 = some 60 := rfl
  have b2 : byteAt cK 2 = some 62 := rfl
  have hlen : ∀ n : Nat, n ≤ 3 → IntKind.i64.wrap (((n + 1 : Nat) : Int) - 1) = (n : Int) := fun n h => by rw [IntWalk.i64_in _ (by omega)]; omega
  have w2 : IntKind.i64.wrap ((1 : Int) + 1) = 2 := wrap_succ (i := 1) (by omega)
  have w3 : IntKind.i64.wrap ((2 : Int) + 1) = 3 := wrap_succ (i := 2) (by omega)
  have n1 : ((1 : Nat) : Int) = 1 := rfl
  have n2 : ((2 : Nat) : Int) = 2 := rfl
  have n3 : ((3 : Nat) : Int) = 3 := rfl
  rw [hE.run rfl rfl]
  rcases ha with ha | ha | ha
  · rw [ha] at hb hsz
    have w1 := hlen 1 (by omega)
    simp only [n1] at hb w1
    have hl := loopL_eq (IR.runL E.glob (callL E) [] ir_strings_IndexRune_L4) (compact [] 0 [0, 7, 8, 9])
    simp only [go_sem, reduceIte, reduceCtorEq, Nat.reduceEqDiff, Nat.reduceAdd, Nat.reduceSub, Nat.reduceLT, Nat.reduceLeDiff, Nat.reduceBEq, Nat.reduceMul, Nat.reduceBNe, Int.reduceEq, Int.reduceLT, Int.reduceLE, Int.reduceNe, Int.reduceToNat, ir_strings_IndexRune, c0, c1, he, hvr, e1, hsz, w1]
    rw [hl]
    simp only [go_sem, reduceIte, reduceCtorEq, Nat.reduceEqDiff, Nat.reduceAdd, Nat.reduceSub, Nat.reduceLT, Nat.reduceLeDiff, Nat.reduceBEq, Nat.reduceMul, Nat.reduceBNe, Int.reduceEq, Int.reduceLT, Int.reduceLE, Int.reduceNe, Int.reduceToNat, ir_strings_IndexRune_L4, cK_size, n3, b1, hb, z60, w2, hi2]
  · rw [ha] at hb hsz
    have w1 := hlen 2 (by omega)
    simp only [n2] at hb w1
    have hl := loopL_eq (IR.runL E.glob (callL E) [] ir_strings_IndexRune_L4) (compact [] 0 [0, 7, 8, 9])
    simp only [go_sem, reduceIte, reduceCtorEq, Nat.reduceEqDiff, Nat.reduceAdd, Nat.reduceSub, Nat.reduceLT, Nat.reduceLeDiff, Nat.reduceBEq, Nat.reduceMul, Nat.reduceBNe, Int.reduceEq, Int.reduceLT, Int.reduceLE, Int.reduceNe, Int.reduceToNat, ir_strings_IndexRune, c0, c1, he, hvr, e1, hsz, w1]
    rw [hl]
    simp only [go_sem, reduceIte, reduceCtorEq, Nat.reduceEqDiff, Nat.reduceAdd, Nat.reduceSub, Nat.reduceLT, Nat.reduceLeDiff, Nat.reduceBEq, Nat.reduceMul, Nat.reduceBNe, Int.reduceEq, Int.reduceLT, Int.reduceLE, Int.reduceNe, Int.reduceToNat, ir_strings_IndexRune_L4, cK_size, n3, b2, hb, z62, w3, hi3]
  · rw [ha] at hb hsz
    have w1 := hlen 3 (by omega)
    simp only [n3] at hb w1
    have hl := loopL_eq (IR.runL E.glob (callL E) [] ir_strings_IndexRune_L4) (compact [] 0 [0, 7, 8, 9])
    simp only [go_sem, reduceIte, reduceCtorEq, Nat.reduceEqDiff, Nat.reduceAdd, Nat.reduceSub, Nat.reduceLT, Nat.reduceLeDiff, Nat.reduceBEq, Nat.reduceMul, Nat.reduceBNe, Int.reduceEq, Int.reduceLT, Int.reduceLE, Int.reduceNe, Int.reduceToNat, ir_strings_IndexRune, c0, c1, he, hvr, e1, hsz, w1]
    rw [hl]
    simp only [go_sem, reduceIte, reduceCtorEq, Nat.reduceEqDiff, Nat.reduceAdd, Nat.reduceSub, Nat.reduceLT, Nat.reduceLeDiff, Nat.reduceBEq, Nat.reduceMul, Nat.reduceBNe, Int.reduceEq, Int.reduceLT, Int.reduceLE, Int.reduceNe, Int.reduceToNat, ir_strings_IndexRune_L4, cK_size, n3]
/-! ### the first sign -/
def ixL : List UInt8 → Option Nat
  | [] => none
  | b :: l => if isCmp b = true then some 0 else (ixL l).map (· + 1)
def ixF (l : List UInt8) (pp : Nat) : Option Nat := (ixL (l.drop pp)).map (· + pp)
theorem ixF_here {l : List UInt8} {pp : Nat} (hp : pp < l.length) (h : isCmp (l.getD pp 0) = true) : ixF l pp = some pp := by
  unfold ixF
  rw [List.drop_eq_getElem_cons hp, ixL, if_pos (by rw [List.getD_eq_getElem?_getD, List.getElem?_eq_getElem hp] at h; exact h)]
  simp
theorem ixF_next {l : List UInt8} {pp : Nat} (h : ¬ isCmp (l.getD pp 0) = true) : ixF l pp = ixF l (pp + 1) := by
  unfold ixF
  by_cases hp : pp < l.length
  · rw [List.drop_eq_getElem_cons hp, ixL, if_neg (by rw [List.getD_eq_getElem?_getD, List.getElem?_eq_getElem hp] at h; exact h)]
    cases ixL (l.drop (pp + 1)) with
    | none => rfl
    | some j => simp; omega
  · rw [List.drop_of_length_le (by omega), List.drop_of_length_le (by omega)]; rfl
theorem ixF_skip {l : List UInt8} {pp : Nat} : ∀ w : Nat, (∀ j, pp ≤ j → j < pp + w → ¬ isCmp (l.getD j 0) = true) → ixF l pp = ixF l (pp + w)
  | 0, _ => rfl
  | w + 1, h => by
    rw [ixF_skip w fun j h1 h2 => h j h1 (by omega), ixF_next (h (pp + w) (by omega) (by omega))]
    rfl
theorem cmp_low {b : UInt8} (h : 128 ≤ b.toNat) : ¬ isCmp b = true := fun e => by
  rcases cmp_three e with rfl | rfl | rfl <;> simp at h
theorem ixF_dec {l : List UInt8} {pp : Nat} (hp : pp < l.length) (h : ¬ isCmp (l.getD pp 0) = true) : ixF l pp = ixF l (pp + (Utf8.decode (BA l) pp).2) := by
  have hd := Lib.decode_at (BA l) pp
  have hg : ∀ j, (BA l).get! j = l.getD j 0 := fun j => ba_get l j
  rw [hg, hg, hg, hg] at hd
  by_cases c : (l.getD pp 0).toNat < 128
  · rw [hd, Lib.decodeN_ascii _ _ _ _ _ c]
    exact ixF_next h
  · have w := decodeN_w ((BA l).size - pp) (l.getD pp 0).toNat (l.getD (pp + 1) 0).toNat (l.getD (pp + 2) 0).toNat (l.getD (pp + 3) 0).toNat
    rw [← hd] at w
    obtain ⟨w4, w1, w2, w3⟩ := w
    refine ixF_skip _ fun j h1 h2 => ?_
    have : j = pp ∨ (j = pp + 1 ∧ 2 ≤ (Utf8.decode (BA l) pp).2) ∨ (j = pp + 2 ∧ 3 ≤ (Utf8.decode (BA l) pp).2) ∨ (j = pp + 3 ∧ 4 ≤ (Utf8.decode (BA l) pp).2) := by omega
    rcases this with rfl | ⟨rfl, q⟩ | ⟨rfl, q⟩ | ⟨rfl, q⟩
    · exact h
    · have := w1 q; exact cmp_low (by omega)
    · have := w2 q; exact cmp_low (by omega)
    · have := w3 q; exact cmp_low (by omega)
theorem ixb_cmp (b : UInt8) (h : b.toNat < 128) : (0 ≤ Lib.indexByte [61, 60, 62] b) = (isCmp b = true) := by
  have : ∀ i : Fin 128, (0 ≤ Lib.indexByte [61, 60, 62] (UInt8.ofNat i.val)) = (isCmp (UInt8.ofNat i.val) = true) := fun i => propext ((by decide : ∀ i : Fin 128, (0 ≤ Lib.indexByte [61, 60, 62] (UInt8.ofNat i.val)) ↔ (isCmp (UInt8.ofNat i.val) = true)) i)
  have h2 := this ⟨b.toNat, h⟩
  rw [UInt8.ofNat_toNat] at h2
  exact h2
theorem dec_valid (l : List UInt8) (pp : Nat) (h : ¬ (l.getD pp 0).toNat < 128) : 128 ≤ (Utf8.decode (BA l) pp).1 ∧ (((Utf8.decode (BA l) pp).1 : Int) ≠ 65533 → Utf8.valid ((Utf8.decode (BA l) pp).1 : Int) = true) := by
  have hd := Lib.decode_at (BA l) pp
  have hg : ∀ j, (BA l).get! j = l.getD j 0 := fun j => ba_get l j
  rw [hg, hg, hg, hg] at hd
  refine ⟨by rw [hd]; exact decodeN_hi _ _ _ _ _ (by omega), ?_⟩
  rw [hd]
  unfold Lib.decodeN
  intro hne
  have b0 := (l.getD pp 0).toNat_lt
  have b1 := (l.getD (pp + 1) 0).toNat_lt
  have b2 := (l.getD (pp + 2) 0).toNat_lt
  have b3 := (l.getD (pp + 3) 0).toNat_lt
  simp only [Utf8.valid, Bool.or_eq_true, Bool.and_eq_true, decide_eq_true_eq]
  repeat' split at hne
  all_goals (repeat' split)
  all_goals first | omega | (dsimp only at hne ⊢; omega) | (exact absurd rfl hne) | skip
theorem any_loop {E : Prog} (hE : Std E fns) (hib : IBOK E) {L : Env × Store → Option (Sig × Env × Store)} (l : List UInt8)
    (hL : ∀ e st, L (e, st) = (IR.runL E.glob (callL E) [] ir_strings_IndexAny_L0 e st).bind (seqK fun e st => L (compact [] 1 [1, 45] e st))) :
    ∀ (f pp : Nat), l.length - pp ≤ f → ∃ q, L ([(1, vs cK), (45, .it 0)], [.sit (BA l) pp]) = match ixF l pp with
      | some j => some (.ret, [(4, vi j)], [.sit (BA l) q])
      | none => some (.exit 2, [], [.sit (BA l) q])
  | 0, pp, h => by
    refine ⟨pp, ?_⟩
    have hp : ¬ pp < (BA l).size := by rw [ba_size]; omega
    have e : ixF l pp = none := by unfold ixF; rw [List.drop_of_length_le (by omega)]; rfl
    rw [hL, e]
    simp only [go_sem, reduceIte, reduceCtorEq, Nat.reduceEqDiff, Nat.reduceAdd, Nat.reduceSub, Nat.reduceLT, Nat.reduceLeDiff, Nat.reduceBEq, Nat.reduceMul, Nat.reduceBNe, Int.reduceEq, Int.reduceLT, Int.reduceLE, Int.reduceNe, Int.reduceToNat, ir_strings_IndexAny_L0, nxtF, hp]
  | f + 1, pp, h => by
    by_cases hp : pp < l.length
    · have hp' : pp < (BA l).size := by rw [ba_size]; exact hp
      have hw := Lib.decode_width_pos (BA l) pp hp'
      by_cases hc : isCmp (l.getD pp 0) = true
      · have e := ixF_here hp hc
        have hlow : (l.getD pp 0).toNat < 128 := by rcases cmp_three hc with h3 | h3 | h3 <;> rw [h3] <;> decide
        have hd : Utf8.decode (BA l) pp = ((l.getD pp 0).toNat, 1) := by rw [Lib.decode_at, ba_get, Lib.decodeN_ascii _ _ _ _ _ hlow]
        have hr := fn_ixr_low hE hib ((l.getD pp 0).toNat : Int) (by omega) (by omega)
        have zz : ((l.getD pp 0).toNat : Int).toNat.toUInt8 = l.getD pp 0 := by rw [Int.toNat_natCast]; exact UInt8.ofNat_toNat
        rw [zz] at hr
        have hge : (0 ≤ Lib.indexByte [61, 60, 62] (l.getD pp 0)) := by rw [ixb_cmp _ hlow]; exact hc
        refine ⟨pp + 1, ?_⟩
        rw [hL, e]
        simp only [go_sem, reduceIte, reduceCtorEq, Nat.reduceEqDiff, Nat.reduceAdd, Nat.reduceSub, Nat.reduceLT, Nat.reduceLeDiff, Nat.reduceBEq, Nat.reduceMul, Nat.reduceBNe, Int.reduceEq, Int.reduceLT, Int.reduceLE, Int.reduceNe, Int.reduceToNat, ir_strings_IndexAny_L0, nxtF, hp', hd, hr, hge]
      · obtain ⟨q, ih⟩ := any_loop hE hib l hL f (pp + (Utf8.decode (BA l) pp).2) (by omega)
        have e := ixF_dec hp hc
        refine ⟨q, ?_⟩
        rw [hL, e, ← ih]
        have hr : ∃ z : Int, z < 0 ∧ callP E f_strings_IndexRune [vs cK, .v (.int .i32 ((Utf8.decode (BA l) pp).1 : Int))] = some (vi z) := by
          by_cases hlow : (l.getD pp 0).toNat < 128
          · have hd : Utf8.decode (BA l) pp = ((l.getD pp 0).toNat, 1) := by rw [Lib.decode_at, ba_get, Lib.decodeN_ascii _ _ _ _ _ hlow]
            have hr := fn_ixr_low hE hib ((l.getD pp 0).toNat : Int) (by omega) (by omega)
            have zz : ((l.getD pp 0).toNat : Int).toNat.toUInt8 = l.getD pp 0 := by rw [Int.toNat_natCast]; exact UInt8.ofNat_toNat
            rw [zz] at hr
            refine ⟨_, ?_, by rw [hd]; exact hr⟩
            have := ixb_cmp _ hlow
            have h2 : ¬ (0 ≤ Lib.indexByte [61, 60, 62] (l.getD pp 0)) := by rw [this]; exact hc
            omega
          · obtain ⟨v1, v2⟩ := dec_valid l pp hlow
            by_cases he : ((Utf8.decode (BA l) pp).1 : Int) = 65533
            · exact ⟨-1, by decide, by rw [he]; exact fn_ixr_err hE⟩
            · exact ⟨-1, by decide, fn_ixr_hi hE hib _ (by omega) he (v2 he)⟩
        obtain ⟨z, hz, hr⟩ := hr
        have hz' : ¬ (0 : Int) ≤ z := by omega
        simp only [go_sem, reduceIte, reduceCtorEq, Nat.reduceEqDiff, Nat.reduceAdd, Nat.reduceSub, Nat.reduceLT, Nat.reduceLeDiff, Nat.reduceBEq, Nat.reduceMul, Nat.reduceBNe, Int.reduceEq, Int.reduceLT, Int.reduceLE, Int.reduceNe, Int.reduceToNat, ir_strings_IndexAny_L0, nxtF, hp', hr, hz']
    · refine ⟨pp, ?_⟩
      have hp' : ¬ pp < (BA l).size := by rw [ba_size]; omega
      have e : ixF l pp = none := by unfold ixF; rw [List.drop_of_length_le (by omega)]; rfl
      rw [hL, e]
      simp only [go_sem, reduceIte, reduceCtorEq, Nat.reduceEqDiff, Nat.reduceAdd, Nat.reduceSub, Nat.reduceLT, Nat.reduceLeDiff, Nat.reduceBEq, Nat.reduceMul, Nat.reduceBNe, Int.reduceEq, Int.reduceLT, Int.reduceLE, Int.reduceNe, Int.reduceToNat, ir_strings_IndexAny_L0, nxtF, hp']
end Go.Proofs.YtgehbkdpodnajaaDoor.Ev
set_option linter.unusedVariables false
set_option linter.unusedSimpArgs false
namespace Go.Proofs.YtgehbkdpodnajaaDoor.Ev
attribute [local congr] bind_congr_head
attribute [local go_sem] opd_t opd_c opd_g opd_f opds_nil opds_cons get_cons put_some put_none keep_nil keepC_s keepC_n keep_cons runs_nil runs_cons run_op run_opr run_call run_gand run_gor run_gif seqK_norm seqK_exit seqK_ret blkK_norm blkK_exit blkK_ret runL_skip runL_exit runL_ret runL_items runL_seq runL_cond runL_block runL_loop fin_bind finK_norm finK_ret rvs_nil rvs_cons rv_tmp rv_cell tupOf_one tupOf_nil tupOf_two ev_mov ev_pick ev_alloc ev_box ev_build parts_nil parts_cons fills_nil fills_cons ev_bsl ev_bslo ev_load ev_store ev_nilck ev_bin ev_binb ev_aeq ev_un ev_i2i ev_i2t ev_s2b ev_ext ev_fld ev_idxs ev_fa ev_ias ev_len ev_lens ev_s2s ev_mkf ev_rng ev_nxt ev_app bOf_s pvOf_s agOf_s tpOf_s iOf_s sOf_s ite_bind Option.bind_some Option.bind_none if_true if_false ite_true ite_false argEnv_nil argEnv_cons len_av elems_av ias_av cells_av tuple_av AV.tuple AV.cells faF ldAt liveRef aggOf nilckF binV binI binS binB unV Bool.not_true Bool.not_false List.length_nil List.length_cons List.nil_append List.cons_append List.append_nil List.getElem?_cons_zero List.getElem?_cons_succ List.drop_zero List.drop_succ_cons List.drop_nil List.take_zero List.take_succ_cons List.take_nil List.set_cons_zero List.set_cons_succ compact_same compact_new closedB nodupB envIds ids0 upto visit pos sel AV.ids idss idsss Ob.ids AV.ren rens renss Ob.ren renEnv AV.snap snaps stAt okSt putCells List.all_nil List.all_cons List.contains_nil List.contains_cons Bool.and_true Bool.true_and Bool.and_false Bool.false_and Bool.or_true Bool.true_or Bool.or_false Bool.false_or decide_eq_true_eq decide_true decide_false beq_iff_eq bne_iff_ne beq_self_eq_true Bool.not_eq_true' Bool.false_eq_true eq_self and_self and_true true_and and_false false_and or_true true_or or_false false_or not_true_eq_false not_false_eq_true ne_eq Nat.zero_add Nat.add_zero Nat.le_refl Nat.not_lt_zero Nat.lt_irrefl Nat.zero_le Int.toNat_natCast gt_iff_lt ge_iff_le Int.lt_irrefl Int.natCast_nonneg txt_eq get_nil appF elems belows AV.under AV.flat flats List.length_map List.map_append List.map_cons List.map_nil List.length_append take_map_all List.flatten_cons List.flatten_nil bld_nil imp_false false_imp_iff false_implies true_implies implies_true decide_eq_false_iff_not Nat.one_mul Nat.mul_one idsss_app renss_app belowss_app ev_mn ev_mx ev_isnils ev_sls ev_slx evo_none evo_some vals minV maxV minF maxF backId List.getElem?_nil putAll Option.all_none Option.all_some Option.isSome_some intOf aszI compactV_same compactV_new callP_any callQ_eq callN_any boxQ AV.id? ids_avR ren_av under_av snap_av renss_mapf belowss_mapf idsss_mapf isnilsF List.length_eq_zero_iff int_beq int_bne decide_not slx_av Int.toNat_zero
/-- The set of the signs. -/
def asc : List AV := (List.range 256).map fun i => vb (isCmp (UInt8.ofNat i))
theorem asc_len : asc.length = 256 := by simp [asc]
theorem asc_at (b : UInt8) : asc.drop b.toNat = vb (isCmp b) :: asc.drop (b.toNat + 1) := by
  have hb := b.toNat_lt
  have h : b.toNat < asc.length := by rw [asc_len]; exact hb
  rw [List.drop_eq_getElem_cons h]
  congr 1
  simp [asc]
theorem asc_ids : idss asc = [] := by
  have : ∀ l : List Nat, idss (l.map fun i => vb (isCmp (UInt8.ofNat i))) = [] := by
    intro l
    induction l with
    | nil => rfl
    | cons x l ih => rw [List.map_cons]; unfold idss; rw [ih]; rfl
  exact this _
theorem asc_rens (ρ : Nat → Nat) : rens ρ asc = asc := rens_of _ asc_ids
theorem asc_belows (n : Nat) : belows n asc = true := belows_of _ asc_ids
abbrev ASOK (E : Prog) : Prop := callP E f_strings_makeASCIISet [vs cK] = some (.tup [.agg asc, vb true])
theorem fn_asc {E : Prog} (hE : Std E fns) (b : UInt8) : callL E f_strings_asciiSet_contains [.ref 0 0 0 0, .v (.int .u8 (b.toNat : Int))] [] [.box asc] = some (vb (isCmp b), [.box asc]) := by
  have hb := b.toNat_lt
  have h0 : (0 : Int) ≤ (b.toNat : Int) := by omega
  have h1 : (b.toNat : Int) < 256 := by omega
  have c256 : ((256 : Nat) : Int) = 256 := rfl
  rw [hE.runN rfl rfl]
  simp only [go_sem, reduceIte, reduceCtorEq, Nat.reduceEqDiff, Nat.reduceAdd, Nat.reduceSub, Nat.reduceLT, Nat.reduceLeDiff, Nat.reduceBEq, Nat.reduceMul, Nat.reduceBNe, Int.reduceEq, Int.reduceLT, Int.reduceLE, Int.reduceNe, Int.reduceToNat, ir_strings_asciiSet_contains, ev_iap, iapF, c256, h0, h1, asc_ids, asc_rens, asc_belows, asc_at, liveRef]
theorem long_loop {E : Prog} (hE : Std E fns) {L : Env × Store → Option (Sig × Env × Store)} (l : List UInt8) (hl : l.length < 9223372036854775807)
    (hL : ∀ e st, L (e, st) = (IR.runL E.glob (callL E) [] ir_strings_IndexAny_L1 e st).bind (seqK fun e st => L (compact [] 1 [0, 6, 8] e st))) :
    ∀ (rest : List UInt8) (i : Nat), l.drop i = rest → i ≤ l.length → L ([(0, vs (BA l)), (6, .ref 0 0 0 0), (8, vi i)], [.box asc]) = match ixL rest with
      | some j => some (.ret, [(4, vi ((i + j : Nat) : Int))], [.box asc])
      | none => some (.exit 0, [], [.box asc])
  | [], i, h, hi => by
    have h1 := drop_nil' h hi
    have h2 : ((i : Int) < ((BA l).size : Int)) = False := by rw [ba_size]; simp; omega
    rw [hL]
    simp only [go_sem, reduceIte, reduceCtorEq, Nat.reduceEqDiff, Nat.reduceAdd, Nat.reduceSub, Nat.reduceLT, Nat.reduceLeDiff, Nat.reduceBEq, Nat.reduceMul, Nat.reduceBNe, Int.reduceEq, Int.reduceLT, Int.reduceLE, Int.reduceNe, Int.reduceToNat, ir_strings_IndexAny_L1, h2, asc_ids, asc_rens, asc_belows, ixL]
  | x :: rest, i, h, hi => by
    obtain ⟨h1, h2, h3, h4, h5⟩ := drop_cons h
    have h6 := wrap_succ (i := i) (by omega)
    have ih := long_loop hE l hl hL rest (i + 1) h2 h4
    have h7 : ((i : Int) < ((BA l).size : Int)) = True := by rw [ba_size]; exact eq_true h3
    have hx : l.getD i 0 = x := by rw [List.getD_eq_getElem?_getD, h1]; rfl
    have hb := byteAt_ba (l := l) (i := i) (by omega)
    rw [hx] at hb
    have hc := fn_asc hE x
    rw [hL, ixL]
    cases c : isCmp x
    · rw [c] at hc
      simp only [go_sem, reduceIte, reduceCtorEq, Nat.reduceEqDiff, Nat.reduceAdd, Nat.reduceSub, Nat.reduceLT, Nat.reduceLeDiff, Nat.reduceBEq, Nat.reduceMul, Nat.reduceBNe, Int.reduceEq, Int.reduceLT, Int.reduceLE, Int.reduceNe, Int.reduceToNat, ir_strings_IndexAny_L1, h7, hb, hc, asc_ids, asc_rens, asc_belows, h6, ih]
      cases ixL rest with
      | none => rfl
      | some j => simp only [Option.map_some]; congr 6; omega
    · rw [c] at hc
      simp only [go_sem, reduceIte, reduceCtorEq, Nat.reduceEqDiff, Nat.reduceAdd, Nat.reduceSub, Nat.reduceLT, Nat.reduceLeDiff, Nat.reduceBEq, Nat.reduceMul, Nat.reduceBNe, Int.reduceEq, Int.reduceLT, Int.reduceLE, Int.reduceNe, Int.reduceToNat, ir_strings_IndexAny_L1, h7, hb, hc, asc_ids, asc_rens, asc_belows]
def ixI (l : List UInt8) : Int := match ixL l with | some j => (j : Int) | none => -1
theorem fn_should {E : Prog} (hE : Std E fns) (n : Int) : callP E f_strings_shouldUseASCIISet [vi n] = some (vb (decide (8 < n))) := by
  rw [hE.run rfl rfl]
  simp only [go_sem, reduceIte, reduceCtorEq, Nat.reduceEqDiff, Nat.reduceAdd, Nat.reduceSub, Nat.reduceLT, Nat.reduceLeDiff, Nat.reduceBEq, Nat.reduceMul, Nat.reduceBNe, Int.reduceEq, Int.reduceLT, Int.reduceLE, Int.reduceNe, Int.reduceToNat, ir_strings_shouldUseASCIISet]
set_option maxRecDepth 100000 in
set_option maxHeartbeats 8000000 in
theorem fn_indexAny {E : Prog} (hE : Std E fns) (hib : IBOK E) (has : ASOK E) (l : List UInt8) (hl : l.length < 9223372036854775807) : callP E f_strings_IndexAny [vs (BA l), vs cK] = some (vi (ixI l)) := by
  have hs := fn_should hE ((BA l).size : Int)
  have k1 : (cK = ⟨#[]⟩) = False := by simp [cK]
  have k2 : ((cK.size : Int) = 1) = False := by rw [cK_size]; simp
  have has' : callP E f_strings_makeASCIISet [vs cK] = some (.tup [.agg asc, vb true]) := has
  rw [hE.run rfl rfl]
  unfold ixI
  by_cases h8 : (8 : Int) < ((BA l).size : Int)
  · rw [decide_eq_true h8] at hs
    have h := long_loop hE l hl (loopL_eq (IR.runL E.glob (callL E) [] ir_strings_IndexAny_L1) (compact [] 1 [0, 6, 8])) l 0 rfl (by omega)
    simp only [Int.natCast_zero, Nat.zero_add] at h
    cases hx : ixL l with
    | none =>
      rw [hx] at h
      dsimp only at h
      simp only [go_sem, reduceIte, reduceCtorEq, Nat.reduceEqDiff, Nat.reduceAdd, Nat.reduceSub, Nat.reduceLT, Nat.reduceLeDiff, Nat.reduceBEq, Nat.reduceMul, Nat.reduceBNe, Int.reduceEq, Int.reduceLT, Int.reduceLE, Int.reduceNe, Int.reduceToNat, ir_strings_IndexAny, k1, k2, hs, has', asc_len, asc_ids, asc_rens, asc_belows, h]
    | some j =>
      rw [hx] at h
      dsimp only at h
      simp only [go_sem, reduceIte, reduceCtorEq, Nat.reduceEqDiff, Nat.reduceAdd, Nat.reduceSub, Nat.reduceLT, Nat.reduceLeDiff, Nat.reduceBEq, Nat.reduceMul, Nat.reduceBNe, Int.reduceEq, Int.reduceLT, Int.reduceLE, Int.reduceNe, Int.reduceToNat, ir_strings_IndexAny, k1, k2, hs, has', asc_len, asc_ids, asc_rens, asc_belows, h]
  · rw [decide_eq_false h8] at hs
    obtain ⟨q, h⟩ := any_loop hE hib l (loopL_eq (IR.runL E.glob (callL E) [] ir_strings_IndexAny_L0) (compact [] 1 [1, 45])) l.length 0 (by omega)
    have e : ixF l 0 = ixL l := by unfold ixF; rw [List.drop_zero]; cases ixL l <;> rfl
    rw [e] at h
    cases hx : ixL l with
    | none =>
      rw [hx] at h
      dsimp only at h
      simp only [go_sem, reduceIte, reduceCtorEq, Nat.reduceEqDiff, Nat.reduceAdd, Nat.reduceSub, Nat.reduceLT, Nat.reduceLeDiff, Nat.reduceBEq, Nat.reduceMul, Nat.reduceBNe, Int.reduceEq, Int.reduceLT, Int.reduceLE, Int.reduceNe, Int.reduceToNat, ir_strings_IndexAny, k1, k2, hs, h]
    | some j =>
      rw [hx] at h
      dsimp only at h
      simp only [go_sem, reduceIte, reduceCtorEq, Nat.reduceEqDiff, Nat.reduceAdd, Nat.reduceSub, Nat.reduceLT, Nat.reduceLeDiff, Nat.reduceBEq, Nat.reduceMul, Nat.reduceBNe, Int.reduceEq, Int.reduceLT, Int.reduceLE, Int.reduceNe, Int.reduceToNat, ir_strings_IndexAny, k1, k2, hs, h]
theorem ixL_none : ∀ {l : List UInt8}, ixL l = none → l.takeWhile (fun b => !isCmp b) = l ∧ l.dropWhile (fun b => !isCmp b) = []
  | [], _ => ⟨rfl, rfl⟩
  | b :: l, h => by
    unfold ixL at h
    split at h
    · cases h
    · rename_i hb
      have h2 : ixL l = none := by cases hx : ixL l with
        | none => rfl
        | some j => rw [hx] at h; cases h
      obtain ⟨i1, i2⟩ := ixL_none h2
      have hb' : (!isCmp b) = true := by simpa using hb
      rw [List.takeWhile_cons, List.dropWhile_cons, hb', if_pos rfl, if_pos rfl, i1, i2]
      exact ⟨rfl, rfl⟩
theorem ixL_some : ∀ {l : List UInt8} {j : Nat}, ixL l = some j → l.takeWhile (fun b => !isCmp b) = l.take j ∧ l.dropWhile (fun b => !isCmp b) = l.getD j 0 :: l.drop (j + 1) ∧ j < l.length
  | [], j, h => by cases h
  | b :: l, j, h => by
    unfold ixL at h
    split at h
    · rename_i hb
      cases h
      have hb' : (!isCmp b) = false := by rw [hb]; rfl
      rw [List.takeWhile_cons, List.dropWhile_cons, hb', if_neg (by decide), if_neg (by decide)]
      exact ⟨rfl, rfl, by simp⟩
    · rename_i hb
      cases hx : ixL l with
      | none => rw [hx] at h; cases h
      | some k =>
        rw [hx] at h
        simp only [Option.map_some, Option.some.injEq] at h
        subst h
        obtain ⟨i1, i2, i3⟩ := ixL_some hx
        have hb' : (!isCmp b) = true := by simpa using hb
        rw [List.takeWhile_cons, List.dropWhile_cons, hb', if_pos rfl, if_pos rfl, i1, i2]
        exact ⟨rfl, rfl, by simpa using i3⟩
/-- What a term's reading answers. -/
def termR (w : List UInt8) : AV := .tup [.agg (termS w).1.cells, vi (termS w).2]
set_option maxHeartbeats 8000000 in
theorem fn_term {E : Prog} (hE : Std E fns) (hv : VOK E) (hp : PHOK E) (hib : IBOK E) (has : ASOK E) (w : List UInt8) (hl : w.length < 4611686018427387904) : callP E f_pick_term [vs (BA w)] = some (termR w) := by
  have main : ∀ (nt : Bool) (r : List UInt8), r.length ≤ w.length → callP E f_strings_CutPrefix [vs (BA w), vs ⟨#[33]⟩] = some (.tup [vs (BA r), vb nt]) → termS w = (if nt = true ∧ r = [] then (t0, 14) else restS nt r) → callP E f_pick_term [vs (BA w)] = some (termR w) := by
    intro nt r hr hc ht
    have hix := fn_indexAny hE hib has r (by omega)
    have hnil : (BA r = ⟨#[]⟩) = (r = []) := propext ba_nil
    rw [hE.run rfl rfl]
    unfold termR
    rw [ht]
    simp only [cK] at hix
    unfold ixI at hix
    by_cases hn : nt = true ∧ r = []
    · obtain ⟨rfl, rfl⟩ := hn
      have hx : ixL [] = none := rfl
      rw [hx] at hix
      dsimp only at hix
      rw [if_pos ⟨rfl, rfl⟩]
      simp only [go_sem, reduceIte, reduceCtorEq, Nat.reduceEqDiff, Nat.reduceAdd, Nat.reduceSub, Nat.reduceLT, Nat.reduceLeDiff, Nat.reduceBEq, Nat.reduceMul, Nat.reduceBNe, Int.reduceEq, Int.reduceLT, Int.reduceLE, Int.reduceNe, Int.reduceToNat, ir_pick_term, hc, hix, hnil, t0, TermT.cells]
    · rw [if_neg hn]
      have hn2 : ¬ (r = [] ∧ nt = true) := fun q => hn ⟨q.2, q.1⟩
      have e0 : BA [] = ⟨#[]⟩ := rfl
      cases hx : ixL r with
      | none =>
        obtain ⟨k1, k2⟩ := ixL_none hx
        rw [hx] at hix
        dsimp only at hix
        have hnum := fn_numbers hE (BA r)
        have hwd := fn_words hE (BA r)
        unfold restS
        rw [k1, k2]
        dsimp only
        have hk9 := (cmp_of (BA r)).le
        generalize fieldK (BA r) = k at *
        cases hnt : nt <;> rw [hnt] at hc hn2
        · by_cases hk : k = 9
          · subst hk
            simp only [go_sem, reduceIte, reduceCtorEq, Nat.reduceEqDiff, Nat.reduceAdd, Nat.reduceSub, Nat.reduceLT, Nat.reduceLeDiff, Nat.reduceBEq, Nat.reduceMul, Nat.reduceBNe, Int.reduceEq, Int.reduceLT, Int.reduceLE, Int.reduceNe, Int.reduceToNat, ite_self, ir_pick_term, hc, hix, hnil, hnum, hwd, t0, TermT.cells]
          · by_cases h6 : k < 6
            · simp only [go_sem, reduceIte, reduceCtorEq, Nat.reduceEqDiff, Nat.reduceAdd, Nat.reduceSub, Nat.reduceLT, Nat.reduceLeDiff, Nat.reduceBEq, Nat.reduceMul, Nat.reduceBNe, Int.reduceEq, Int.reduceLT, Int.reduceLE, Int.reduceNe, Int.reduceToNat, ite_self, ir_pick_term, hc, hix, hnil, hnum, hwd, hk, h6, t0, TermT.cells]
            · have h6' : 6 ≤ k := by omega
              simp only [go_sem, reduceIte, reduceCtorEq, Nat.reduceEqDiff, Nat.reduceAdd, Nat.reduceSub, Nat.reduceLT, Nat.reduceLeDiff, Nat.reduceBEq, Nat.reduceMul, Nat.reduceBNe, Int.reduceEq, Int.reduceLT, Int.reduceLE, Int.reduceNe, Int.reduceToNat, ite_self, ir_pick_term, hc, hix, hnil, hnum, hwd, hk, h6, h6', t0, TermT.cells]
        · have hr0 : ¬ r = [] := fun q => hn2 ⟨q, rfl⟩
          by_cases hk : k = 9
          · subst hk
            simp only [go_sem, reduceIte, reduceCtorEq, Nat.reduceEqDiff, Nat.reduceAdd, Nat.reduceSub, Nat.reduceLT, Nat.reduceLeDiff, Nat.reduceBEq, Nat.reduceMul, Nat.reduceBNe, Int.reduceEq, Int.reduceLT, Int.reduceLE, Int.reduceNe, Int.reduceToNat, ir_pick_term, hc, hix, hnil, hr0, hnum, hwd, t0, TermT.cells]
          · by_cases h6 : k < 6
            · simp only [go_sem, reduceIte, reduceCtorEq, Nat.reduceEqDiff, Nat.reduceAdd, Nat.reduceSub, Nat.reduceLT, Nat.reduceLeDiff, Nat.reduceBEq, Nat.reduceMul, Nat.reduceBNe, Int.reduceEq, Int.reduceLT, Int.reduceLE, Int.reduceNe, Int.reduceToNat, ir_pick_term, hc, hix, hnil, hr0, hnum, hwd, hk, h6, t0, TermT.cells]
            · have h6' : 6 ≤ k := by omega
              simp only [go_sem, reduceIte, reduceCtorEq, Nat.reduceEqDiff, Nat.reduceAdd, Nat.reduceSub, Nat.reduceLT, Nat.reduceLeDiff, Nat.reduceBEq, Nat.reduceMul, Nat.reduceBNe, Int.reduceEq, Int.reduceLT, Int.reduceLE, Int.reduceNe, Int.reduceToNat, ir_pick_term, hc, hix, hnil, hr0, hnum, hwd, hk, h6, h6', t0, TermT.cells]
      | some j =>
        obtain ⟨k1, k2, k3⟩ := ixL_some hx
        rw [hx] at hix
        dsimp only at hix
        have hnum := fn_numbers hE (BA (r.take j))
        have hwd := fn_words hE (BA (r.take j))
        have hr0 : ¬ r = [] := fun q => by rw [q] at k3; simp at k3
        have hj0 : (0 : Int) ≤ (j : Int) := by omega
        have hjn : ¬ (j : Int) < 0 := by omega
        have ex1 : (BA r).extract 0 j = BA (r.take j) := by rw [extract_ba]; rfl
        have hb := byteAt_ba (l := r) (i := j) k3
        have s1 : (j : Int) ≤ ((BA r).size : Int) := by rw [ba_size]; omega
        have w1 := wrap_succ (i := j) (by omega)
        have s2 : ((j + 1 : Nat) : Int) ≤ ((BA r).size : Int) := by rw [ba_size]; omega
        have s3 : (0 : Int) ≤ ((j + 1 : Nat) : Int) := by omega
        have ex2 : (BA r).extract (j + 1) (BA r).size = BA (r.drop (j + 1)) := by rw [extract_ba, ba_size, List.take_of_length_le (by simp)]
        have hc61 : (((r.getD j 0).toNat : Int) = 61) = (r.getD j 0 = 61) := by
          apply propext
          constructor
          · intro h
            have : (r.getD j 0).toNat = (61 : UInt8).toNat := by show _ = 61; omega
            exact UInt8.toNat_inj.1 this
          · intro h; rw [h]; rfl
        have hlt := (r.getD j 0).toNat_lt
        have w2 : IntKind.i64.wrap ((r.getD j 0).toNat : Int) = ((r.getD j 0).toNat : Int) := IntWalk.i64_in _ (by omega)
        have w3 : IntKind.i64.wrap (((r.getD j 0).toNat : Int) - 61) = ((r.getD j 0).toNat : Int) - 61 := IntWalk.i64_in _ (by omega)
        have hval := fn_value hE hv hp nt (BA (r.take j)) (((r.getD j 0).toNat : Int) - 61) (r.drop (j + 1)) (by simp; omega)
        unfold restS
        rw [k1, k2]
        dsimp only
        rw [valueS_eq]
        have hk9 := (cmp_of (BA (r.take j))).le
        generalize fieldK (BA (r.take j)) = k at *
        by_cases hk : k = 9
        · subst hk
          simp only [go_sem, reduceIte, reduceCtorEq, Nat.reduceEqDiff, Nat.reduceAdd, Nat.reduceSub, Nat.reduceLT, Nat.reduceLeDiff, Nat.reduceBEq, Nat.reduceMul, Nat.reduceBNe, Int.reduceEq, Int.reduceLT, Int.reduceLE, Int.reduceNe, Int.reduceToNat, ir_pick_term, hc, hix, hnil, hr0, hj0, s1, ex1, hnum, hwd, t0, TermT.cells]
        · by_cases h6 : k < 6
          · have h6' : ¬ 6 ≤ k := by omega
            cases hvk : valK k (r.drop (j + 1)) <;> rw [hvk] at hval <;>
              simp only [go_sem, reduceIte, reduceCtorEq, Nat.reduceEqDiff, Nat.reduceAdd, Nat.reduceSub, Nat.reduceLT, Nat.reduceLeDiff, Nat.reduceBEq, Nat.reduceMul, Nat.reduceBNe, Int.reduceEq, Int.reduceLT, Int.reduceLE, Int.reduceNe, Int.reduceToNat, ir_pick_term, hc, hix, hnil, hr0, hj0, hjn, s1, s2, s3, ex1, ex2, hnum, hwd, hk, h6, h6', hb, w1, w2, w3, hval, t0, Int.le_refl, TermT.cells]
          · have h6' : 6 ≤ k := by omega
            by_cases hc2 : r.getD j 0 = 61
            · have hc3 := eq_true hc2
              cases hvk : valK k (r.drop (j + 1)) <;> rw [hvk] at hval <;>
                simp only [go_sem, reduceIte, reduceCtorEq, Nat.reduceEqDiff, Nat.reduceAdd, Nat.reduceSub, Nat.reduceLT, Nat.reduceLeDiff, Nat.reduceBEq, Nat.reduceMul, Nat.reduceBNe, Int.reduceEq, Int.reduceLT, Int.reduceLE, Int.reduceNe, Int.reduceToNat, ir_pick_term, hc, hix, hnil, hr0, hj0, hjn, s1, s2, s3, ex1, ex2, hnum, hwd, hk, h6, h6', hb, hc61, hc3, w1, w2, w3, hval, t0, Int.le_refl, TermT.cells]
            · simp only [go_sem, reduceIte, reduceCtorEq, Nat.reduceEqDiff, Nat.reduceAdd, Nat.reduceSub, Nat.reduceLT, Nat.reduceLeDiff, Nat.reduceBEq, Nat.reduceMul, Nat.reduceBNe, Int.reduceEq, Int.reduceLT, Int.reduceLE, Int.reduceNe, Int.reduceToNat, ir_pick_term, hc, hix, hnil, hr0, hj0, hjn, s1, s2, s3, ex1, ex2, hnum, hwd, hk, h6, h6', hb, hc61, hc2, w1, w2, w3, t0, TermT.cells]
  cases w with
  | nil => exact main false [] (by simp) (fn_cut_no hE [] (by simp)) (by simp [termS])
  | cons x r =>
    by_cases hx : x = 33
    · subst hx
      exact main true r (by simp) (fn_cut_yes hE r) (by simp only [termS]; simp)
    · refine main false (x :: r) (Nat.le_refl _) (fn_cut_no hE (x :: r) (by simpa using hx)) ?_
      unfold termS
      split
      · rename_i r' q
        simp only [List.cons.injEq] at q
        exact absurd q.1 hx
      · simp
end Go.Proofs.YtgehbkdpodnajaaDoor.Ev
