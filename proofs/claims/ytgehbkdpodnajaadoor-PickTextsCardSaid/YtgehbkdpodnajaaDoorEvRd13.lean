/-
  Picks as texts: the document's One.
-/
import Derived.Test.YtgehbkdpodnajaaDoorEvRd9
set_option linter.unusedVariables false
set_option linter.unusedSimpArgs false
namespace Go.Proofs.YtgehbkdpodnajaaDoor.Ev
attribute [local congr] bind_congr_head
attribute [local go_sem] opd_t opd_c opd_g opd_f opds_nil opds_cons get_cons put_some put_none keep_nil keepC_s keepC_n keep_cons runs_nil runs_cons run_op run_opr run_call run_gand run_gor run_gif seqK_norm seqK_exit seqK_ret blkK_norm blkK_exit blkK_ret runL_skip runL_exit runL_ret runL_items runL_seq runL_cond runL_block runL_loop fin_bind finK_norm finK_ret rvs_nil rvs_cons rv_tmp rv_cell tupOf_one tupOf_nil tupOf_two ev_mov ev_pick ev_alloc ev_box ev_build parts_nil parts_cons fills_nil fills_cons ev_bsl ev_bslo ev_load ev_store ev_nilck ev_bin ev_binb ev_aeq ev_un ev_i2i ev_i2t ev_s2b ev_ext ev_fld ev_idxs ev_fa ev_ias ev_len ev_lens ev_s2s ev_mkf ev_rng ev_nxt ev_app bOf_s pvOf_s agOf_s tpOf_s iOf_s sOf_s ite_bind Option.bind_some Option.bind_none if_true if_false ite_true ite_false argEnv_nil argEnv_cons len_av elems_av ias_av cells_av tuple_av AV.tuple AV.cells faF ldAt liveRef aggOf nilckF binV binI binS binB unV Bool.not_true Bool.not_false List.length_nil List.length_cons List.nil_append List.cons_append List.append_nil List.getElem?_cons_zero List.getElem?_cons_succ List.drop_zero List.drop_succ_cons List.drop_nil List.take_zero List.take_succ_cons List.take_nil List.set_cons_zero List.set_cons_succ compact_same compact_new closedB nodupB envIds ids0 upto visit pos sel AV.ids idss idsss Ob.ids AV.ren rens renss Ob.ren renEnv AV.snap snaps stAt okSt putCells List.all_nil List.all_cons List.contains_nil List.contains_cons Bool.and_true Bool.true_and Bool.and_false Bool.false_and Bool.or_true Bool.true_or Bool.or_false Bool.false_or decide_eq_true_eq decide_true decide_false beq_iff_eq bne_iff_ne beq_self_eq_true Bool.not_eq_true' Bool.false_eq_true eq_self and_self and_true true_and and_false false_and or_true true_or or_false false_or not_true_eq_false not_false_eq_true ne_eq Nat.zero_add Nat.add_zero Nat.le_refl Nat.not_lt_zero Nat.lt_irrefl Nat.zero_le Int.toNat_natCast gt_iff_lt ge_iff_le Int.lt_irrefl Int.natCast_nonneg txt_eq get_nil appF elems belows AV.under AV.flat flats List.length_map List.map_append List.map_cons List.map_nil List.length_append take_map_all List.flatten_cons List.flatten_nil bld_nil imp_false false_imp_iff false_implies true_implies implies_true decide_eq_false_iff_not Nat.one_mul Nat.mul_one idsss_app renss_app belowss_app ev_mn ev_mx ev_isnils ev_sls ev_slx evo_none evo_some vals minV maxV minF maxF backId List.getElem?_nil putAll Option.all_none Option.all_some Option.isSome_some intOf aszI compactV_same compactV_new callP_any callQ_eq callN_any boxQ AV.id? ids_avR ren_av under_av snap_av renss_mapf belowss_mapf idsss_mapf isnilsF List.length_eq_zero_iff int_beq int_bne decide_not slx_av Int.toNat_zero
set_option maxHeartbeats 32000000 in
theorem one_yes {E : Prog} (hE : Std E fns) (r : List UInt8) (hl : r.length < 1000000000) (hr0 : ¬ r = []) :
    callP E f_usufructref36_One [vs (BA (33 :: r))] = some (.tup [.agg (restS true r).1.cells, vi (restS true r).2]) := by
  have hsg := sgn_loop r (by omega) true (loopL_eq (IR.runL E.glob (callL E) [] ir_usufructref36_One_L1) (compact [] 2 [0, 2, 4, 5])) r 0 rfl (by omega)
  simp only [stOne, e0, Int.natCast_zero, Nat.zero_add] at hsg
  have z1 : (BA (33 :: r) = ⟨#[]⟩) = False := by rw [ba_nil]; simp
  have z2 : byteAt (BA (33 :: r)) 0 = some 33 := byteAt_ba (l := 33 :: r) (i := 0) (by simp)
  have z3 : (BA r = ⟨#[]⟩) = False := by rw [ba_nil]; exact eq_false hr0
  have z4 : (BA (33 :: r)).extract 1 (BA (33 :: r)).size = BA r := by rw [extract_ba, ba_size]; simp
  have z5 : ((1 : Int) ≤ ((BA (33 :: r)).size : Int)) = True := by rw [ba_size, List.length_cons]; exact eq_true (by omega)
  have z6 : ((0 : Int) ≤ ((BA (33 :: r)).size : Int)) = True := by rw [ba_size, List.length_cons]; exact eq_true (by omega)
  rw [hE.run rfl rfl]
  cases hx : ixL r with
    | none =>
      obtain ⟨k1, k2⟩ := ixL_none hx
      rw [k1] at hsg
      have hkd := fn_kind hE (BA r)
      have ex1 : (BA r).extract 0 r.length = BA r := by rw [extract_ba]; simp
      unfold restS
      rw [k1, k2]
      dsimp only
      have hk9 := (cmp_of (BA r)).le
      generalize fieldK (BA r) = k at *
      have s1 : ((r.length : Int) ≤ ((BA r).size : Int)) = True := by rw [ba_size]; exact eq_true (Int.le_refl _)
      have s2 : ((r.length : Int) = ((BA r).size : Int)) = True := by rw [ba_size]; exact eq_true rfl
      have s0 : ((0 : Int) ≤ (r.length : Int)) = True := eq_true (by omega)
      have : k = 9 ∨ k < 6 ∨ (¬ k < 6 ∧ k < 9) := by omega
      rcases this with rfl | hk6 | ⟨hk6, hk8⟩
      · simp only [go_sem, reduceIte, reduceCtorEq, Nat.reduceEqDiff, Nat.reduceAdd, Nat.reduceSub, Nat.reduceLT, Nat.reduceLeDiff, Nat.reduceBEq, Nat.reduceMul, Nat.reduceBNe, Int.reduceEq, Int.reduceLT, Int.reduceLE, Int.reduceNe, Int.reduceToNat, ir_usufructref36_One, z1, z2, z3, z4, z5, z6, hsg, hkd, ex1, s0, s1, s2, Int.le_refl, t0, TermT.cells, e0]
      · have hkn : ¬ k = 9 := by omega
        simp only [go_sem, reduceIte, reduceCtorEq, Nat.reduceEqDiff, Nat.reduceAdd, Nat.reduceSub, Nat.reduceLT, Nat.reduceLeDiff, Nat.reduceBEq, Nat.reduceMul, Nat.reduceBNe, Int.reduceEq, Int.reduceLT, Int.reduceLE, Int.reduceNe, Int.reduceToNat, ir_usufructref36_One, z1, z2, z3, z4, z5, z6, hsg, hkd, hk6, hkn, ex1, s0, s1, s2, Int.le_refl, t0, TermT.cells, e0]
      · have hkn : ¬ k = 9 := by omega
        simp only [go_sem, reduceIte, reduceCtorEq, Nat.reduceEqDiff, Nat.reduceAdd, Nat.reduceSub, Nat.reduceLT, Nat.reduceLeDiff, Nat.reduceBEq, Nat.reduceMul, Nat.reduceBNe, Int.reduceEq, Int.reduceLT, Int.reduceLE, Int.reduceNe, Int.reduceToNat, ir_usufructref36_One, z1, z2, z3, z4, z5, z6, hsg, hkd, hk6, hk8, hkn, ex1, s0, s1, s2, Int.le_refl, t0, TermT.cells, e0]
    | some j =>
      obtain ⟨k1, k2, k3⟩ := ixL_some hx
      have hlen : (r.take j).length = j := by rw [List.length_take]; omega
      rw [k1, hlen] at hsg
      have hkd := fn_kind hE (BA (r.take j))
      have ex1 : (BA r).extract 0 j = BA (r.take j) := by rw [extract_ba]; rfl
      have hb := byteAt_ba (l := r) (i := j) k3
      have s0 : ((0 : Int) ≤ (j : Int)) = True := eq_true (by omega)
      have s1 : ((j : Int) ≤ ((BA r).size : Int)) = True := by rw [ba_size]; exact eq_true (by omega)
      have s2 : ((j : Int) = ((BA r).size : Int)) = False := by rw [ba_size]; exact eq_false (by omega)
      have w1 := wrap_succ (i := j) (by omega)
      have s3 : ((0 : Int) ≤ ((j + 1 : Nat) : Int)) = True := eq_true (by omega)
      have s4 : (((j + 1 : Nat) : Int) ≤ ((BA r).size : Int)) = True := by rw [ba_size]; exact eq_true (by omega)
      have ex2 : (BA r).extract (j + 1) (BA r).size = BA (r.drop (j + 1)) := by rw [extract_ba, ba_size, List.take_of_length_le (by simp)]
      have hc3 := cmp_three (drop_cmp r _ _ k2)
      have hvl : (r.drop (j + 1)).length ≤ r.length := by simp
      unfold restS
      rw [k1, k2]
      dsimp only
      rw [valueS_eq]
      have hcm := cmp_of (BA (r.take j))
      have hk9 := hcm.le
      have hgd := fn_refGood hE (BA (r.drop (j + 1))) (by rw [ba_size]; omega)
      have hnum := fn_rnumber hE (r.drop (j + 1))
      generalize hvv : r.drop (j + 1) = v at *
      generalize fieldK (BA (r.take j)) = k at *
      have y1 : (BA v = ⟨#[121, 101, 115]⟩) = (v = wYes) := propext (ba_inj (b := wYes))
      have y2 : (BA v = ⟨#[110, 111]⟩) = (v = wNo) := propext (ba_inj (b := wNo))
      have : k = 9 ∨ k < 6 ∨ k = 6 ∨ k = 7 ∨ k = 8 := by omega
      rcases this with rfl | hk6 | rfl | rfl | rfl
      · simp only [go_sem, reduceIte, reduceCtorEq, Nat.reduceEqDiff, Nat.reduceAdd, Nat.reduceSub, Nat.reduceLT, Nat.reduceLeDiff, Nat.reduceBEq, Nat.reduceMul, Nat.reduceBNe, Int.reduceEq, Int.reduceLT, Int.reduceLE, Int.reduceNe, Int.reduceToNat, ir_usufructref36_One, z1, z2, z3, z4, z5, z6, hsg, hkd, ex1, s0, s1, s2, Int.le_refl, t0, TermT.cells, e0]
      · have hkn : ¬ k = 9 := by omega
        have hk6' : ¬ 6 ≤ k := by omega
        have e6 : ¬ k = 6 := by omega
        have e7 : ¬ k = 7 := by omega
        have e8 : ¬ k = 8 := by omega
        unfold valK valN valT
        rw [if_neg e6, if_neg e7, if_neg e8, if_neg e6, if_neg e7, if_neg e8, if_neg e6]
        cases hn15 : num15 v
        · rw [hn15] at hnum
          simp only [Bool.false_eq_true, if_false] at hnum
          rcases hc3 with hc | hc | hc <;> rw [hc] at hb ⊢ <;>
            (simp only [go_sem, reduceIte, reduceCtorEq, Nat.reduceEqDiff, Nat.reduceAdd, Nat.reduceSub, Nat.reduceLT, Nat.reduceLeDiff, Nat.reduceBEq, Nat.reduceMul, Nat.reduceBNe, Int.reduceEq, Int.reduceLT, Int.reduceLE, Int.reduceNe, Int.reduceToNat, ir_usufructref36_One, z1, z2, z3, z4, z5, z6, hsg, hkd, hk6, hk6', hkn, ex1, ex2, s0, s1, s2, s3, s4, w1, hb, b60, b61, b62, hcm.c6, hcm.c7, hcm.c8, e6, e7, e8, hnum, Int.le_refl, t0, TermT.cells, e0])
        · rw [hn15] at hnum
          simp only [if_true] at hnum
          have hv0 : ((0 : Int) ≤ valD 0 v) = True := eq_true (num15_val hn15).1
          rcases hc3 with hc | hc | hc <;> rw [hc] at hb ⊢ <;>
            (simp only [go_sem, reduceIte, reduceCtorEq, Nat.reduceEqDiff, Nat.reduceAdd, Nat.reduceSub, Nat.reduceLT, Nat.reduceLeDiff, Nat.reduceBEq, Nat.reduceMul, Nat.reduceBNe, Int.reduceEq, Int.reduceLT, Int.reduceLE, Int.reduceNe, Int.reduceToNat, ir_usufructref36_One, z1, z2, z3, z4, z5, z6, hsg, hkd, hk6, hk6', hkn, ex1, ex2, s0, s1, s2, s3, s4, w1, hb, b60, b61, b62, m60, m61, m62, hcm.c6, hcm.c7, hcm.c8, e6, e7, e8, hnum, hv0, Int.le_refl, t0, TermT.cells, e0])
      · unfold valK valN valT
        rw [if_pos rfl, if_pos rfl, if_pos rfl]
        cases hlg : labelGood (BA v) <;> rw [hlg] at hgd <;> rcases hc3 with hc | hc | hc <;> rw [hc] at hb ⊢ <;>
          (simp only [go_sem, reduceIte, reduceCtorEq, Nat.reduceEqDiff, Nat.reduceAdd, Nat.reduceSub, Nat.reduceLT, Nat.reduceLeDiff, Nat.reduceBEq, Nat.reduceMul, Nat.reduceBNe, Int.reduceEq, Int.reduceLT, Int.reduceLE, Int.reduceNe, Int.reduceToNat, ir_usufructref36_One, z1, z2, z3, z4, z5, z6, hsg, hkd, ex1, ex2, s0, s1, s2, s3, s4, w1, hb, b60, b61, b62, m60, m61, m62, hcm.c6, hgd, n60, n62, n61, Int.le_refl, t0, TermT.cells, e0])
      · unfold valT
        rw [if_neg (show ¬ (7 : Nat) = 6 by decide)]
        have hal := ph_all hE v true (r.take j) 0 (loopL_eq (IR.runL E.glob (callL E) [] ir_usufructref36_One_L0) (compact [] 2 [2, 4, 6, 7, 8]))
        have hvk : valK 7 v = (phIx v).isSome := rfl
        rw [hvk]
        simp only [stOne, e0] at hal
        cases hph : (phIx v).isSome <;> rw [hph] at hal <;> rcases hc3 with hc | hc | hc <;> rw [hc] at hb ⊢ <;>
          (simp only [go_sem, reduceIte, reduceCtorEq, Nat.reduceEqDiff, Nat.reduceAdd, Nat.reduceSub, Nat.reduceLT, Nat.reduceLeDiff, Nat.reduceBEq, Nat.reduceMul, Nat.reduceBNe, Int.reduceEq, Int.reduceLT, Int.reduceLE, Int.reduceNe, Int.reduceToNat, ir_usufructref36_One, z1, z2, z3, z4, z5, z6, hsg, hkd, ex1, ex2, s0, s1, s2, s3, s4, w1, hb, b60, b61, b62, m60, m61, m62, hcm.c6, hcm.c7, hal, n60, n62, n61, Int.le_refl, t0, TermT.cells, e0])
      · unfold valK valN valT
        rw [if_neg (show ¬ (8 : Nat) = 6 by decide), if_neg (show ¬ (8 : Nat) = 7 by decide), if_pos rfl, if_neg (show ¬ (8 : Nat) = 6 by decide), if_neg (show ¬ (8 : Nat) = 7 by decide), if_pos rfl, if_neg (show ¬ (8 : Nat) = 6 by decide)]
        by_cases a1 : v = wYes
        · have p1 : (BA v = ⟨#[121, 101, 115]⟩) = True := y1.trans (eq_true a1)
          rw [decide_eq_true a1, if_pos a1]
          rcases hc3 with hc | hc | hc <;> rw [hc] at hb ⊢ <;>
            (simp only [go_sem, reduceIte, reduceCtorEq, Nat.reduceEqDiff, Nat.reduceAdd, Nat.reduceSub, Nat.reduceLT, Nat.reduceLeDiff, Nat.reduceBEq, Nat.reduceMul, Nat.reduceBNe, Int.reduceEq, Int.reduceLT, Int.reduceLE, Int.reduceNe, Int.reduceToNat, ir_usufructref36_One, z1, z2, z3, z4, z5, z6, hsg, hkd, ex1, ex2, s0, s1, s2, s3, s4, w1, hb, b60, b61, b62, m60, m61, m62, hcm.c6, hcm.c7, hcm.c8, p1, n60, n62, n61, Int.le_refl, t0, TermT.cells, e0])
        · have p1 : (BA v = ⟨#[121, 101, 115]⟩) = False := y1.trans (eq_false a1)
          rw [decide_eq_false a1, if_neg a1]
          by_cases a2 : v = wNo
          · have p2 : (BA v = ⟨#[110, 111]⟩) = True := y2.trans (eq_true a2)
            rw [decide_eq_true a2]
            rcases hc3 with hc | hc | hc <;> rw [hc] at hb ⊢ <;>
              (simp only [go_sem, reduceIte, reduceCtorEq, Nat.reduceEqDiff, Nat.reduceAdd, Nat.reduceSub, Nat.reduceLT, Nat.reduceLeDiff, Nat.reduceBEq, Nat.reduceMul, Nat.reduceBNe, Int.reduceEq, Int.reduceLT, Int.reduceLE, Int.reduceNe, Int.reduceToNat, ir_usufructref36_One, z1, z2, z3, z4, z5, z6, hsg, hkd, ex1, ex2, s0, s1, s2, s3, s4, w1, hb, b60, b61, b62, m60, m61, m62, hcm.c6, hcm.c7, hcm.c8, p1, p2, n60, n62, n61, Int.le_refl, t0, TermT.cells, e0])
          · have p2 : (BA v = ⟨#[110, 111]⟩) = False := y2.trans (eq_false a2)
            rw [decide_eq_false a2]
            rcases hc3 with hc | hc | hc <;> rw [hc] at hb ⊢ <;>
              (simp only [go_sem, reduceIte, reduceCtorEq, Nat.reduceEqDiff, Nat.reduceAdd, Nat.reduceSub, Nat.reduceLT, Nat.reduceLeDiff, Nat.reduceBEq, Nat.reduceMul, Nat.reduceBNe, Int.reduceEq, Int.reduceLT, Int.reduceLE, Int.reduceNe, Int.reduceToNat, ir_usufructref36_One, z1, z2, z3, z4, z5, z6, hsg, hkd, ex1, ex2, s0, s1, s2, s3, s4, w1, hb, b60, b61, b62, m60, m61, m62, hcm.c6, hcm.c7, hcm.c8, p1, p2, n60, n62, n61, Int.le_refl, t0, TermT.cells, e0])
end Go.Proofs.YtgehbkdpodnajaaDoor.Ev
