/-
  The document's deed.
-/
import Derived.Test.YtaodpgpepmlfbaaDoorEvSt6
import Derived.Test.YtaodpgpepmlfbaaDoorEvSt11
set_option linter.unusedVariables false
set_option linter.unusedSimpArgs false
namespace Go.Proofs.YtaodpgpepmlfbaaDoor.Ev
attribute [local congr] bind_congr_head
attribute [local go_sem] opd_t opd_c opd_g opd_f opds_nil opds_cons get_cons put_some put_none keep_nil keepC_s keepC_n keep_cons runs_nil runs_cons run_op run_opr run_call run_gand run_gor run_gif seqK_norm seqK_exit seqK_ret blkK_norm blkK_exit blkK_ret runL_skip runL_exit runL_ret runL_items runL_seq runL_cond runL_block runL_loop fin_bind finK_norm finK_ret rvs_nil rvs_cons rv_tmp rv_cell tupOf_one tupOf_nil tupOf_two ev_mov ev_pick ev_alloc ev_box ev_build parts_nil parts_cons fills_nil fills_cons ev_bsl ev_bslo ev_load ev_store ev_nilck ev_bin ev_binb ev_aeq ev_un ev_i2i ev_i2t ev_isnilI nilIF ev_s2b ev_ext ev_fld ev_idxs ev_fa ev_ias ev_len ev_lens ev_s2s ev_mkf ev_rng ev_nxt ev_app bOf_s pvOf_s agOf_s tpOf_s iOf_s sOf_s ite_bind Option.bind_some Option.bind_none if_true if_false ite_true ite_false argEnv_nil argEnv_cons len_av elems_av ias_av cells_av tuple_av AV.tuple AV.cells faF ldAt liveRef aggOf nilckF binV binI binS binB unV Bool.not_true Bool.not_false List.length_nil List.length_cons List.nil_append List.cons_append List.append_nil List.getElem?_cons_zero List.getElem?_cons_succ List.drop_zero List.drop_succ_cons List.drop_nil List.take_zero List.take_succ_cons List.take_nil List.set_cons_zero List.set_cons_succ compact_same compact_new closedB nodupB envIds ids0 upto visit pos sel AV.ids idss idsss Ob.ids AV.ren rens renss Ob.ren renEnv AV.snap snaps stAt okSt putCells List.all_nil List.all_cons List.contains_nil List.contains_cons Bool.and_true Bool.true_and Bool.and_false Bool.false_and Bool.or_true Bool.true_or Bool.or_false Bool.false_or decide_eq_true_eq decide_true decide_false beq_iff_eq bne_iff_ne beq_self_eq_true Bool.not_eq_true' Bool.false_eq_true eq_self and_self and_true true_and and_false false_and or_true true_or or_false false_or not_true_eq_false not_false_eq_true ne_eq Nat.zero_add Nat.add_zero Nat.le_refl Nat.not_lt_zero Nat.lt_irrefl Nat.zero_le Int.toNat_natCast gt_iff_lt ge_iff_le Int.lt_irrefl Int.natCast_nonneg txt_eq get_nil appF elems belows AV.under AV.flat flats List.length_map List.map_append List.map_cons List.map_nil List.length_append take_map_all List.flatten_cons List.flatten_nil bld_nil imp_false false_imp_iff false_implies true_implies implies_true decide_eq_false_iff_not Nat.one_mul Nat.mul_one idsss_app renss_app belowss_app ev_mn ev_mx ev_isnils ev_sls ev_slx evo_none evo_some vals minV maxV minF maxF backId List.getElem?_nil putAll Option.all_none Option.all_some Option.isSome_some intOf aszI compactV_same compactV_new callP_any callQ_eq callN_any boxQ AV.id? ids_avR ren_av under_av snap_av renss_mapf belowss_mapf idsss_mapf isnilsF List.length_eq_zero_iff int_beq int_bne decide_not slx_av Int.toNat_zero ev_mkm ev_lk ev_mup ev_mdl ev_lenm ev_isnilm mpOf_s mapAt_s mapOf_nil mapOf_mp isnilm_nil isnilm_mp lkR Option.getD_some Option.getD_none Option.isSome_none Prim.rdo ev_snp snp_own snp_v
variable {E : Prog}
def RefBoot (E : Prog) : Prop := ∀ (x : Sl FX) (keep : Sl Int), x.list.length ≤ 100000 → (∀ f, f ∈ x.list → okF f) → callP E f_usufructref05_Boot [fv x, keep.av 1 inC] = some (fv (slOf (bootR keep.list x.list 0)))
set_option maxHeartbeats 4000000 in
theorem fn_do (hE : Std E fns) (hB : RefBoot E) (x : Sl FX) (down : Bool) (cap : Int) (a : ActT) (hx : x.list.length ≤ 256) (hs : srtF x.list) (hw : ∀ f, f ∈ x.list → okF f) (ht : (totF x.list : Int) ≤ cap) (hc : 0 ≤ cap ∧ cap ≤ 16777216) (hn : a.nm.size ≤ 100) (hbl : a.b.list.length ≤ 60) :
    ∃ y : Sl FX, y.list = (doS cap x.list down a).1 ∧ callP E f_usufructlaw05_do [fv x, vb down, vi cap, .agg a.cells] = some (.tup [fv y, vb (doS cap x.list down a).2.1, vi (doS cap x.list down a).2.2]) := by
  have hF := fn_Find hE x a.nm (by omega) hs
  have hG := fn_refGood hE a.nm (by omega)
  have hU := fn_Used hE x (by omega) (by omega)
  have hbo := hB x a.kp (by omega) hw
  have hW := fun f => fn_With hE x f (by omega) hs
  have hO := fn_Without hE x a.nm (by omega)
  have hsz := BAl_size a.b.list
  have hwr : IntKind.i64.wrap (cap - (totF x.list : Int)) = cap - (totF x.list : Int) := by rw [IntKind.wrap_i64]; omega
  unfold doS
  by_cases k6 : a.k = 6
  · simp only [k6, if_true]
    cases down with
    | false =>
      refine ⟨x, rfl, ?_⟩
      rw [hE.run rfl rfl]
      simp -implicitDefEqProofs only [go_sem, reduceIte, reduceCtorEq, Nat.reduceEqDiff, Nat.reduceAdd, Nat.reduceSub, Nat.reduceLT, Nat.reduceLeDiff, Nat.reduceBEq, Nat.reduceMul, Nat.reduceBNe, Int.reduceEq, Int.reduceLT, Int.reduceLE, Int.reduceNe, Int.reduceToNat, ir_usufructlaw05_do, ActT.cells, k6, ro_fx, ro_by, ro_in]
    | true =>
      refine ⟨slOf (bootR a.kp.list x.list 0), slOf_list _, ?_⟩
      rw [hE.run rfl rfl]
      simp -implicitDefEqProofs only [go_sem, reduceIte, reduceCtorEq, Nat.reduceEqDiff, Nat.reduceAdd, Nat.reduceSub, Nat.reduceLT, Nat.reduceLeDiff, Nat.reduceBEq, Nat.reduceMul, Nat.reduceBNe, Int.reduceEq, Int.reduceLT, Int.reduceLE, Int.reduceNe, Int.reduceToNat, ir_usufructlaw05_do, ActT.cells, k6, ro_fx, ro_by, ro_in, hbo]
  · rw [if_neg k6]
    by_cases k5 : a.k = 5
    · refine ⟨x, by rw [if_pos k5], ?_⟩
      rw [if_pos k5, hE.run rfl rfl]
      simp -implicitDefEqProofs only [go_sem, reduceIte, reduceCtorEq, Nat.reduceEqDiff, Nat.reduceAdd, Nat.reduceSub, Nat.reduceLT, Nat.reduceLeDiff, Nat.reduceBEq, Nat.reduceMul, Nat.reduceBNe, Int.reduceEq, Int.reduceLT, Int.reduceLE, Int.reduceNe, Int.reduceToNat, ir_usufructlaw05_do, ActT.cells, k5, ro_fx, ro_by, ro_in]
    · rw [if_neg k5]
      cases down with
      | true =>
        refine ⟨x, rfl, ?_⟩
        rw [hE.run rfl rfl]
        simp -implicitDefEqProofs only [go_sem, reduceIte, reduceCtorEq, Nat.reduceEqDiff, Nat.reduceAdd, Nat.reduceSub, Nat.reduceLT, Nat.reduceLeDiff, Nat.reduceBEq, Nat.reduceMul, Nat.reduceBNe, Int.reduceEq, Int.reduceLT, Int.reduceLE, Int.reduceNe, Int.reduceToNat, ir_usufructlaw05_do, ActT.cells, k6, k5, ro_fx, ro_by, ro_in]
      | false =>
        simp only [Bool.false_eq_true, if_false]
        by_cases k1 : a.k ≤ 1
        · rw [if_pos k1]
          cases hg : labelGood a.nm with
          | false =>
            rw [hg] at hG
            refine ⟨x, rfl, ?_⟩
            rw [hE.run rfl rfl]
            simp -implicitDefEqProofs only [go_sem, reduceIte, reduceCtorEq, Nat.reduceEqDiff, Nat.reduceAdd, Nat.reduceSub, Nat.reduceLT, Nat.reduceLeDiff, Nat.reduceBEq, Nat.reduceMul, Nat.reduceBNe, Int.reduceEq, Int.reduceLT, Int.reduceLE, Int.reduceNe, Int.reduceToNat, ir_usufructlaw05_do, ActT.cells, k6, k5, k1, hF, hG, ro_fx, ro_by, ro_in]
          | true =>
            rw [hg] at hG
            simp only [Bool.true_eq_false, if_false]
            cases hf : fndF a.nm x.list with
            | none =>
              have hh : hasF a.nm x.list = false := by have := fnd_has (n := a.nm) (x := x.list); rw [hf] at this; exact this.symm
              rw [hh] at hF
              by_cases c1 : 256 ≤ (x.list.length : Int)
              · refine ⟨x, by simp only [c1, if_true], ?_⟩
                simp only [c1, if_true]
                rw [hE.run rfl rfl]
                simp -implicitDefEqProofs only [go_sem, reduceIte, reduceCtorEq, Nat.reduceEqDiff, Nat.reduceAdd, Nat.reduceSub, Nat.reduceLT, Nat.reduceLeDiff, Nat.reduceBEq, Nat.reduceMul, Nat.reduceBNe, Int.reduceEq, Int.reduceLT, Int.reduceLE, Int.reduceNe, Int.reduceToNat, ir_usufructlaw05_do, ActT.cells, k6, k5, k1, hF, hG, c1, ro_fx, ro_by, ro_in]
              · by_cases c2 : cap - totF x.list < a.b.list.length
                · refine ⟨x, by simp only [c1, c2, if_true, if_false], ?_⟩
                  simp only [c1, c2, if_true, if_false]
                  rw [hE.run rfl rfl]
                  simp -implicitDefEqProofs only [go_sem, reduceIte, reduceCtorEq, Nat.reduceEqDiff, Nat.reduceAdd, Nat.reduceSub, Nat.reduceLT, Nat.reduceLeDiff, Nat.reduceBEq, Nat.reduceMul, Nat.reduceBNe, Int.reduceEq, Int.reduceLT, Int.reduceLE, Int.reduceNe, Int.reduceToNat, ir_usufructlaw05_do, ActT.cells, k6, k5, k1, hF, hG, hU, hwr, c1, c2, ro_fx, ro_by, ro_in]
                · refine ⟨.mk (withF x.list ⟨a.nm, BAl a.b.list, 0, false⟩), by simp only [c1, c2, if_false]; rfl, ?_⟩
                  simp only [c1, c2, if_false]
                  have hw1 := hW ⟨a.nm, BAl a.b.list, 0, false⟩
                  have c3 : ¬ (9223372036854775807 : Int) < (((#[] : Array UInt8).size + (BAl a.b.list).size : Nat) : Int) := by
                    have : (#[] : Array UInt8).size = 0 := rfl
                    omega
                  simp only [FX.cells] at hw1
                  rw [hE.run rfl rfl]
                  simp -implicitDefEqProofs only [go_sem, reduceIte, reduceCtorEq, Nat.reduceEqDiff, Nat.reduceAdd, Nat.reduceSub, Nat.reduceLT, Nat.reduceLeDiff, Nat.reduceBEq, Nat.reduceMul, Nat.reduceBNe, Int.reduceEq, Int.reduceLT, Int.reduceLE, Int.reduceNe, Int.reduceToNat, ir_usufructlaw05_do, ActT.cells, k6, k5, k1, hF, hG, hU, hwr, c1, c2, c3, ev_b2s, b2s_by, nil_app, hw1, ro_fx, ro_by, ro_in]
            | some f =>
              have hh : hasF a.nm x.list = true := by have := fnd_has (n := a.nm) (x := x.list); rw [hf] at this; exact this.symm
              have hget : x.list[lbF a.nm x.list]? = some f := by
                have h1 := lb_get (n := a.nm) hs
                rw [lb_has hs, hh, if_pos rfl, hf] at h1
                exact h1.symm
              obtain ⟨g1, g2⟩ := fnd_mem hf
              rw [hh] at hF
              have hfb := (hw f g1).2
              obtain ⟨fn, fb, fs, fy⟩ := f
              simp only at g2 hfb
              subst g2
              by_cases c2 : cap - totF x.list < a.b.list.length
              · refine ⟨x, by simp only [c2, if_true], ?_⟩
                simp only [c2, if_true]
                rw [hE.run rfl rfl]
                simp -implicitDefEqProofs only [go_sem, reduceIte, reduceCtorEq, Nat.reduceEqDiff, Nat.reduceAdd, Nat.reduceSub, Nat.reduceLT, Nat.reduceLeDiff, Nat.reduceBEq, Nat.reduceMul, Nat.reduceBNe, Int.reduceEq, Int.reduceLT, Int.reduceLE, Int.reduceNe, Int.reduceToNat, ir_usufructlaw05_do, ActT.cells, k6, k5, k1, hF, hG, hU, hwr, c2, ro_fx, ro_by, ro_in]
              · refine ⟨.mk (withF x.list ⟨a.nm, fb ++ BAl a.b.list, fs, fy⟩), by simp only [c2, if_false]; rfl, ?_⟩
                simp only [c2, if_false]
                have hw1 := hW ⟨a.nm, fb ++ BAl a.b.list, fs, fy⟩
                have c3 : ¬ (9223372036854775807 : Int) < ((fb.size + (BAl a.b.list).size : Nat) : Int) := by omega
                simp only [FX.cells] at hw1
                rw [hE.run rfl rfl]
                simp -implicitDefEqProofs only [go_sem, reduceIte, reduceCtorEq, Nat.reduceEqDiff, Nat.reduceAdd, Nat.reduceSub, Nat.reduceLT, Nat.reduceLeDiff, Nat.reduceBEq, Nat.reduceMul, Nat.reduceBNe, Int.reduceEq, Int.reduceLT, Int.reduceLE, Int.reduceNe, Int.reduceToNat, ir_usufructlaw05_do, ActT.cells, FX.cells, k6, k5, k1, hF, hG, hU, hwr, c2, c3, hget, ev_b2s, b2s_by, hw1, ro_fx, ro_by, ro_in]
        · rw [if_neg k1]
          cases hf : fndF a.nm x.list with
          | none =>
            have hh : hasF a.nm x.list = false := by have := fnd_has (n := a.nm) (x := x.list); rw [hf] at this; exact this.symm
            rw [hh] at hF
            refine ⟨x, rfl, ?_⟩
            rw [hE.run rfl rfl]
            simp -implicitDefEqProofs only [go_sem, reduceIte, reduceCtorEq, Nat.reduceEqDiff, Nat.reduceAdd, Nat.reduceSub, Nat.reduceLT, Nat.reduceLeDiff, Nat.reduceBEq, Nat.reduceMul, Nat.reduceBNe, Int.reduceEq, Int.reduceLT, Int.reduceLE, Int.reduceNe, Int.reduceToNat, ir_usufructlaw05_do, ActT.cells, k6, k5, k1, hF, ro_fx, ro_by, ro_in]
          | some f =>
            have hh : hasF a.nm x.list = true := by have := fnd_has (n := a.nm) (x := x.list); rw [hf] at this; exact this.symm
            have hget : x.list[lbF a.nm x.list]? = some f := by
              have h1 := lb_get (n := a.nm) hs
              rw [lb_has hs, hh, if_pos rfl, hf] at h1
              exact h1.symm
            obtain ⟨g1, g2⟩ := fnd_mem hf
            rw [hh] at hF
            have hO2 := hO (List.getElem?_eq_some_iff.1 hget).1
            obtain ⟨fn, fb, fs, fy⟩ := f
            simp only at g2
            subst g2
            simp only
            by_cases k2 : a.k = 2
            · refine ⟨.mk (withF x.list ⟨a.nm, fb, fb.size, true⟩), by simp only [k2, if_true]; rfl, ?_⟩
              simp only [k2, if_true]
              have hw1 := hW ⟨a.nm, fb, fb.size, true⟩
              simp only [FX.cells] at hw1
              rw [hE.run rfl rfl]
              simp -implicitDefEqProofs only [go_sem, reduceIte, reduceCtorEq, Nat.reduceEqDiff, Nat.reduceAdd, Nat.reduceSub, Nat.reduceLT, Nat.reduceLeDiff, Nat.reduceBEq, Nat.reduceMul, Nat.reduceBNe, Int.reduceEq, Int.reduceLT, Int.reduceLE, Int.reduceNe, Int.reduceToNat, ir_usufructlaw05_do, ActT.cells, FX.cells, k2, hF, hget, hw1, ro_fx, ro_by, ro_in]
            · by_cases k3 : a.k = 3
              · by_cases d1 : a.n < 0
                · refine ⟨x, by simp only [k2, k3, d1, true_or, if_true, if_false]; rfl, ?_⟩
                  simp only [k3, d1, true_or, if_true, show ¬ ((3 : Int) = 2) by decide, if_false]
                  rw [hE.run rfl rfl]
                  simp -implicitDefEqProofs only [go_sem, reduceIte, reduceCtorEq, Nat.reduceEqDiff, Nat.reduceAdd, Nat.reduceSub, Nat.reduceLT, Nat.reduceLeDiff, Nat.reduceBEq, Nat.reduceMul, Nat.reduceBNe, Int.reduceEq, Int.reduceLT, Int.reduceLE, Int.reduceNe, Int.reduceToNat, ir_usufructlaw05_do, ActT.cells, FX.cells, k3, d1, hF, hget, ro_fx, ro_by, ro_in]
                · by_cases d2 : (fb.size : Int) < a.n
                  · refine ⟨x, by simp only [k3, d2, or_true, if_true, show ¬ ((3 : Int) = 2) by decide, if_false], ?_⟩
                    simp only [k3, d2, or_true, if_true, show ¬ ((3 : Int) = 2) by decide, if_false]
                    rw [hE.run rfl rfl]
                    simp -implicitDefEqProofs only [go_sem, reduceIte, reduceCtorEq, Nat.reduceEqDiff, Nat.reduceAdd, Nat.reduceSub, Nat.reduceLT, Nat.reduceLeDiff, Nat.reduceBEq, Nat.reduceMul, Nat.reduceBNe, Int.reduceEq, Int.reduceLT, Int.reduceLE, Int.reduceNe, Int.reduceToNat, ir_usufructlaw05_do, ActT.cells, FX.cells, k3, d1, d2, hF, hget, ro_fx, ro_by, ro_in]
                  · have d3 : 0 ≤ a.n := by omega
                    have d4 : a.n ≤ (fb.size : Int) := by omega
                    refine ⟨.mk (withF x.list ⟨a.nm, fb.extract 0 a.n.toNat, if a.n < fs then a.n else fs, fy⟩), by simp only [k3, d1, d2, or_false, if_true, show ¬ ((3 : Int) = 2) by decide, if_false]; rfl, ?_⟩
                    simp only [k3, d1, d2, or_false, if_true, show ¬ ((3 : Int) = 2) by decide, if_false]
                    have hw1 := hW ⟨a.nm, fb.extract 0 a.n.toNat, if a.n < fs then a.n else fs, fy⟩
                    simp only [FX.cells] at hw1
                    rw [hE.run rfl rfl]
                    simp -implicitDefEqProofs only [go_sem, reduceIte, reduceCtorEq, Nat.reduceEqDiff, Nat.reduceAdd, Nat.reduceSub, Nat.reduceLT, Nat.reduceLeDiff, Nat.reduceBEq, Nat.reduceMul, Nat.reduceBNe, Int.reduceEq, Int.reduceLT, Int.reduceLE, Int.reduceNe, Int.reduceToNat, ir_usufructlaw05_do, ActT.cells, FX.cells, k3, d1, d2, d3, d4, hF, hget, hw1, ro_fx, ro_by, ro_in]
              · refine ⟨.mk (withoutF x.list a.nm), by simp only [k2, k3, if_false]; rfl, ?_⟩
                simp only [k2, k3, if_false]
                rw [hE.run rfl rfl]
                simp -implicitDefEqProofs only [go_sem, reduceIte, reduceCtorEq, Nat.reduceEqDiff, Nat.reduceAdd, Nat.reduceSub, Nat.reduceLT, Nat.reduceLeDiff, Nat.reduceBEq, Nat.reduceMul, Nat.reduceBNe, Int.reduceEq, Int.reduceLT, Int.reduceLE, Int.reduceNe, Int.reduceToNat, ir_usufructlaw05_do, ActT.cells, FX.cells, k6, k5, k1, k2, k3, hF, hget, hO2, ro_fx, ro_by, ro_in]
end Go.Proofs.YtaodpgpepmlfbaaDoor.Ev
