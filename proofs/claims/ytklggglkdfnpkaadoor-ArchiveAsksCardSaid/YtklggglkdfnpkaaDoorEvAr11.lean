/-
  Archives: the law ArchiveAdds.
-/
import Derived.Test.YtklggglkdfnpkaaDoorEvAr10
set_option linter.unusedVariables false
set_option linter.unusedSimpArgs false
namespace Go.Proofs.YtklggglkdfnpkaaDoor.Ev
attribute [local congr] bind_congr_head
attribute [local go_sem] opd_t opd_c opd_g opd_f opds_nil opds_cons get_cons put_some put_none keep_nil keepC_s keepC_n keep_cons runs_nil runs_cons run_op run_opr run_call run_gand run_gor run_gif seqK_norm seqK_exit seqK_ret blkK_norm blkK_exit blkK_ret runL_skip runL_exit runL_ret runL_items runL_seq runL_cond runL_block runL_loop fin_bind finK_norm finK_ret rvs_nil rvs_cons rv_tmp rv_cell tupOf_one tupOf_nil tupOf_two ev_mov ev_pick ev_alloc ev_box ev_build parts_nil parts_cons fills_nil fills_cons ev_bsl ev_bslo ev_load ev_store ev_nilck ev_bin ev_binb ev_aeq ev_un ev_i2i ev_i2t ev_isnilI nilIF ev_s2b ev_ext ev_fld ev_idxs ev_fa ev_ias ev_len ev_lens ev_s2s ev_mkf ev_rng ev_nxt ev_app bOf_s pvOf_s agOf_s tpOf_s iOf_s sOf_s ite_bind Option.bind_some Option.bind_none if_true if_false ite_true ite_false argEnv_nil argEnv_cons len_av elems_av ias_av cells_av tuple_av AV.tuple AV.cells faF ldAt liveRef aggOf nilckF binV binI binS binB unV Bool.not_true Bool.not_false List.length_nil List.length_cons List.nil_append List.cons_append List.append_nil List.getElem?_cons_zero List.getElem?_cons_succ List.drop_zero List.drop_succ_cons List.drop_nil List.take_zero List.take_succ_cons List.take_nil List.set_cons_zero List.set_cons_succ compact_same compact_new closedB nodupB envIds ids0 upto visit pos sel AV.ids idss idsss Ob.ids AV.ren rens renss Ob.ren renEnv AV.snap snaps stAt okSt putCells List.all_nil List.all_cons List.contains_nil List.contains_cons Bool.and_true Bool.true_and Bool.and_false Bool.false_and Bool.or_true Bool.true_or Bool.or_false Bool.false_or decide_eq_true_eq decide_true decide_false beq_iff_eq bne_iff_ne beq_self_eq_true Bool.not_eq_true' Bool.false_eq_true eq_self and_self and_true true_and and_false false_and or_true true_or or_false false_or not_true_eq_false not_false_eq_true ne_eq Nat.zero_add Nat.add_zero Nat.le_refl Nat.not_lt_zero Nat.lt_irrefl Nat.zero_le Int.toNat_natCast gt_iff_lt ge_iff_le Int.lt_irrefl Int.natCast_nonneg txt_eq get_nil appF elems belows AV.under AV.flat flats List.length_map List.map_append List.map_cons List.map_nil List.length_append take_map_all List.flatten_cons List.flatten_nil bld_nil imp_false false_imp_iff false_implies true_implies implies_true decide_eq_false_iff_not Nat.one_mul Nat.mul_one idsss_app renss_app belowss_app ev_mn ev_mx ev_isnils ev_sls ev_slx evo_none evo_some vals minV maxV minF maxF backId List.getElem?_nil putAll Option.all_none Option.all_some Option.isSome_some intOf aszI compactV_same compactV_new callP_any callQ_eq callN_any boxQ AV.id? ids_avR ren_av under_av snap_av renss_mapf belowss_mapf idsss_mapf isnilsF List.length_eq_zero_iff int_beq int_bne decide_not slx_av Int.toNat_zero ev_mkm ev_lk ev_mup ev_mdl ev_lenm ev_isnilm mpOf_s mapAt_s mapOf_nil mapOf_mp isnilm_nil isnilm_mp lkR Option.getD_some Option.getD_none Option.isSome_none Prim.rdo ev_snp snp_own snp_v
theorem goodR_srt' {l : List RowT} (h : goodR none l = true) : srt l := (goodR_srt h).1
/-- What merging comes to: rows, and an error's number. -/
def mergeR (a b : List RowT) : Sl RowT × Int := if (goodR none a && goodR none b) = true then (match refMS a a b with | none => (.nil, 6) | some o => (slOf o, 0)) else (.nil, 3)
theorem snap_tupO (q : Store) (n : Int) : AV.snap (compactV [] 0 (.tup [.v (.slice none 0 0), vi n], q)).2 (compactV [] 0 (.tup [.v (.slice none 0 0), vi n], q)).1 = some (.tup [.v (.slice none 0 0), vi n]) := by
  by_cases h : 0 < q.length
  · rw [compactV_new h]
    split <;> rfl
  · rw [compactV_same (by omega)]
    rfl
theorem fn_merge {E : Prog} (hE : Std E fns) (hv : VOK E) (a b : Sl RowT) (ha : a.list.length ≤ 100) (hb : b.list.length ≤ 100) (hsa : ∀ r, r ∈ a.list → r.de.size < 2305843009213693952) (hsb : ∀ r, r ∈ b.list → r.de.size < 2305843009213693952) :
    callP E f_archive_Merge [rv a, rv b] = some (.tup [rv (mergeR a.list b.list).1, vi (mergeR a.list b.list).2]) := by
  have h1 := fn_good31 hE hv a (by omega) hsa
  have h2 := fn_good31 hE hv b (by omega) hsb
  rw [hE.run rfl rfl]
  unfold mergeR
  cases hg : goodR none a.list
  · rw [hg] at h1
    simp -implicitDefEqProofs only [go_sem, reduceIte, reduceCtorEq, Nat.reduceEqDiff, Nat.reduceAdd, Nat.reduceSub, Nat.reduceLT, Nat.reduceLeDiff, Nat.reduceBEq, Nat.reduceMul, Nat.reduceBNe, Int.reduceEq, Int.reduceLT, Int.reduceLE, Int.reduceNe, Int.reduceToNat, ir_archive_Merge, h1, ro_row, tupOf, avN]
  · rw [hg] at h1
    cases hg2 : goodR none b.list
    · rw [hg2] at h2
      simp -implicitDefEqProofs only [go_sem, reduceIte, reduceCtorEq, Nat.reduceEqDiff, Nat.reduceAdd, Nat.reduceSub, Nat.reduceLT, Nat.reduceLeDiff, Nat.reduceBEq, Nat.reduceMul, Nat.reduceBNe, Int.reduceEq, Int.reduceLT, Int.reduceLE, Int.reduceNe, Int.reduceToNat, ir_archive_Merge, h1, h2, ro_row, tupOf, avN]
    · rw [hg2] at h2
      obtain ⟨g', q, ih⟩ := merge_loop (loopL_eq (IR.runL E.glob (callL E) [] ir_archive_Merge_L0) (compact [] 0 [0, 1, 6])) (a.list.length + b.list.length) a b [] 0 (Nat.le_refl _) (by simp; omega)
      rw [merge_ref (Nat.le_refl _) (goodR_srt' hg) (goodR_srt' hg2)] at ih
      simp only [bld_nil, List.nil_append] at ih
      cases hm : refMS a.list a.list b.list with
      | none =>
        rw [hm] at ih
        dsimp only at ih
        simp -implicitDefEqProofs only [go_sem, reduceIte, reduceCtorEq, Nat.reduceEqDiff, Nat.reduceAdd, Nat.reduceSub, Nat.reduceLT, Nat.reduceLeDiff, Nat.reduceBEq, Nat.reduceMul, Nat.reduceBNe, Int.reduceEq, Int.reduceLT, Int.reduceLE, Int.reduceNe, Int.reduceToNat, ir_archive_Merge, h1, h2, ro_row, tupOf, ih, avN, snap_tupO]
      | some o =>
        rw [hm] at ih
        dsimp only at ih
        by_cases hne : o = []
        · subst hne
          simp only [bld_nil] at ih
          simp -implicitDefEqProofs only [go_sem, reduceIte, reduceCtorEq, Nat.reduceEqDiff, Nat.reduceAdd, Nat.reduceSub, Nat.reduceLT, Nat.reduceLeDiff, Nat.reduceBEq, Nat.reduceMul, Nat.reduceBNe, Int.reduceEq, Int.reduceLT, Int.reduceLE, Int.reduceNe, Int.reduceToNat, ir_archive_Merge, h1, h2, ro_row, tupOf, ih, avN, slOf]
        · simp only [bld_ne hne] at ih
          simp -implicitDefEqProofs only [go_sem, reduceIte, reduceCtorEq, Nat.reduceEqDiff, Nat.reduceAdd, Nat.reduceSub, Nat.reduceLT, Nat.reduceLeDiff, Nat.reduceBEq, Nat.reduceMul, Nat.reduceBNe, Int.reduceEq, Int.reduceLT, Int.reduceLE, Int.reduceNe, Int.reduceToNat, ir_archive_Merge, h1, h2, ro_row, tupOf, ih, avM, slOf_ne hne]
/-- The document's: its rows may be a row of no row. -/
def mergeD (a b : List RowT) : Sl RowT × Int := if (goodR none a && goodR none b) = true then (match refMS a a b with | none => (.nil, 6) | some o => (.mk o, 0)) else (.nil, 3)
theorem fn_refMerge' {E : Prog} (hE : Std E fns) (a b : Sl RowT) (ha : a.list.length ≤ 100) (hb : b.list.length ≤ 100) (hsa : ∀ r, r ∈ a.list → r.de.size < 2305843009213693952) (hsb : ∀ r, r ∈ b.list → r.de.size < 2305843009213693952) :
    callP E f_usufructref31_Merge [rv a, rv b] = some (.tup [rv (mergeD a.list b.list).1, vi (mergeD a.list b.list).2]) := by
  rw [fn_refMerge hE a b ha hb hsa hsb]
  unfold mergeD
  split
  · cases refMS a.list a.list b.list <;> rfl
  · rfl
theorem mergeR_facts (a b : List RowT) : (mergeR a b).2 = (mergeD a b).2 ∧ (mergeR a b).1.list = (mergeD a b).1.list ∧ (mergeR b a).2 = (mergeR a b).2 ∧ (mergeR b a).1.list = (mergeR a b).1.list ∧ (mergeR a b).1.list.length ≤ a.length + b.length := by
  have hl : ∀ (b out o : List RowT), refMS a out b = some o → o.length ≤ out.length + b.length := by
    intro b
    induction b with
    | nil => intro out o h; simp only [refMS, Option.some.injEq] at h; subst h; simp
    | cons y b ih =>
      intro out o h
      simp only [refMS] at h
      split at h
      · cases h
      · have := ih _ _ h
        have hp := putS_len out y
        split at this <;> simp only [List.length_cons] <;> omega
  unfold mergeR mergeD
  cases hg : goodR none a
  · simp only [Bool.and_false, Bool.false_and, Bool.false_eq_true, if_false]
    exact ⟨trivial, trivial, trivial, trivial, by simp [Sl.list]⟩
  · cases hg2 : goodR none b
    · simp only [Bool.and_false, Bool.false_and, Bool.false_eq_true, if_false]
      exact ⟨trivial, trivial, trivial, trivial, by simp [Sl.list]⟩
    · simp only [Bool.and_self, if_true]
      have ha := goodR_srt' hg
      have hb := goodR_srt' hg2
      have e : refMS b b a = refMS a a b := by
        rw [← merge_ref (n := a.length + b.length) (by omega) hb ha, ← merge_ref (n := a.length + b.length) (by omega) ha hb]
        exact merge_symm (by omega) hb ha
      rw [e]
      cases hm : refMS a a b with
      | none => exact ⟨rfl, rfl, rfl, rfl, by simp [Sl.list]⟩
      | some o =>
        have := hl b a o hm
        refine ⟨rfl, ?_, rfl, rfl, ?_⟩
        · dsimp only
          rw [slOf_list]; rfl
        · dsimp only
          rw [slOf_list]; exact this
theorem addS_len (l : List RowT) (r : RowT) : (addS l r).1.list.length ≤ l.length + 1 := by
  unfold addS
  split
  · split
    · simp [Sl.list]
    · simp only [Sl.list]; rw [putS_len]; omega
  · simp [Sl.list]
set_option maxHeartbeats 4000000 in
theorem fn_lawAdds {E : Prog} (hE : Std E fns) (hv : VOK E) (hin : INOK E) (hw : callP E f_usufructlaw31_awake [] = some (vb true)) (a b : Sl RowT) (r : RowT) :
    callP E f_usufructlaw31_ArchiveAdds [rv a, rv b, .agg r.cells] = some (vb true) := by
  have h1 := fn_short hE a
  have h2 := fn_short hE b
  have size_of : ∀ {l : List RowT}, shortR l = true → l.length ≤ 20 ∧ ∀ x, x ∈ l → x.de.size < 2305843009213693952 := by
    intro l h
    unfold shortR at h
    simp only [Bool.and_eq_true, decide_eq_true_eq, Bool.not_eq_true'] at h
    refine ⟨h.1, fun x hx => ?_⟩
    have := List.any_eq_false.1 h.2 x hx
    simp only [decide_eq_true_eq] at this
    omega
  rw [hE.run rfl rfl]
  cases hs : shortR a.list
  · rw [hs] at h1
    simp -implicitDefEqProofs only [go_sem, reduceIte, reduceCtorEq, Nat.reduceEqDiff, Nat.reduceAdd, Nat.reduceSub, Nat.reduceLT, Nat.reduceLeDiff, Nat.reduceBEq, Nat.reduceMul, Nat.reduceBNe, Int.reduceEq, Int.reduceLT, Int.reduceLE, Int.reduceNe, Int.reduceToNat, ir_usufructlaw31_ArchiveAdds, RowT.cells, hw, h1, ro_row]
  · rw [hs] at h1
    cases hs2 : shortR b.list
    · rw [hs2] at h2
      simp -implicitDefEqProofs only [go_sem, reduceIte, reduceCtorEq, Nat.reduceEqDiff, Nat.reduceAdd, Nat.reduceSub, Nat.reduceLT, Nat.reduceLeDiff, Nat.reduceBEq, Nat.reduceMul, Nat.reduceBNe, Int.reduceEq, Int.reduceLT, Int.reduceLE, Int.reduceNe, Int.reduceToNat, ir_usufructlaw31_ArchiveAdds, RowT.cells, hw, h1, h2, ro_row]
    · rw [hs2] at h2
      by_cases s2 : 100 < r.de.size
      · have s2' : ((100 : Int) < ((r.de.size : Nat) : Int)) = True := eq_true (by omega)
        simp -implicitDefEqProofs only [go_sem, reduceIte, reduceCtorEq, Nat.reduceEqDiff, Nat.reduceAdd, Nat.reduceSub, Nat.reduceLT, Nat.reduceLeDiff, Nat.reduceBEq, Nat.reduceMul, Nat.reduceBNe, Int.reduceEq, Int.reduceLT, Int.reduceLE, Int.reduceNe, Int.reduceToNat, ir_usufructlaw31_ArchiveAdds, RowT.cells, hw, h1, h2, ro_row, s2']
      · have s2' : ((100 : Int) < ((r.de.size : Nat) : Int)) = False := eq_false (by omega)
        obtain ⟨la, da⟩ := size_of hs
        obtain ⟨lb', db⟩ := size_of hs2
        have f1 := fn_add hE hv hin a (by omega) da r (by omega)
        have f2 := fn_refAdd hE a (by omega) da r (by omega)
        have f3 := fn_good31 hE hv a (by omega) da
        have f4 := fn_refGood31 hE a (by omega) da
        have f5 := fn_same hE (addS a.list r).1 (addS a.list r).1 (by have := addS_len a.list r; omega)
        have f6 := fn_merge hE hv a b (by omega) (by omega) da db
        have f7 := fn_refMerge' hE a b (by omega) (by omega) da db
        have f8 := fn_merge hE hv b a (by omega) (by omega) db da
        obtain ⟨m1, m2, m3, m4, m5⟩ := mergeR_facts a.list b.list
        have f9 := fn_same hE (mergeR a.list b.list).1 (mergeD a.list b.list).1 (by omega)
        have f10 := fn_same hE (mergeR a.list b.list).1 (mergeR b.list a.list).1 (by omega)
        rw [m2] at f9
        rw [m4] at f10
        rw [m3] at f8
        rw [← m1] at f7
        simp only [RowT.cells, decide_true] at f1 f2 f5 f9 f10
        generalize addS a.list r = X at *
        generalize mergeR a.list b.list = Y at *
        generalize mergeR b.list a.list = Z at *
        generalize mergeD a.list b.list = W at *
        generalize goodR none a.list = gd at *
        simp -implicitDefEqProofs only [go_sem, reduceIte, reduceCtorEq, Nat.reduceEqDiff, Nat.reduceAdd, Nat.reduceSub, Nat.reduceLT, Nat.reduceLeDiff, Nat.reduceBEq, Nat.reduceMul, Nat.reduceBNe, Int.reduceEq, Int.reduceLT, Int.reduceLE, Int.reduceNe, Int.reduceToNat, ir_usufructlaw31_ArchiveAdds, RowT.cells, hw, h1, h2, ro_row, s2', f1, f2, f3, f4, f5, f6, f7, f8, f9, f10]
end Go.Proofs.YtklggglkdfnpkaaDoor.Ev
