/-
  Archives: merging by the code.
-/
import Derived.Test.YtklggglkdfnpkaaDoorEvAr8
set_option linter.unusedVariables false
set_option linter.unusedSimpArgs false
namespace Go.Proofs.YtklggglkdfnpkaaDoor.Ev
attribute [local congr] bind_congr_head
attribute [local go_sem] opd_t opd_c opd_g opd_f opds_nil opds_cons get_cons put_some put_none keep_nil keepC_s keepC_n keep_cons runs_nil runs_cons run_op run_opr run_call run_gand run_gor run_gif seqK_norm seqK_exit seqK_ret blkK_norm blkK_exit blkK_ret runL_skip runL_exit runL_ret runL_items runL_seq runL_cond runL_block runL_loop fin_bind finK_norm finK_ret rvs_nil rvs_cons rv_tmp rv_cell tupOf_one tupOf_nil tupOf_two ev_mov ev_pick ev_alloc ev_box ev_build parts_nil parts_cons fills_nil fills_cons ev_bsl ev_bslo ev_load ev_store ev_nilck ev_bin ev_binb ev_aeq ev_un ev_i2i ev_i2t ev_isnilI nilIF ev_s2b ev_ext ev_fld ev_idxs ev_fa ev_ias ev_len ev_lens ev_s2s ev_mkf ev_rng ev_nxt ev_app bOf_s pvOf_s agOf_s tpOf_s iOf_s sOf_s ite_bind Option.bind_some Option.bind_none if_true if_false ite_true ite_false argEnv_nil argEnv_cons len_av elems_av ias_av cells_av tuple_av AV.tuple AV.cells faF ldAt liveRef nilckF binV binI binS binB unV Bool.not_true Bool.not_false List.length_nil List.length_cons List.nil_append List.cons_append List.append_nil List.getElem?_cons_zero List.getElem?_cons_succ List.drop_zero List.drop_succ_cons List.drop_nil List.take_zero List.take_succ_cons List.take_nil List.set_cons_zero List.set_cons_succ compact_same compact_new closedB nodupB envIds ids0 upto visit pos sel AV.ids idss idsss Ob.ids AV.ren rens renss Ob.ren renEnv AV.snap snaps stAt okSt putCells List.all_nil List.all_cons List.contains_nil List.contains_cons Bool.and_true Bool.true_and Bool.and_false Bool.false_and Bool.or_true Bool.true_or Bool.or_false Bool.false_or decide_eq_true_eq decide_true decide_false beq_iff_eq bne_iff_ne beq_self_eq_true Bool.not_eq_true' Bool.false_eq_true eq_self and_self and_true true_and and_false false_and or_true true_or or_false false_or not_true_eq_false not_false_eq_true ne_eq Nat.zero_add Nat.add_zero Nat.le_refl Nat.not_lt_zero Nat.lt_irrefl Nat.zero_le Int.toNat_natCast gt_iff_lt ge_iff_le Int.lt_irrefl Int.natCast_nonneg txt_eq get_nil appF belows AV.under AV.flat flats List.length_map List.map_append List.map_cons List.map_nil List.length_append take_map_all List.flatten_cons List.flatten_nil bld_nil imp_false false_imp_iff false_implies true_implies implies_true decide_eq_false_iff_not Nat.one_mul Nat.mul_one idsss_app renss_app belowss_app ev_mn ev_mx ev_isnils ev_sls ev_slx evo_none evo_some vals minV maxV minF maxF backId List.getElem?_nil putAll Option.all_none Option.all_some Option.isSome_some intOf aszI compactV_same compactV_new callP_any callQ_eq callN_any AV.id? ids_avR ren_av under_av snap_av renss_mapf belowss_mapf idsss_mapf isnilsF List.length_eq_zero_iff int_beq int_bne decide_not slx_av Int.toNat_zero ev_mkm ev_lk ev_mup ev_mdl ev_lenm ev_isnilm mpOf_s mapAt_s mapOf_nil mapOf_mp isnilm_nil isnilm_mp lkR Option.getD_some Option.getD_none Option.isSome_none Prim.rdo ev_snp snp_own snp_v
theorem fn_refMerge {E : Prog} (hE : Std E fns) (a b : Sl RowT) (ha : a.list.length ≤ 100) (hb : b.list.length ≤ 100) (hsa : ∀ r, r ∈ a.list → r.de.size < 2305843009213693952) (hsb : ∀ r, r ∈ b.list → r.de.size < 2305843009213693952) :
    callP E f_usufructref31_Merge [rv a, rv b] = some (if (goodR none a.list && goodR none b.list) = true then (match refMS a.list a.list b.list with | none => .tup [.v (.slice none 0 0), vi 6] | some o => .tup [rv (.mk o), vi 0]) else .tup [.v (.slice none 0 0), vi 3]) := by
  have h1 := fn_refGood31 hE a (by omega) hsa
  have h2 := fn_refGood31 hE b (by omega) hsb
  have hl : a.list.length * 56 ≤ 140737488355328 := by omega
  have ih := outer_loop hE a b [.row 6 1 (a.list.map RowT.cells) true] ha hb (loopL_eq (IR.runL E.glob (callL E) [] ir_usufructref31_Merge_L1) (compact [] 1 [0, 1, 6, 7])) b.list 0 a.list rfl (by omega) (by omega)
  simp only [Int.natCast_zero] at ih
  simp only [rv, avM] at ih
  rw [hE.run rfl rfl]
  cases hg : goodR none a.list
  · rw [hg] at h1
    simp -implicitDefEqProofs only [go_sem, reduceIte, reduceCtorEq, Nat.reduceEqDiff, Nat.reduceAdd, Nat.reduceSub, Nat.reduceLT, Nat.reduceLeDiff, Nat.reduceBEq, Nat.reduceMul, Nat.reduceBNe, Int.reduceEq, Int.reduceLT, Int.reduceLE, Int.reduceNe, Int.reduceToNat, ir_usufructref31_Merge, h1, ro_row, tupOf]
  · rw [hg] at h1
    cases hg2 : goodR none b.list
    · rw [hg2] at h2
      simp -implicitDefEqProofs only [go_sem, reduceIte, reduceCtorEq, Nat.reduceEqDiff, Nat.reduceAdd, Nat.reduceSub, Nat.reduceLT, Nat.reduceLeDiff, Nat.reduceBEq, Nat.reduceMul, Nat.reduceBNe, Int.reduceEq, Int.reduceLT, Int.reduceLE, Int.reduceNe, Int.reduceToNat, ir_usufructref31_Merge, h1, h2, ro_row, tupOf]
    · rw [hg2] at h2
      cases hm : refMS a.list a.list b.list with
      | none =>
        rw [hm] at ih
        dsimp only at ih
        simp -implicitDefEqProofs only [go_sem, reduceIte, reduceCtorEq, Nat.reduceEqDiff, Nat.reduceAdd, Nat.reduceSub, Nat.reduceLT, Nat.reduceLeDiff, Nat.reduceBEq, Nat.reduceMul, Nat.reduceBNe, Int.reduceEq, Int.reduceLT, Int.reduceLE, Int.reduceNe, Int.reduceToNat, ir_usufructref31_Merge, h1, h2, ro_row, tupOf, elems_av, all_row, hl, ih, Int.natCast_zero, Bool.and_self]
      | some o =>
        rw [hm] at ih
        dsimp only at ih
        simp -implicitDefEqProofs only [go_sem, reduceIte, reduceCtorEq, Nat.reduceEqDiff, Nat.reduceAdd, Nat.reduceSub, Nat.reduceLT, Nat.reduceLeDiff, Nat.reduceBEq, Nat.reduceMul, Nat.reduceBNe, Int.reduceEq, Int.reduceLT, Int.reduceLE, Int.reduceNe, Int.reduceToNat, ir_usufructref31_Merge, h1, h2, ro_row, tupOf, elems_av, all_row, hl, ih, Int.natCast_zero, Bool.and_self, avM]
def mergeS : Nat → List RowT → List RowT → Option (List RowT)
  | 0, _, _ => some []
  | n + 1, [], [] => some []
  | n + 1, x :: a, [] => (mergeS n a []).map (x :: ·)
  | n + 1, [], y :: b => (mergeS n [] b).map (y :: ·)
  | n + 1, x :: a, y :: b => if x.sg < y.sg then (mergeS n a (y :: b)).map (x :: ·) else if y.sg < x.sg then (mergeS n (x :: a) b).map (y :: ·) else if x = y then (mergeS n a b).map (x :: ·) else none
/-- What is left behind the first. -/
theorem tail_of {A : Sl RowT} {x : RowT} {a : List RowT} (h : A.list = x :: a) : (A.sub 1 A.list.length).list = a ∧ A.list[0]? = some x ∧ (((A.list.length : Nat) : Int) = 0) = False ∧ ((0 : Int) < ((A.list.length : Nat) : Int)) = True ∧ ((1 : Int) ≤ ((A.list.length : Nat) : Int)) = True := by
  have hl : A.list.length = a.length + 1 := by rw [h]; rfl
  exact ⟨by rw [sub_list, h]; simp, by rw [h]; rfl, eq_false (by omega), eq_true (by omega), eq_true (by omega)⟩
theorem empty_of {A : Sl RowT} (h : A.list = []) : (((A.list.length : Nat) : Int) = 0) = True ∧ ((0 : Int) < ((A.list.length : Nat) : Int)) = False := ⟨eq_true (by rw [h]; rfl), eq_false (by rw [h]; simp)⟩
theorem mm {β : Type} (x : RowT) (m : Option (List RowT)) (out : List RowT) (z : β) (F : List RowT → β) : (match m.map (x :: ·) with | none => z | some o => F (out ++ o)) = (match m with | none => z | some o => F (out ++ [x] ++ o)) := by
  cases m <;> simp
theorem row_ids (x : RowT) : idss x.cells = [] := rfl
theorem row_rens (ρ : Nat → Nat) (x : RowT) : rens ρ x.cells = x.cells := rfl
theorem row_a6 (x : RowT) : aggOf (some 6) x.cells = some (.agg x.cells) := rfl
theorem row_f0 (x : RowT) : aggOf none x.cells = some (vi x.sg) := rfl
set_option maxHeartbeats 4000000 in
theorem merge_loop {G : Nat → Option (List AV)} {raw : Raw} {L : Env × Store → Option (Sig × Env × Store)}
    (hL : ∀ e st, L (e, st) = (IR.runL G raw [] ir_archive_Merge_L0 e st).bind (seqK fun e st => L (compact [] 0 [0, 1, 6] e st))) :
    ∀ (n : Nat) (A B : Sl RowT) (out : List RowT) (g : Nat), A.list.length + B.list.length ≤ n → n + out.length ≤ 5000 →
    ∃ (g' : Nat) (q : Store), L ([(0, rv A), (1, rv B), (6, (bld 6 RowT.cells g [] out).1)], (bld 6 RowT.cells g [] out).2) = match mergeS n A.list B.list with
      | none => some (.ret, [(4, .v (.slice none 0 0)), (5, vi 6)], q)
      | some o => some (.exit 0, [(6, (bld 6 RowT.cells g' [] (out ++ o)).1)], (bld 6 RowT.cells g' [] (out ++ o)).2)
  | n, A, B, out, g, hn, ho => by
    have hb : (out.length + 1) * 56 ≤ 140737488355328 := by omega
    rw [hL]
    cases hA : A.list with
    | nil =>
      obtain ⟨a1, a2⟩ := empty_of hA
      cases hB : B.list with
      | nil =>
        obtain ⟨b1, b2⟩ := empty_of hB
        have em : mergeS n [] [] = some [] := by cases n <;> rfl
        rw [em]
        refine ⟨g, [], ?_⟩
        dsimp only
        rw [List.append_nil]
        by_cases hne : out = []
        · subst hne
          simp -implicitDefEqProofs only [go_sem, reduceIte, reduceCtorEq, Nat.reduceEqDiff, Nat.reduceAdd, Nat.reduceSub, Nat.reduceLT, Nat.reduceLeDiff, Nat.reduceBEq, Nat.reduceMul, Nat.reduceBNe, Int.reduceEq, Int.reduceLT, Int.reduceLE, Int.reduceNe, Int.reduceToNat, ir_archive_Merge_L0, a1, b1, ro_row]
        · simp -implicitDefEqProofs only [go_sem, reduceIte, reduceCtorEq, Nat.reduceEqDiff, Nat.reduceAdd, Nat.reduceSub, Nat.reduceLT, Nat.reduceLeDiff, Nat.reduceBEq, Nat.reduceMul, Nat.reduceBNe, Int.reduceEq, Int.reduceLT, Int.reduceLE, Int.reduceNe, Int.reduceToNat, ir_archive_Merge_L0, a1, b1, ro_row, bld_ne hne]
      | cons y b =>
        obtain ⟨b0, b1, b2, b3, b4⟩ := tail_of hB
        cases n with
        | zero => rw [hA, hB] at hn; simp at hn
        | succ n =>
          have e : mergeS (n + 1) [] (y :: b) = (mergeS n [] b).map (y :: ·) := rfl
          rw [e]
          obtain ⟨g', q, ih⟩ := merge_loop hL n A (B.sub 1 B.list.length) (out ++ [y]) (if out = [] then 0 else g + 1) (by rw [b0]; rw [hB] at hn; simp at hn; omega) (by simp; omega)
          rw [b0, hA] at ih
          refine ⟨g', q, ?_⟩
          rw [mm _ _ out _ (fun o => some (Sig.exit 0, [(6, (bld 6 RowT.cells g' [] o).1)], (bld 6 RowT.cells g' [] o).2)), ← ih]
          by_cases hne : out = []
          · subst hne
            simp -implicitDefEqProofs only [go_sem, reduceIte, reduceCtorEq, Nat.reduceEqDiff, Nat.reduceAdd, Nat.reduceSub, Nat.reduceLT, Nat.reduceLeDiff, Nat.reduceBEq, Nat.reduceMul, Nat.reduceBNe, Int.reduceEq, Int.reduceLT, Int.reduceLE, Int.reduceNe, Int.reduceToNat, ir_archive_Merge_L0, a1, a2, b1, b2, b3, b4, row_ids, row_rens, row_f0, row_a6, row_len, ro_row, bld_ne (List.cons_ne_nil y []), elems_sl, Int.le_refl]
          · simp -implicitDefEqProofs only [go_sem, reduceIte, reduceCtorEq, Nat.reduceEqDiff, Nat.reduceAdd, Nat.reduceSub, Nat.reduceLT, Nat.reduceLeDiff, Nat.reduceBEq, Nat.reduceMul, Nat.reduceBNe, Int.reduceEq, Int.reduceLT, Int.reduceLE, Int.reduceNe, Int.reduceToNat, ir_archive_Merge_L0, a1, a2, b1, b2, b3, b4, row_ids, row_rens, row_f0, row_a6, row_len, ro_row, bld_ne hne, bld_ne (ne_app out y), hb, elems_sl, hne, Int.le_refl]
    | cons x a =>
      obtain ⟨a0, a1, a2, a3, a4⟩ := tail_of hA
      cases n with
      | zero => rw [hA] at hn; simp at hn
      | succ n =>
        cases hB : B.list with
        | nil =>
          obtain ⟨b1, b2⟩ := empty_of hB
          have e : mergeS (n + 1) (x :: a) [] = (mergeS n a []).map (x :: ·) := rfl
          rw [e]
          obtain ⟨g', q, ih⟩ := merge_loop hL n (A.sub 1 A.list.length) B (out ++ [x]) (if out = [] then 0 else g + 1) (by rw [a0]; rw [hA] at hn; simp at hn; omega) (by simp; omega)
          rw [a0, hB] at ih
          refine ⟨g', q, ?_⟩
          rw [mm _ _ out _ (fun o => some (Sig.exit 0, [(6, (bld 6 RowT.cells g' [] o).1)], (bld 6 RowT.cells g' [] o).2)), ← ih]
          by_cases hne : out = []
          · subst hne
            simp -implicitDefEqProofs only [go_sem, reduceIte, reduceCtorEq, Nat.reduceEqDiff, Nat.reduceAdd, Nat.reduceSub, Nat.reduceLT, Nat.reduceLeDiff, Nat.reduceBEq, Nat.reduceMul, Nat.reduceBNe, Int.reduceEq, Int.reduceLT, Int.reduceLE, Int.reduceNe, Int.reduceToNat, ir_archive_Merge_L0, a1, a2, a3, a4, b1, b2, row_ids, row_rens, row_f0, row_a6, row_len, ro_row, bld_ne (List.cons_ne_nil x []), elems_sl, Int.le_refl]
          · simp -implicitDefEqProofs only [go_sem, reduceIte, reduceCtorEq, Nat.reduceEqDiff, Nat.reduceAdd, Nat.reduceSub, Nat.reduceLT, Nat.reduceLeDiff, Nat.reduceBEq, Nat.reduceMul, Nat.reduceBNe, Int.reduceEq, Int.reduceLT, Int.reduceLE, Int.reduceNe, Int.reduceToNat, ir_archive_Merge_L0, a1, a2, a3, a4, b1, b2, row_ids, row_rens, row_f0, row_a6, row_len, ro_row, bld_ne hne, bld_ne (ne_app out x), hb, elems_sl, hne, Int.le_refl]
        | cons y b =>
          obtain ⟨b0, b1, b2, b3, b4⟩ := tail_of hB
          by_cases c1 : x.sg < y.sg
          · have e : mergeS (n + 1) (x :: a) (y :: b) = (mergeS n a (y :: b)).map (x :: ·) := by simp only [mergeS, if_pos c1]
            rw [e]
            obtain ⟨g', q, ih⟩ := merge_loop hL n (A.sub 1 A.list.length) B (out ++ [x]) (if out = [] then 0 else g + 1) (by rw [a0]; rw [hA] at hn; simp at hn; omega) (by simp; omega)
            rw [a0, hB] at ih
            refine ⟨g', q, ?_⟩
            rw [mm _ _ out _ (fun o => some (Sig.exit 0, [(6, (bld 6 RowT.cells g' [] o).1)], (bld 6 RowT.cells g' [] o).2)), ← ih]
            by_cases hne : out = []
            · subst hne
              simp -implicitDefEqProofs only [go_sem, reduceIte, reduceCtorEq, Nat.reduceEqDiff, Nat.reduceAdd, Nat.reduceSub, Nat.reduceLT, Nat.reduceLeDiff, Nat.reduceBEq, Nat.reduceMul, Nat.reduceBNe, Int.reduceEq, Int.reduceLT, Int.reduceLE, Int.reduceNe, Int.reduceToNat, ir_archive_Merge_L0, a1, a2, a3, a4, b1, b2, b3, c1, row_ids, row_rens, row_f0, row_a6, row_len, ro_row, bld_ne (List.cons_ne_nil x []), elems_sl, Int.le_refl]
            · simp -implicitDefEqProofs only [go_sem, reduceIte, reduceCtorEq, Nat.reduceEqDiff, Nat.reduceAdd, Nat.reduceSub, Nat.reduceLT, Nat.reduceLeDiff, Nat.reduceBEq, Nat.reduceMul, Nat.reduceBNe, Int.reduceEq, Int.reduceLT, Int.reduceLE, Int.reduceNe, Int.reduceToNat, ir_archive_Merge_L0, a1, a2, a3, a4, b1, b2, b3, c1, row_ids, row_rens, row_f0, row_a6, row_len, ro_row, bld_ne hne, bld_ne (ne_app out x), hb, elems_sl, hne, Int.le_refl]
          · by_cases c2 : y.sg < x.sg
            · have e : mergeS (n + 1) (x :: a) (y :: b) = (mergeS n (x :: a) b).map (y :: ·) := by simp only [mergeS, if_neg c1, if_pos c2]
              rw [e]
              obtain ⟨g', q, ih⟩ := merge_loop hL n A (B.sub 1 B.list.length) (out ++ [y]) (if out = [] then 0 else g + 1) (by rw [b0]; rw [hB] at hn; simp at hn; omega) (by simp; omega)
              rw [b0, hA] at ih
              refine ⟨g', q, ?_⟩
              rw [mm _ _ out _ (fun o => some (Sig.exit 0, [(6, (bld 6 RowT.cells g' [] o).1)], (bld 6 RowT.cells g' [] o).2)), ← ih]
              by_cases hne : out = []
              · subst hne
                simp -implicitDefEqProofs only [go_sem, reduceIte, reduceCtorEq, Nat.reduceEqDiff, Nat.reduceAdd, Nat.reduceSub, Nat.reduceLT, Nat.reduceLeDiff, Nat.reduceBEq, Nat.reduceMul, Nat.reduceBNe, Int.reduceEq, Int.reduceLT, Int.reduceLE, Int.reduceNe, Int.reduceToNat, ir_archive_Merge_L0, a1, a2, a3, b1, b2, b3, b4, c1, c2, row_ids, row_rens, row_f0, row_a6, row_len, ro_row, bld_ne (List.cons_ne_nil y []), elems_sl, Int.le_refl]
              · simp -implicitDefEqProofs only [go_sem, reduceIte, reduceCtorEq, Nat.reduceEqDiff, Nat.reduceAdd, Nat.reduceSub, Nat.reduceLT, Nat.reduceLeDiff, Nat.reduceBEq, Nat.reduceMul, Nat.reduceBNe, Int.reduceEq, Int.reduceLT, Int.reduceLE, Int.reduceNe, Int.reduceToNat, ir_archive_Merge_L0, a1, a2, a3, b1, b2, b3, b4, c1, c2, row_ids, row_rens, row_f0, row_a6, row_len, ro_row, bld_ne hne, bld_ne (ne_app out y), hb, elems_sl, hne, Int.le_refl]
            · have hxy := eqL_row x y
              by_cases d : x = y
              · have e : mergeS (n + 1) (x :: a) (y :: b) = (mergeS n a b).map (x :: ·) := by simp only [mergeS, if_neg c1, if_neg c2, if_pos d]
                rw [e]
                subst d
                simp only [decide_true] at hxy
                obtain ⟨g', q, ih⟩ := merge_loop hL n (A.sub 1 A.list.length) (B.sub 1 B.list.length) (out ++ [x]) (if out = [] then 0 else g + 1) (by rw [a0, b0]; rw [hA, hB] at hn; simp at hn; omega) (by simp; omega)
                rw [a0, b0] at ih
                refine ⟨g', q, ?_⟩
                rw [mm _ _ out _ (fun o => some (Sig.exit 0, [(6, (bld 6 RowT.cells g' [] o).1)], (bld 6 RowT.cells g' [] o).2)), ← ih]
                by_cases hne : out = []
                · subst hne
                  simp -implicitDefEqProofs only [go_sem, reduceIte, reduceCtorEq, Nat.reduceEqDiff, Nat.reduceAdd, Nat.reduceSub, Nat.reduceLT, Nat.reduceLeDiff, Nat.reduceBEq, Nat.reduceMul, Nat.reduceBNe, Int.reduceEq, Int.reduceLT, Int.reduceLE, Int.reduceNe, Int.reduceToNat, ir_archive_Merge_L0, a1, a2, a3, a4, b1, b2, b3, b4, hxy, Int.lt_irrefl, row_ids, row_rens, row_f0, row_a6, row_len, ro_row, bld_ne (List.cons_ne_nil x []), elems_sl, Int.le_refl]
                · simp -implicitDefEqProofs only [go_sem, reduceIte, reduceCtorEq, Nat.reduceEqDiff, Nat.reduceAdd, Nat.reduceSub, Nat.reduceLT, Nat.reduceLeDiff, Nat.reduceBEq, Nat.reduceMul, Nat.reduceBNe, Int.reduceEq, Int.reduceLT, Int.reduceLE, Int.reduceNe, Int.reduceToNat, ir_archive_Merge_L0, a1, a2, a3, a4, b1, b2, b3, b4, hxy, Int.lt_irrefl, row_ids, row_rens, row_f0, row_a6, row_len, ro_row, bld_ne hne, bld_ne (ne_app out x), hb, elems_sl, hne, Int.le_refl]
              · have e : mergeS (n + 1) (x :: a) (y :: b) = none := by simp only [mergeS, if_neg c1, if_neg c2, if_neg d]
                rw [e]
                simp only [d, decide_false] at hxy
                by_cases hne : out = []
                · subst hne
                  refine ⟨0, [], ?_⟩
                  simp -implicitDefEqProofs only [go_sem, reduceIte, reduceCtorEq, Nat.reduceEqDiff, Nat.reduceAdd, Nat.reduceSub, Nat.reduceLT, Nat.reduceLeDiff, Nat.reduceBEq, Nat.reduceMul, Nat.reduceBNe, Int.reduceEq, Int.reduceLT, Int.reduceLE, Int.reduceNe, Int.reduceToNat, ir_archive_Merge_L0, a1, a2, a3, b1, b2, b3, c1, c2, hxy, row_ids, row_rens, row_f0, row_a6, row_len, ro_row, elems_sl]
                · refine ⟨0, [.row 6 g (out.map RowT.cells) false], ?_⟩
                  simp -implicitDefEqProofs only [go_sem, reduceIte, reduceCtorEq, Nat.reduceEqDiff, Nat.reduceAdd, Nat.reduceSub, Nat.reduceLT, Nat.reduceLeDiff, Nat.reduceBEq, Nat.reduceMul, Nat.reduceBNe, Int.reduceEq, Int.reduceLT, Int.reduceLE, Int.reduceNe, Int.reduceToNat, ir_archive_Merge_L0, a1, a2, a3, b1, b2, b3, c1, c2, hxy, row_ids, row_rens, row_f0, row_a6, row_len, ro_row, bld_ne hne, elems_sl]
end Go.Proofs.YtklggglkdfnpkaaDoor.Ev
