/-
  The document's store: what a crash leaves.
-/
import Derived.Test.YtaodpgpepmlfbaaDoorEvSt6
set_option linter.unusedVariables false
set_option linter.unusedSimpArgs false
namespace Go.Proofs.YtaodpgpepmlfbaaDoor.Ev
attribute [local congr] bind_congr_head
attribute [local go_sem] opd_t opd_c opd_g opd_f opds_nil opds_cons get_cons put_some put_none keep_nil keepC_s keepC_n keep_cons runs_nil runs_cons run_op run_opr run_call run_gand run_gor run_gif seqK_norm seqK_exit seqK_ret blkK_norm blkK_exit blkK_ret runL_skip runL_exit runL_ret runL_items runL_seq runL_cond runL_block runL_loop fin_bind finK_norm finK_ret rvs_nil rvs_cons rv_tmp rv_cell tupOf_one tupOf_nil tupOf_two ev_mov ev_pick ev_alloc ev_box ev_build parts_nil parts_cons fills_nil fills_cons ev_bsl ev_bslo ev_load ev_store ev_nilck ev_bin ev_binb ev_aeq ev_un ev_i2i ev_i2t ev_isnilI nilIF ev_s2b ev_ext ev_fld ev_idxs ev_fa ev_ias ev_len ev_lens ev_s2s ev_mkf ev_rng ev_nxt ev_app bOf_s pvOf_s agOf_s tpOf_s iOf_s sOf_s ite_bind Option.bind_some Option.bind_none if_true if_false ite_true ite_false argEnv_nil argEnv_cons len_av elems_av ias_av cells_av tuple_av AV.tuple AV.cells faF ldAt liveRef aggOf nilckF binV binI binS binB unV Bool.not_true Bool.not_false List.length_nil List.length_cons List.nil_append List.cons_append List.append_nil List.getElem?_cons_zero List.getElem?_cons_succ List.drop_zero List.drop_succ_cons List.drop_nil List.take_zero List.take_succ_cons List.take_nil List.set_cons_zero List.set_cons_succ compact_same compact_new closedB nodupB envIds ids0 upto visit pos sel AV.ids idss idsss Ob.ids AV.ren rens renss Ob.ren renEnv AV.snap snaps stAt okSt putCells List.all_nil List.all_cons List.contains_nil List.contains_cons Bool.and_true Bool.true_and Bool.and_false Bool.false_and Bool.or_true Bool.true_or Bool.or_false Bool.false_or decide_eq_true_eq decide_true decide_false beq_iff_eq bne_iff_ne beq_self_eq_true Bool.not_eq_true' Bool.false_eq_true eq_self and_self and_true true_and and_false false_and or_true true_or or_false false_or not_true_eq_false not_false_eq_true ne_eq Nat.zero_add Nat.add_zero Nat.le_refl Nat.not_lt_zero Nat.lt_irrefl Nat.zero_le Int.toNat_natCast gt_iff_lt ge_iff_le Int.lt_irrefl Int.natCast_nonneg txt_eq get_nil appF elems belows AV.under AV.flat flats List.length_map List.map_append List.map_cons List.map_nil List.length_append take_map_all List.flatten_cons List.flatten_nil bld_nil imp_false false_imp_iff false_implies true_implies implies_true decide_eq_false_iff_not Nat.one_mul Nat.mul_one idsss_app renss_app belowss_app ev_mn ev_mx ev_isnils ev_sls ev_slx evo_none evo_some vals minV maxV minF maxF backId List.getElem?_nil putAll Option.all_none Option.all_some Option.isSome_some intOf aszI compactV_same compactV_new callP_any callQ_eq callN_any boxQ AV.id? ids_avR ren_av under_av snap_av renss_mapf belowss_mapf idsss_mapf isnilsF List.length_eq_zero_iff int_beq int_bne decide_not slx_av Int.toNat_zero ev_mkm ev_lk ev_mup ev_mdl ev_lenm ev_isnilm mpOf_s mapAt_s mapOf_nil mapOf_mp isnilm_nil isnilm_mp lkR Option.getD_some Option.getD_none Option.isSome_none Prim.rdo ev_snp snp_own snp_v
theorem avN {α : Type} (k : Nat) (f : α → List AV) : (Sl.nil : Sl α).av k f = .v (.slice none 0 0) := rfl
variable {E : Prog}
theorem kp_lt {keep : List Int} {i : Nat} (h : i < keep.length) : keep[i]? = some (kp keep i) := by
  unfold kp; rw [List.getElem?_eq_getElem h]; rfl
theorem kp_ge {keep : List Int} {i : Nat} (h : ¬ i < keep.length) : kp keep i = 0 := by
  unfold kp; rw [List.getElem?_eq_none (by omega)]; rfl
/-- The four ways to what is left. -/
theorem left_ways (keep : List Int) (i : Nat) (f : FX) (h : okF f) :
    (¬ (i : Int) < (keep.length : Int) ∧ leftN f (kp keep i) = f.sf) ∨
    ((i : Int) < (keep.length : Int) ∧ keep[i]? = some (kp keep i) ∧ ((¬ 0 < kp keep i ∧ leftN f (kp keep i) = f.sf) ∨ (0 < kp keep i ∧ (f.b.size : Int) - f.sf < kp keep i ∧ leftN f (kp keep i) = f.sf + ((f.b.size : Int) - f.sf)) ∨
      (0 < kp keep i ∧ ¬ (f.b.size : Int) - f.sf < kp keep i ∧ leftN f (kp keep i) = f.sf + kp keep i))) := by
  obtain ⟨⟨h1, h2⟩, h3⟩ := h
  by_cases c : i < keep.length
  · refine .inr ⟨by omega, kp_lt c, ?_⟩
    generalize kp keep i = k
    unfold leftN mx0
    by_cases c1 : 0 < k
    · by_cases c2 : (f.b.size : Int) - f.sf < k
      · refine .inr (.inl ⟨c1, c2, ?_⟩)
        rw [if_neg (show ¬ k < 0 by omega), if_pos c2]
      · refine .inr (.inr ⟨c1, c2, ?_⟩)
        rw [if_neg (show ¬ k < 0 by omega), if_neg c2]
    · refine .inl ⟨c1, ?_⟩
      split <;> split <;> omega
  · refine .inl ⟨by omega, ?_⟩
    rw [kp_ge c]
    unfold leftN mx0
    split <;> omega
set_option maxHeartbeats 4000000 in
theorem bootR_loop (hE : Std E fns) {L : Env × Store → Option (Sig × Env × Store)} (x : Sl FX) (keep : Sl Int) (hx : x.list.length ≤ 100000) (ho : ∀ f, f ∈ x.list → okF f)
    (hL : ∀ e st, L (e, st) = (IR.runL E.glob (callL E) [] ir_usufructref05_Boot_L0 e st).bind (seqK fun e st => L (compact [] 0 [0, 1, 5, 6] e st))) :
    ∀ (rest : List FX) (i : Nat) (out : List FX) (g : Nat), x.list.drop i = rest → i ≤ x.list.length → out.length ≤ i →
    ∃ g' : Nat, L ([(0, fv x), (1, keep.av 1 inC), (5, (bld 4 FX.cells g [] out).1), (6, vi i)], (bld 4 FX.cells g [] out).2) =
      some (.exit 0, [(5, (bld 4 FX.cells g' [] (out ++ bootR keep.list rest i)).1)], (bld 4 FX.cells g' [] (out ++ bootR keep.list rest i)).2)
  | [], i, out, g, h, hi, hl => by
    have h1 := drop_nil' h hi
    refine ⟨g, ?_⟩
    rw [hL]
    by_cases hne : out = []
    · subst hne
      simp -implicitDefEqProofs only [go_sem, reduceIte, reduceCtorEq, Nat.reduceEqDiff, Nat.reduceAdd, Nat.reduceSub, Nat.reduceLT, Nat.reduceLeDiff, Nat.reduceBEq, Nat.reduceMul, Nat.reduceBNe, Int.reduceEq, Int.reduceLT, Int.reduceLE, Int.reduceNe, Int.reduceToNat, ir_usufructref05_Boot_L0, h1, bootR, ro_fx, ro_in]
    · simp -implicitDefEqProofs only [go_sem, reduceIte, reduceCtorEq, Nat.reduceEqDiff, Nat.reduceAdd, Nat.reduceSub, Nat.reduceLT, Nat.reduceLeDiff, Nat.reduceBEq, Nat.reduceMul, Nat.reduceBNe, Int.reduceEq, Int.reduceLT, Int.reduceLE, Int.reduceNe, Int.reduceToNat, ir_usufructref05_Boot_L0, h1, bootR, ro_fx, ro_in, bld_ne hne]
  | f :: rest, i, out, g, h, hi, hl => by
    obtain ⟨h1, h2, h3, h4, h5⟩ := drop_cons h
    have h6 := wrap_succ (i := i) (by omega)
    have hb : (out.length + 1) * 48 ≤ 140737488355328 := by omega
    have hf := ho f (List.mem_of_getElem? h1)
    have w1 : IntKind.i64.wrap ((f.b.size : Int) - f.sf) = (f.b.size : Int) - f.sf := by obtain ⟨⟨a, b⟩, c⟩ := hf; rw [IntKind.wrap_i64]; omega
    obtain ⟨n1, n2, n3⟩ := leftN_in hf (kp keep.list i)
    have w2 : IntKind.i64.wrap (leftN f (kp keep.list i)) = leftN f (kp keep.list i) := by obtain ⟨⟨a, b⟩, c⟩ := hf; rw [IntKind.wrap_i64]; omega
    have hw := left_ways keep.list i f hf
    rw [bootR_cons]
    cases hs : stayF f (kp keep.list i)
    · obtain ⟨g', ih⟩ := bootR_loop hE x keep hx ho hL rest (i + 1) out g h2 h4 (by omega)
      refine ⟨g', ?_⟩
      simp only [Bool.false_eq_true, if_false, List.nil_append]
      rw [← ih, hL]
      unfold stayF at hs
      generalize hkk : kp keep.list i = k at *
      generalize hN : leftN f k = N at *
      by_cases hne : out = []
      · subst hne
        rcases hw with ⟨c1, rfl⟩ | ⟨c1, c2, ⟨c3, rfl⟩ | ⟨c3, c4, rfl⟩ | ⟨c3, c4, rfl⟩⟩
        · simp -implicitDefEqProofs only [go_sem, reduceIte, reduceCtorEq, Nat.reduceEqDiff, Nat.reduceAdd, Nat.reduceSub, Nat.reduceLT, Nat.reduceLeDiff, Nat.reduceBEq, Nat.reduceMul, Nat.reduceBNe, Int.reduceEq, Int.reduceLT, Int.reduceLE, Int.reduceNe, Int.reduceToNat, ir_usufructref05_Boot_L0, FX.cells, inC, h1, h3, h6, ro_fx, ro_in, gor_b, Bool.decide_eq_true, c1, hs]
        · simp -implicitDefEqProofs only [go_sem, reduceIte, reduceCtorEq, Nat.reduceEqDiff, Nat.reduceAdd, Nat.reduceSub, Nat.reduceLT, Nat.reduceLeDiff, Nat.reduceBEq, Nat.reduceMul, Nat.reduceBNe, Int.reduceEq, Int.reduceLT, Int.reduceLE, Int.reduceNe, Int.reduceToNat, ir_usufructref05_Boot_L0, FX.cells, inC, h1, h3, h6, ro_fx, ro_in, gor_b, Bool.decide_eq_true, c1, c2, c3, hs]
        · simp -implicitDefEqProofs only [go_sem, reduceIte, reduceCtorEq, Nat.reduceEqDiff, Nat.reduceAdd, Nat.reduceSub, Nat.reduceLT, Nat.reduceLeDiff, Nat.reduceBEq, Nat.reduceMul, Nat.reduceBNe, Int.reduceEq, Int.reduceLT, Int.reduceLE, Int.reduceNe, Int.reduceToNat, ir_usufructref05_Boot_L0, FX.cells, inC, h1, h3, h6, ro_fx, ro_in, gor_b, Bool.decide_eq_true, c1, c2, c3, c4, w1, w2, hs]
        · simp -implicitDefEqProofs only [go_sem, reduceIte, reduceCtorEq, Nat.reduceEqDiff, Nat.reduceAdd, Nat.reduceSub, Nat.reduceLT, Nat.reduceLeDiff, Nat.reduceBEq, Nat.reduceMul, Nat.reduceBNe, Int.reduceEq, Int.reduceLT, Int.reduceLE, Int.reduceNe, Int.reduceToNat, ir_usufructref05_Boot_L0, FX.cells, inC, h1, h3, h6, ro_fx, ro_in, gor_b, Bool.decide_eq_true, c1, c2, c3, c4, w1, w2, hs]
      · rcases hw with ⟨c1, rfl⟩ | ⟨c1, c2, ⟨c3, rfl⟩ | ⟨c3, c4, rfl⟩ | ⟨c3, c4, rfl⟩⟩
        · simp -implicitDefEqProofs only [go_sem, reduceIte, reduceCtorEq, Nat.reduceEqDiff, Nat.reduceAdd, Nat.reduceSub, Nat.reduceLT, Nat.reduceLeDiff, Nat.reduceBEq, Nat.reduceMul, Nat.reduceBNe, Int.reduceEq, Int.reduceLT, Int.reduceLE, Int.reduceNe, Int.reduceToNat, ir_usufructref05_Boot_L0, FX.cells, inC, h1, h3, h6, ro_fx, ro_in, gor_b, Bool.decide_eq_true, c1, hs, bld_ne hne]
        · simp -implicitDefEqProofs only [go_sem, reduceIte, reduceCtorEq, Nat.reduceEqDiff, Nat.reduceAdd, Nat.reduceSub, Nat.reduceLT, Nat.reduceLeDiff, Nat.reduceBEq, Nat.reduceMul, Nat.reduceBNe, Int.reduceEq, Int.reduceLT, Int.reduceLE, Int.reduceNe, Int.reduceToNat, ir_usufructref05_Boot_L0, FX.cells, inC, h1, h3, h6, ro_fx, ro_in, gor_b, Bool.decide_eq_true, c1, c2, c3, hs, bld_ne hne]
        · simp -implicitDefEqProofs only [go_sem, reduceIte, reduceCtorEq, Nat.reduceEqDiff, Nat.reduceAdd, Nat.reduceSub, Nat.reduceLT, Nat.reduceLeDiff, Nat.reduceBEq, Nat.reduceMul, Nat.reduceBNe, Int.reduceEq, Int.reduceLT, Int.reduceLE, Int.reduceNe, Int.reduceToNat, ir_usufructref05_Boot_L0, FX.cells, inC, h1, h3, h6, ro_fx, ro_in, gor_b, Bool.decide_eq_true, c1, c2, c3, c4, w1, w2, hs, bld_ne hne]
        · simp -implicitDefEqProofs only [go_sem, reduceIte, reduceCtorEq, Nat.reduceEqDiff, Nat.reduceAdd, Nat.reduceSub, Nat.reduceLT, Nat.reduceLeDiff, Nat.reduceBEq, Nat.reduceMul, Nat.reduceBNe, Int.reduceEq, Int.reduceLT, Int.reduceLE, Int.reduceNe, Int.reduceToNat, ir_usufructref05_Boot_L0, FX.cells, inC, h1, h3, h6, ro_fx, ro_in, gor_b, Bool.decide_eq_true, c1, c2, c3, c4, w1, w2, hs, bld_ne hne]
    · simp only [if_true]
      by_cases hne : out = []
      · subst hne
        obtain ⟨g', ih⟩ := bootR_loop hE x keep hx ho hL rest (i + 1) [leftF f (kp keep.list i)] 0 h2 h4 (by simp)
        refine ⟨g', ?_⟩
        rw [List.nil_append, ← ih, hL]
        unfold stayF at hs
        unfold leftF
        generalize hkk : kp keep.list i = k at *
        generalize hN : leftN f k = N at *
        rcases hw with ⟨c1, rfl⟩ | ⟨c1, c2, ⟨c3, rfl⟩ | ⟨c3, c4, rfl⟩ | ⟨c3, c4, rfl⟩⟩
        · simp -implicitDefEqProofs only [go_sem, reduceIte, reduceCtorEq, Nat.reduceEqDiff, Nat.reduceAdd, Nat.reduceSub, Nat.reduceLT, Nat.reduceLeDiff, Nat.reduceBEq, Nat.reduceMul, Nat.reduceBNe, Int.reduceEq, Int.reduceLT, Int.reduceLE, Int.reduceNe, Int.reduceToNat, ir_usufructref05_Boot_L0, FX.cells, inC, h1, h3, h6, ro_fx, ro_in, gor_b, Bool.decide_eq_true, c1, hs, n1, n2, bld_ne (List.cons_ne_nil _ _)]
        · simp -implicitDefEqProofs only [go_sem, reduceIte, reduceCtorEq, Nat.reduceEqDiff, Nat.reduceAdd, Nat.reduceSub, Nat.reduceLT, Nat.reduceLeDiff, Nat.reduceBEq, Nat.reduceMul, Nat.reduceBNe, Int.reduceEq, Int.reduceLT, Int.reduceLE, Int.reduceNe, Int.reduceToNat, ir_usufructref05_Boot_L0, FX.cells, inC, h1, h3, h6, ro_fx, ro_in, gor_b, Bool.decide_eq_true, c1, c2, c3, hs, n1, n2, bld_ne (List.cons_ne_nil _ _)]
        · simp -implicitDefEqProofs only [go_sem, reduceIte, reduceCtorEq, Nat.reduceEqDiff, Nat.reduceAdd, Nat.reduceSub, Nat.reduceLT, Nat.reduceLeDiff, Nat.reduceBEq, Nat.reduceMul, Nat.reduceBNe, Int.reduceEq, Int.reduceLT, Int.reduceLE, Int.reduceNe, Int.reduceToNat, ir_usufructref05_Boot_L0, FX.cells, inC, h1, h3, h6, ro_fx, ro_in, gor_b, Bool.decide_eq_true, c1, c2, c3, c4, w1, w2, hs, n1, n2, bld_ne (List.cons_ne_nil _ _)]
        · simp -implicitDefEqProofs only [go_sem, reduceIte, reduceCtorEq, Nat.reduceEqDiff, Nat.reduceAdd, Nat.reduceSub, Nat.reduceLT, Nat.reduceLeDiff, Nat.reduceBEq, Nat.reduceMul, Nat.reduceBNe, Int.reduceEq, Int.reduceLT, Int.reduceLE, Int.reduceNe, Int.reduceToNat, ir_usufructref05_Boot_L0, FX.cells, inC, h1, h3, h6, ro_fx, ro_in, gor_b, Bool.decide_eq_true, c1, c2, c3, c4, w1, w2, hs, n1, n2, bld_ne (List.cons_ne_nil _ _)]
      · obtain ⟨g', ih⟩ := bootR_loop hE x keep hx ho hL rest (i + 1) (out ++ [leftF f (kp keep.list i)]) (g + 1) h2 h4 (by simp; omega)
        refine ⟨g', ?_⟩
        rw [← List.append_assoc, ← ih, hL]
        unfold stayF at hs
        unfold leftF
        generalize hkk : kp keep.list i = k at *
        generalize hN : leftN f k = N at *
        rcases hw with ⟨c1, rfl⟩ | ⟨c1, c2, ⟨c3, rfl⟩ | ⟨c3, c4, rfl⟩ | ⟨c3, c4, rfl⟩⟩
        · simp -implicitDefEqProofs only [go_sem, reduceIte, reduceCtorEq, Nat.reduceEqDiff, Nat.reduceAdd, Nat.reduceSub, Nat.reduceLT, Nat.reduceLeDiff, Nat.reduceBEq, Nat.reduceMul, Nat.reduceBNe, Int.reduceEq, Int.reduceLT, Int.reduceLE, Int.reduceNe, Int.reduceToNat, ir_usufructref05_Boot_L0, FX.cells, inC, h1, h3, h6, ro_fx, ro_in, gor_b, Bool.decide_eq_true, c1, hs, n1, n2, bld_ne hne, bld_ne (ne_app _ _), hb]
        · simp -implicitDefEqProofs only [go_sem, reduceIte, reduceCtorEq, Nat.reduceEqDiff, Nat.reduceAdd, Nat.reduceSub, Nat.reduceLT, Nat.reduceLeDiff, Nat.reduceBEq, Nat.reduceMul, Nat.reduceBNe, Int.reduceEq, Int.reduceLT, Int.reduceLE, Int.reduceNe, Int.reduceToNat, ir_usufructref05_Boot_L0, FX.cells, inC, h1, h3, h6, ro_fx, ro_in, gor_b, Bool.decide_eq_true, c1, c2, c3, hs, n1, n2, bld_ne hne, bld_ne (ne_app _ _), hb]
        · simp -implicitDefEqProofs only [go_sem, reduceIte, reduceCtorEq, Nat.reduceEqDiff, Nat.reduceAdd, Nat.reduceSub, Nat.reduceLT, Nat.reduceLeDiff, Nat.reduceBEq, Nat.reduceMul, Nat.reduceBNe, Int.reduceEq, Int.reduceLT, Int.reduceLE, Int.reduceNe, Int.reduceToNat, ir_usufructref05_Boot_L0, FX.cells, inC, h1, h3, h6, ro_fx, ro_in, gor_b, Bool.decide_eq_true, c1, c2, c3, c4, w1, w2, hs, n1, n2, bld_ne hne, bld_ne (ne_app _ _), hb]
        · simp -implicitDefEqProofs only [go_sem, reduceIte, reduceCtorEq, Nat.reduceEqDiff, Nat.reduceAdd, Nat.reduceSub, Nat.reduceLT, Nat.reduceLeDiff, Nat.reduceBEq, Nat.reduceMul, Nat.reduceBNe, Int.reduceEq, Int.reduceLT, Int.reduceLE, Int.reduceNe, Int.reduceToNat, ir_usufructref05_Boot_L0, FX.cells, inC, h1, h3, h6, ro_fx, ro_in, gor_b, Bool.decide_eq_true, c1, c2, c3, c4, w1, w2, hs, n1, n2, bld_ne hne, bld_ne (ne_app _ _), hb]
theorem fn_refBoot (hE : Std E fns) (x : Sl FX) (keep : Sl Int) (hx : x.list.length ≤ 100000) (ho : ∀ f, f ∈ x.list → okF f) :
    callP E f_usufructref05_Boot [fv x, keep.av 1 inC] = some (fv (slOf (bootR keep.list x.list 0))) := by
  obtain ⟨g, h⟩ := bootR_loop hE x keep hx ho (loopL_eq (IR.runL E.glob (callL E) [] ir_usufructref05_Boot_L0) (compact [] 0 [0, 1, 5, 6])) x.list 0 [] 0 rfl (Nat.zero_le _) (by simp)
  simp only [Int.natCast_zero, bld_nil, List.nil_append] at h
  rw [hE.run rfl rfl]
  by_cases hne : bootR keep.list x.list 0 = []
  · simp only [hne, bld_nil] at h ⊢
    simp -implicitDefEqProofs only [go_sem, reduceIte, reduceCtorEq, Nat.reduceEqDiff, Nat.reduceAdd, Nat.reduceSub, Nat.reduceLT, Nat.reduceLeDiff, Nat.reduceBEq, Nat.reduceMul, Nat.reduceBNe, Int.reduceEq, Int.reduceLT, Int.reduceLE, Int.reduceNe, Int.reduceToNat, ir_usufructref05_Boot, h, ro_fx, ro_in, slOf, avN]
  · simp only [bld_ne hne] at h
    simp -implicitDefEqProofs only [go_sem, reduceIte, reduceCtorEq, Nat.reduceEqDiff, Nat.reduceAdd, Nat.reduceSub, Nat.reduceLT, Nat.reduceLeDiff, Nat.reduceBEq, Nat.reduceMul, Nat.reduceBNe, Int.reduceEq, Int.reduceLT, Int.reduceLE, Int.reduceNe, Int.reduceToNat, ir_usufructref05_Boot, h, ro_fx, ro_in, slOf_ne hne, avM]
end Go.Proofs.YtaodpgpepmlfbaaDoor.Ev
