/-
  Archives: queries, prunings, sums; the law ArchiveAsks.
-/
import Derived.Test.YtklggglkdfnpkaaDoorEvAr1
set_option linter.unusedVariables false
set_option linter.unusedSimpArgs false
namespace Go.Proofs.YtklggglkdfnpkaaDoor.Ev
attribute [local congr] bind_congr_head
attribute [local go_sem] opd_t opd_c opd_g opd_f opds_nil opds_cons get_cons put_some put_none keep_nil keepC_s keepC_n keep_cons runs_nil runs_cons run_op run_opr run_call run_gand run_gor run_gif seqK_norm seqK_exit seqK_ret blkK_norm blkK_exit blkK_ret runL_skip runL_exit runL_ret runL_items runL_seq runL_cond runL_block runL_loop fin_bind finK_norm finK_ret rvs_nil rvs_cons rv_tmp rv_cell tupOf_one tupOf_nil tupOf_two ev_mov ev_pick ev_alloc ev_box ev_build parts_nil parts_cons fills_nil fills_cons ev_bsl ev_bslo ev_load ev_store ev_nilck ev_bin ev_binb ev_aeq ev_un ev_i2i ev_i2t ev_isnilI nilIF ev_s2b ev_ext ev_fld ev_idxs ev_fa ev_ias ev_len ev_lens ev_s2s ev_mkf ev_rng ev_nxt ev_app bOf_s pvOf_s agOf_s tpOf_s iOf_s sOf_s ite_bind Option.bind_some Option.bind_none if_true if_false ite_true ite_false argEnv_nil argEnv_cons len_av elems_av ias_av cells_av tuple_av AV.tuple AV.cells faF ldAt liveRef aggOf nilckF binV binI binS binB unV Bool.not_true Bool.not_false List.length_nil List.length_cons List.nil_append List.cons_append List.append_nil List.getElem?_cons_zero List.getElem?_cons_succ List.drop_zero List.drop_succ_cons List.drop_nil List.take_zero List.take_succ_cons List.take_nil List.set_cons_zero List.set_cons_succ compact_same compact_new closedB nodupB envIds ids0 upto visit pos sel AV.ids idss idsss Ob.ids AV.ren rens renss Ob.ren renEnv AV.snap snaps stAt okSt putCells List.all_nil List.all_cons List.contains_nil List.contains_cons Bool.and_true Bool.true_and Bool.and_false Bool.false_and Bool.or_true Bool.true_or Bool.or_false Bool.false_or decide_eq_true_eq decide_true decide_false beq_iff_eq bne_iff_ne beq_self_eq_true Bool.not_eq_true' Bool.false_eq_true eq_self and_self and_true true_and and_false false_and or_true true_or or_false false_or not_true_eq_false not_false_eq_true ne_eq Nat.zero_add Nat.add_zero Nat.le_refl Nat.not_lt_zero Nat.lt_irrefl Nat.zero_le Int.toNat_natCast gt_iff_lt ge_iff_le Int.lt_irrefl Int.natCast_nonneg txt_eq get_nil appF elems belows AV.under AV.flat flats List.length_map List.map_append List.map_cons List.map_nil List.length_append take_map_all List.flatten_cons List.flatten_nil bld_nil imp_false false_imp_iff false_implies true_implies implies_true decide_eq_false_iff_not Nat.one_mul Nat.mul_one idsss_app renss_app belowss_app ev_mn ev_mx ev_isnils ev_sls ev_slx evo_none evo_some vals minV maxV minF maxF backId List.getElem?_nil putAll Option.all_none Option.all_some Option.isSome_some intOf aszI compactV_same compactV_new callP_any callQ_eq callN_any boxQ AV.id? ids_avR ren_av under_av snap_av renss_mapf belowss_mapf idsss_mapf isnilsF List.length_eq_zero_iff int_beq int_bne decide_not slx_av Int.toNat_zero ev_mkm ev_lk ev_mup ev_mdl ev_lenm ev_isnilm mpOf_s mapAt_s mapOf_nil mapOf_mp isnilm_nil isnilm_mp lkR Option.getD_some Option.getD_none Option.isSome_none Prim.rdo ev_snp snp_own snp_v
theorem avN {α : Type} (k : Nat) (f : α → List AV) : (Sl.nil : Sl α).av k f = .v (.slice none 0 0) := rfl
theorem avM {α : Type} (k : Nat) (f : α → List AV) (xs : List α) : (Sl.mk xs).av k f = .sl k (xs.map f) := rfl
theorem fn_keep {E : Prog} (hE : Std E fns) (f : Nat) (c : List AV) (hc : idss c = []) (p : RowT → Bool) (l : Sl RowT) (hl : l.list.length ≤ 1000)
    (hf : ∀ r, callL E f [.agg r.cells, .ref 0 0 0 0] [] [.box c] = some (vb (p r), [.box c])) :
    ∃ g, callL E f_archive_keep [rv l, .fn f [.ref 0 0 0 0]] [] [.box c] = some (bld 6 RowT.cells g [.box c] (l.list.filter p)) := by
  obtain ⟨g', ih⟩ := keep_loop hE f c hc p l hl hf (loopL_eq (IR.runL E.glob (callL E) [] ir_archive_keep_L0) (compact [] 1 [1, 5, 8, 9, 10])) l.list 0 [] 0 rfl (by omega) (by simp)
  simp only [Int.natCast_zero, bld_nil, List.nil_append] at ih
  have r1 : rens (pos [0]) c = c := rens_of _ hc
  refine ⟨g', ?_⟩
  rw [hE.runN rfl rfl]
  by_cases hne : l.list.filter p = []
  · simp only [hne, bld_nil] at ih ⊢
    simp -implicitDefEqProofs only [go_sem, reduceIte, reduceCtorEq, Nat.reduceEqDiff, Nat.reduceAdd, Nat.reduceSub, Nat.reduceLT, Nat.reduceLeDiff, Nat.reduceBEq, Nat.reduceMul, Nat.reduceBNe, Int.reduceEq, Int.reduceLT, Int.reduceLE, Int.reduceNe, Int.reduceToNat, ir_archive_keep, ih, ro_row, hc, rens_of]
  · simp only [bld_ne hne] at ih ⊢
    simp -implicitDefEqProofs only [go_sem, reduceIte, reduceCtorEq, Nat.reduceEqDiff, Nat.reduceAdd, Nat.reduceSub, Nat.reduceLT, Nat.reduceLeDiff, Nat.reduceBEq, Nat.reduceMul, Nat.reduceBNe, Int.reduceEq, Int.reduceLT, Int.reduceLE, Int.reduceNe, Int.reduceToNat, ir_archive_keep, ih, ro_row, hc, rens_of]
def askB (q : QryT) (r : RowT) : Bool :=
  (decide (q.de = ⟨#[]⟩) || decide (q.de = r.de)) && (decide (q.ph = -1) || decide (q.ph = r.ph)) && decide (q.si ≤ r.te) && (decide (q.ti < 0) || decide (r.te ≤ q.ti))
theorem fn_ask1 {E : Prog} (hE : Std E fns) (q : QryT) (r : RowT) : callL E f_archive_Ask_1 [.agg r.cells, .ref 0 0 0 0] [] [.box q.cells] = some (vb (askB q r), [.box q.cells]) := by
  rw [hE.runN rfl rfl]
  simp -implicitDefEqProofs only [go_sem, reduceIte, reduceCtorEq, Nat.reduceEqDiff, Nat.reduceAdd, Nat.reduceSub, Nat.reduceLT, Nat.reduceLeDiff, Nat.reduceBEq, Nat.reduceMul, Nat.reduceBNe, Int.reduceEq, Int.reduceLT, Int.reduceLE, Int.reduceNe, Int.reduceToNat, ir_archive_Ask_1, RowT.cells, QryT.cells, askB]
  by_cases a1 : q.de = ⟨#[]⟩ <;> by_cases a2 : q.de = r.de <;> by_cases a3 : q.ph = -1 <;> by_cases a4 : q.ph = r.ph <;> by_cases a5 : q.si ≤ r.te <;> by_cases a6 : q.ti < 0 <;> simp [a1, a2, a3, a4, a5, a6]
theorem fn_prune1 {E : Prog} (hE : Std E fns) (n : Int) (r : RowT) : callL E f_archive_Prune_1 [.agg r.cells, .ref 0 0 0 0] [] [.box [vi n]] = some (vb (decide (n ≤ r.te)), [.box [vi n]]) := by
  rw [hE.runN rfl rfl]
  simp -implicitDefEqProofs only [go_sem, reduceIte, reduceCtorEq, Nat.reduceEqDiff, Nat.reduceAdd, Nat.reduceSub, Nat.reduceLT, Nat.reduceLeDiff, Nat.reduceBEq, Nat.reduceMul, Nat.reduceBNe, Int.reduceEq, Int.reduceLT, Int.reduceLE, Int.reduceNe, Int.reduceToNat, ir_archive_Prune_1, RowT.cells]
theorem fn_ask {E : Prog} (hE : Std E fns) (l : Sl RowT) (hl : l.list.length ≤ 1000) (q : QryT) : callP E f_archive_Ask [rv l, .agg q.cells] = some (rv (slOf (l.list.filter (askB q)))) := by
  obtain ⟨g, h⟩ := fn_keep hE f_archive_Ask_1 q.cells rfl (askB q) l hl fun r => fn_ask1 hE q r
  simp only [QryT.cells] at h
  rw [hE.run rfl rfl]
  by_cases hne : l.list.filter (askB q) = []
  · simp only [hne, bld_nil] at h ⊢
    simp -implicitDefEqProofs only [go_sem, reduceIte, reduceCtorEq, Nat.reduceEqDiff, Nat.reduceAdd, Nat.reduceSub, Nat.reduceLT, Nat.reduceLeDiff, Nat.reduceBEq, Nat.reduceMul, Nat.reduceBNe, Int.reduceEq, Int.reduceLT, Int.reduceLE, Int.reduceNe, Int.reduceToNat, ir_archive_Ask, QryT.cells, h, ro_row, slOf, avN]
  · simp only [bld_ne hne] at h ⊢
    simp -implicitDefEqProofs only [go_sem, reduceIte, reduceCtorEq, Nat.reduceEqDiff, Nat.reduceAdd, Nat.reduceSub, Nat.reduceLT, Nat.reduceLeDiff, Nat.reduceBEq, Nat.reduceMul, Nat.reduceBNe, Int.reduceEq, Int.reduceLT, Int.reduceLE, Int.reduceNe, Int.reduceToNat, ir_archive_Ask, QryT.cells, h, ro_row, slOf_ne hne, avM]
theorem fn_prune {E : Prog} (hE : Std E fns) (l : Sl RowT) (hl : l.list.length ≤ 1000) (n : Int) : callP E f_archive_Prune [rv l, vi n] = some (rv (slOf (l.list.filter fun r => decide (n ≤ r.te)))) := by
  obtain ⟨g, h⟩ := fn_keep hE f_archive_Prune_1 [vi n] rfl (fun r => decide (n ≤ r.te)) l hl fun r => fn_prune1 hE n r
  rw [hE.run rfl rfl]
  by_cases hne : (l.list.filter fun r => decide (n ≤ r.te)) = []
  · simp only [hne, bld_nil] at h ⊢
    simp -implicitDefEqProofs only [go_sem, reduceIte, reduceCtorEq, Nat.reduceEqDiff, Nat.reduceAdd, Nat.reduceSub, Nat.reduceLT, Nat.reduceLeDiff, Nat.reduceBEq, Nat.reduceMul, Nat.reduceBNe, Int.reduceEq, Int.reduceLT, Int.reduceLE, Int.reduceNe, Int.reduceToNat, ir_archive_Prune, h, ro_row, slOf, avN]
  · simp only [bld_ne hne] at h ⊢
    simp -implicitDefEqProofs only [go_sem, reduceIte, reduceCtorEq, Nat.reduceEqDiff, Nat.reduceAdd, Nat.reduceSub, Nat.reduceLT, Nat.reduceLeDiff, Nat.reduceBEq, Nat.reduceMul, Nat.reduceBNe, Int.reduceEq, Int.reduceLT, Int.reduceLE, Int.reduceNe, Int.reduceToNat, ir_archive_Prune, h, ro_row, slOf_ne hne, avM]
/-! ### the document's -/
theorem ask_no (q : QryT) (r : RowT) : ((((!decide (q.de = ⟨#[]⟩)) && !decide (q.de = r.de)) || ((!decide (q.ph = -1)) && !decide (q.ph = r.ph)) || decide (r.te < q.si)) || (decide (0 ≤ q.ti) && decide (q.ti < r.te))) = !askB q r := by
  unfold askB
  have e1 : decide (r.te < q.si) = !decide (q.si ≤ r.te) := by by_cases c : q.si ≤ r.te <;> simp [c]; omega
  have e2 : decide (0 ≤ q.ti) = !decide (q.ti < 0) := by by_cases c : q.ti < 0 <;> simp [c]; omega
  have e3 : decide (q.ti < r.te) = !decide (r.te ≤ q.ti) := by by_cases c : r.te ≤ q.ti <;> simp [c]; omega
  rw [e1, e2, e3]
  simp only [Bool.not_or, Bool.not_and, Bool.not_not]
theorem refAsk_loop {G : Nat → Option (List AV)} {raw : Raw} {L : Env × Store → Option (Sig × Env × Store)} (q : QryT) (l : Sl RowT) (hl : l.list.length ≤ 1000)
    (hL : ∀ e st, L (e, st) = (IR.runL G raw [] ir_usufructref31_Ask_L0 e st).bind (seqK fun e st => L (compact [] 1 [0, 3, 5, 6] e st))) :
    ∀ (rest : List RowT) (i : Nat) (out : List RowT) (g : Nat), l.list.drop i = rest → i ≤ l.list.length → out.length ≤ i →
    ∃ g' : Nat, L ([(0, rv l), (3, .ref 0 0 0 0), (5, (bld 6 RowT.cells g [.box q.cells] out).1), (6, vi i)], (bld 6 RowT.cells g [.box q.cells] out).2) =
      some (.exit 0, [(5, (bld 6 RowT.cells g' [.box q.cells] (out ++ rest.filter (askB q))).1)], (bld 6 RowT.cells g' [.box q.cells] (out ++ rest.filter (askB q))).2)
  | [], i, out, g, h, hi, ho => by
    have h1 := drop_nil' h hi
    refine ⟨g, ?_⟩
    rw [hL]
    simp -implicitDefEqProofs only [go_sem, reduceIte, reduceCtorEq, Nat.reduceEqDiff, Nat.reduceAdd, Nat.reduceSub, Nat.reduceLT, Nat.reduceLeDiff, Nat.reduceBEq, Nat.reduceMul, Nat.reduceBNe, Int.reduceEq, Int.reduceLT, Int.reduceLE, Int.reduceNe, Int.reduceToNat, ir_usufructref31_Ask_L0, h1, List.filter_nil]
  | x :: rest, i, out, g, h, hi, ho => by
    obtain ⟨h1, h2, h3, h4, h5⟩ := drop_cons h
    have h6 := wrap_succ (i := i) (by omega)
    have hb : (out.length + 1) * 56 ≤ 140737488355328 := by omega
    have hg := ask_no q x
    cases cp : askB q x
    · obtain ⟨g', ih⟩ := refAsk_loop q l hl hL rest (i + 1) out g h2 h4 (by omega)
      refine ⟨g', ?_⟩
      rw [List.filter_cons, if_neg (by rw [cp]; decide), ← ih, hL]
      rw [cp, Bool.not_false] at hg
      by_cases hne : out = []
      · subst hne
        simp -implicitDefEqProofs only [go_sem, reduceIte, reduceCtorEq, Nat.reduceEqDiff, Nat.reduceAdd, Nat.reduceSub, Nat.reduceLT, Nat.reduceLeDiff, Nat.reduceBEq, Nat.reduceMul, Nat.reduceBNe, Int.reduceEq, Int.reduceLT, Int.reduceLE, Int.reduceNe, Int.reduceToNat, ir_usufructref31_Ask_L0, h1, h3, h6, RowT.cells, QryT.cells, ro_row, gand_b, gor_b, Bool.decide_eq_true, hg]
      · simp -implicitDefEqProofs only [go_sem, reduceIte, reduceCtorEq, Nat.reduceEqDiff, Nat.reduceAdd, Nat.reduceSub, Nat.reduceLT, Nat.reduceLeDiff, Nat.reduceBEq, Nat.reduceMul, Nat.reduceBNe, Int.reduceEq, Int.reduceLT, Int.reduceLE, Int.reduceNe, Int.reduceToNat, ir_usufructref31_Ask_L0, h1, h3, h6, RowT.cells, QryT.cells, ro_row, bld_ne hne, gand_b, gor_b, Bool.decide_eq_true, hg]
    · rw [cp, Bool.not_true] at hg
      rw [List.filter_cons, if_pos cp]
      by_cases hne : out = []
      · subst hne
        obtain ⟨g', ih⟩ := refAsk_loop q l hl hL rest (i + 1) [x] 0 h2 h4 (by simp)
        refine ⟨g', ?_⟩
        rw [List.nil_append]
        rw [show x :: rest.filter (askB q) = [x] ++ rest.filter (askB q) from rfl, ← ih, hL]
        simp -implicitDefEqProofs only [go_sem, reduceIte, reduceCtorEq, Nat.reduceEqDiff, Nat.reduceAdd, Nat.reduceSub, Nat.reduceLT, Nat.reduceLeDiff, Nat.reduceBEq, Nat.reduceMul, Nat.reduceBNe, Int.reduceEq, Int.reduceLT, Int.reduceLE, Int.reduceNe, Int.reduceToNat, ir_usufructref31_Ask_L0, h1, h3, h6, RowT.cells, QryT.cells, ro_row, bld_ne (List.cons_ne_nil x []), gand_b, gor_b, Bool.decide_eq_true, hg]
      · obtain ⟨g', ih⟩ := refAsk_loop q l hl hL rest (i + 1) (out ++ [x]) (g + 1) h2 h4 (by simp; omega)
        refine ⟨g', ?_⟩
        rw [show out ++ x :: rest.filter (askB q) = (out ++ [x]) ++ rest.filter (askB q) by simp, ← ih, hL]
        simp -implicitDefEqProofs only [go_sem, reduceIte, reduceCtorEq, Nat.reduceEqDiff, Nat.reduceAdd, Nat.reduceSub, Nat.reduceLT, Nat.reduceLeDiff, Nat.reduceBEq, Nat.reduceMul, Nat.reduceBNe, Int.reduceEq, Int.reduceLT, Int.reduceLE, Int.reduceNe, Int.reduceToNat, ir_usufructref31_Ask_L0, h1, h3, h6, RowT.cells, QryT.cells, ro_row, bld_ne hne, bld_ne (ne_app out x), hb, gand_b, gor_b, Bool.decide_eq_true, hg]
theorem fn_refAsk {E : Prog} (hE : Std E fns) (l : Sl RowT) (hl : l.list.length ≤ 1000) (q : QryT) : callP E f_usufructref31_Ask [rv l, .agg q.cells] = some (rv (slOf (l.list.filter (askB q)))) := by
  obtain ⟨g', h⟩ := refAsk_loop q l hl (loopL_eq (IR.runL E.glob (callL E) [] ir_usufructref31_Ask_L0) (compact [] 1 [0, 3, 5, 6])) l.list 0 [] 0 rfl (by omega) (by simp)
  simp only [Int.natCast_zero, bld_nil, List.nil_append] at h
  rw [hE.run rfl rfl]
  by_cases hne : l.list.filter (askB q) = []
  · simp only [hne, bld_nil, QryT.cells] at h ⊢
    simp -implicitDefEqProofs only [go_sem, reduceIte, reduceCtorEq, Nat.reduceEqDiff, Nat.reduceAdd, Nat.reduceSub, Nat.reduceLT, Nat.reduceLeDiff, Nat.reduceBEq, Nat.reduceMul, Nat.reduceBNe, Int.reduceEq, Int.reduceLT, Int.reduceLE, Int.reduceNe, Int.reduceToNat, ir_usufructref31_Ask, QryT.cells, h, ro_row, slOf, avN]
  · simp only [bld_ne hne, QryT.cells] at h ⊢
    simp -implicitDefEqProofs only [go_sem, reduceIte, reduceCtorEq, Nat.reduceEqDiff, Nat.reduceAdd, Nat.reduceSub, Nat.reduceLT, Nat.reduceLeDiff, Nat.reduceBEq, Nat.reduceMul, Nat.reduceBNe, Int.reduceEq, Int.reduceLT, Int.reduceLE, Int.reduceNe, Int.reduceToNat, ir_usufructref31_Ask, QryT.cells, h, ro_row, slOf_ne hne, avM]
/-! ### sums -/
structure SumT where
  (a b c n : Int)
  deriving DecidableEq
def SumT.cells (s : SumT) : List AV := [vi s.a, vi s.b, vi s.c, vi s.n]
def sumS (s : SumT) (r : RowT) : SumT := ⟨if r.ph = 3 then s.a + 1 else s.a, if r.ph = 4 then s.b + 1 else s.b, if r.ph = 5 then s.c + 1 else s.c, tickAdd s.n r.cm⟩
def SumT.lt (s : SumT) (i : Nat) : Prop := 0 ≤ s.a ∧ s.a ≤ i ∧ 0 ≤ s.b ∧ s.b ≤ i ∧ 0 ≤ s.c ∧ s.c ≤ i
theorem sum_lt {s : SumT} {i : Nat} (h : s.lt i) (r : RowT) : (sumS s r).lt (i + 1) := by
  obtain ⟨h1, h2, h3, h4, h5, h6⟩ := h
  unfold sumS SumT.lt
  refine ⟨?_, ?_, ?_, ?_, ?_, ?_⟩ <;> dsimp only <;> split <;> omega
theorem wrap1 {a : Int} {i : Nat} (h0 : 0 ≤ a) (h1 : a ≤ i) (hi : i < 9223372036854775807) : IntKind.i64.wrap (a + 1) = a + 1 := IntWalk.i64_in _ (by omega)
theorem sums_loop {E : Prog} (hE : Std E fns) {L : Env × Store → Option (Sig × Env × Store)} (l : Sl RowT) (hl : l.list.length ≤ 1000)
    (hL : ∀ e st, L (e, st) = (IR.runL E.glob (callL E) [] ir_archive_Sums_L0 e st).bind (seqK fun e st => L (compact [] 0 [2, 3, 4, 5, 8, 9, 10] e st))) :
    ∀ (rest : List RowT) (i : Nat) (s : SumT), l.list.drop i = rest → i ≤ l.list.length → s.lt i →
    L ([(2, vi s.a), (3, vi s.b), (4, vi s.c), (5, vi s.n), (8, rv l), (9, vi l.list.length), (10, vi i)], []) =
      some (.exit 0, [(2, vi (rest.foldl sumS s).a), (3, vi (rest.foldl sumS s).b), (4, vi (rest.foldl sumS s).c), (5, vi (rest.foldl sumS s).n)], [])
  | [], i, s, h, hi, hs => by
    have h1 := drop_nil' h hi
    rw [hL]
    simp -implicitDefEqProofs only [go_sem, reduceIte, reduceCtorEq, Nat.reduceEqDiff, Nat.reduceAdd, Nat.reduceSub, Nat.reduceLT, Nat.reduceLeDiff, Nat.reduceBEq, Nat.reduceMul, Nat.reduceBNe, Int.reduceEq, Int.reduceLT, Int.reduceLE, Int.reduceNe, Int.reduceToNat, ir_archive_Sums_L0, h1, List.foldl_nil]
  | x :: rest, i, s, h, hi, hs => by
    obtain ⟨h1, h2, h3, h4, h5⟩ := drop_cons h
    have h6 := wrap_succ (i := i) (by omega)
    have ih := sums_loop hE l hl hL rest (i + 1) (sumS s x) h2 h4 (sum_lt hs x)
    have w1 := wrap1 hs.1 hs.2.1 (by omega)
    have w2 := wrap1 hs.2.2.1 hs.2.2.2.1 (by omega)
    have w3 := wrap1 hs.2.2.2.2.1 hs.2.2.2.2.2 (by omega)
    have ha := fn_tickAdd hE s.n x.cm
    rw [List.foldl_cons, ← ih, hL]
    by_cases p3 : x.ph = 3
    · simp -implicitDefEqProofs only [go_sem, reduceIte, reduceCtorEq, Nat.reduceEqDiff, Nat.reduceAdd, Nat.reduceSub, Nat.reduceLT, Nat.reduceLeDiff, Nat.reduceBEq, Nat.reduceMul, Nat.reduceBNe, Int.reduceEq, Int.reduceLT, Int.reduceLE, Int.reduceNe, Int.reduceToNat, ir_archive_Sums_L0, h1, h3, h6, RowT.cells, ro_row, ha, w1, w2, w3, p3, sumS]
    · by_cases p4 : x.ph = 4
      · simp -implicitDefEqProofs only [go_sem, reduceIte, reduceCtorEq, Nat.reduceEqDiff, Nat.reduceAdd, Nat.reduceSub, Nat.reduceLT, Nat.reduceLeDiff, Nat.reduceBEq, Nat.reduceMul, Nat.reduceBNe, Int.reduceEq, Int.reduceLT, Int.reduceLE, Int.reduceNe, Int.reduceToNat, ir_archive_Sums_L0, h1, h3, h6, RowT.cells, ro_row, ha, w1, w2, w3, p4, sumS]
      · by_cases p5 : x.ph = 5
        · simp -implicitDefEqProofs only [go_sem, reduceIte, reduceCtorEq, Nat.reduceEqDiff, Nat.reduceAdd, Nat.reduceSub, Nat.reduceLT, Nat.reduceLeDiff, Nat.reduceBEq, Nat.reduceMul, Nat.reduceBNe, Int.reduceEq, Int.reduceLT, Int.reduceLE, Int.reduceNe, Int.reduceToNat, ir_archive_Sums_L0, h1, h3, h6, RowT.cells, ro_row, ha, w1, w2, w3, p5, sumS]
        · simp -implicitDefEqProofs only [go_sem, reduceIte, reduceCtorEq, Nat.reduceEqDiff, Nat.reduceAdd, Nat.reduceSub, Nat.reduceLT, Nat.reduceLeDiff, Nat.reduceBEq, Nat.reduceMul, Nat.reduceBNe, Int.reduceEq, Int.reduceLT, Int.reduceLE, Int.reduceNe, Int.reduceToNat, ir_archive_Sums_L0, h1, h3, h6, RowT.cells, ro_row, ha, w1, w2, w3, p3, p4, p5, sumS]
def s0 : SumT := ⟨0, 0, 0, 0⟩
theorem s0_lt : s0.lt 0 := by unfold SumT.lt s0; decide
theorem fn_sums {E : Prog} (hE : Std E fns) (l : Sl RowT) (hl : l.list.length ≤ 1000) : callP E f_archive_Sums [rv l] = some (.tup (l.list.foldl sumS s0).cells) := by
  have ih := sums_loop hE l hl (loopL_eq (IR.runL E.glob (callL E) [] ir_archive_Sums_L0) (compact [] 0 [2, 3, 4, 5, 8, 9, 10])) l.list 0 s0 rfl (by omega) s0_lt
  simp only [Int.natCast_zero, s0] at ih
  rw [hE.run rfl rfl]
  simp -implicitDefEqProofs only [go_sem, reduceIte, reduceCtorEq, Nat.reduceEqDiff, Nat.reduceAdd, Nat.reduceSub, Nat.reduceLT, Nat.reduceLeDiff, Nat.reduceBEq, Nat.reduceMul, Nat.reduceBNe, Int.reduceEq, Int.reduceLT, Int.reduceLE, Int.reduceNe, Int.reduceToNat, ir_archive_Sums, ih, ro_row, SumT.cells, s0, tupOf]
theorem cast4 : ((4 : Nat) : Int) = 4 := rfl
theorem refSums_loop {E : Prog} (hE : Std E fns) {L : Env × Store → Option (Sig × Env × Store)} (l : Sl RowT) (hl : l.list.length ≤ 1000)
    (hL : ∀ e st, L (e, st) = (IR.runL E.glob (callL E) [] ir_usufructref31_Sums_L0 e st).bind (seqK fun e st => L (compact [] 2 [0, 2, 3, 4] e st))) :
    ∀ (rest : List RowT) (i : Nat) (s : SumT), l.list.drop i = rest → i ≤ l.list.length → s.lt i →
    L ([(0, rv l), (2, .ref 0 0 0 0), (3, .ref 1 0 0 0), (4, vi i)], [.box s0.cells, .box s.cells]) =
      some (.exit 0, [(2, .ref 0 0 0 0), (3, .ref 1 0 0 0)], [.box s0.cells, .box (rest.foldl sumS s).cells])
  | [], i, s, h, hi, hs => by
    have h1 := drop_nil' h hi
    rw [hL]
    simp -implicitDefEqProofs only [go_sem, reduceIte, reduceCtorEq, Nat.reduceEqDiff, Nat.reduceAdd, Nat.reduceSub, Nat.reduceLT, Nat.reduceLeDiff, Nat.reduceBEq, Nat.reduceMul, Nat.reduceBNe, Int.reduceEq, Int.reduceLT, Int.reduceLE, Int.reduceNe, Int.reduceToNat, ir_usufructref31_Sums_L0, h1, List.foldl_nil]
  | x :: rest, i, s, h, hi, hs => by
    obtain ⟨h1, h2, h3, h4, h5⟩ := drop_cons h
    have h6 := wrap_succ (i := i) (by omega)
    have ih := refSums_loop hE l hl hL rest (i + 1) (sumS s x) h2 h4 (sum_lt hs x)
    have w1 := wrap1 hs.1 hs.2.1 (by omega)
    have w2 := wrap1 hs.2.2.1 hs.2.2.2.1 (by omega)
    have w3 := wrap1 hs.2.2.2.2.1 hs.2.2.2.2.2 (by omega)
    have ha := fn_ref01Add hE s.n x.cm
    have v0 : IntKind.i64.wrap (0 : Int) = 0 := by decide
    have v1 : IntKind.i64.wrap (1 : Int) = 1 := by decide
    have v2 : IntKind.i64.wrap (2 : Int) = 2 := by decide
    rw [List.foldl_cons, ← ih, hL]
    by_cases p3 : x.ph = 3
    · simp -implicitDefEqProofs only [go_sem, reduceIte, reduceCtorEq, Nat.reduceEqDiff, Nat.reduceAdd, Nat.reduceSub, Nat.reduceLT, Nat.reduceLeDiff, Nat.reduceBEq, Nat.reduceMul, Nat.reduceBNe, Int.reduceEq, Int.reduceLT, Int.reduceLE, Int.reduceNe, Int.reduceToNat, iapF, ev_iap, ir_usufructref31_Sums_L0, h1, h3, h6, RowT.cells, SumT.cells, s0, ro_row, ha, w1, w2, w3, p3, sumS, v0, Int.reduceSub, cast4]
    · by_cases p4 : x.ph = 4
      · simp -implicitDefEqProofs only [go_sem, reduceIte, reduceCtorEq, Nat.reduceEqDiff, Nat.reduceAdd, Nat.reduceSub, Nat.reduceLT, Nat.reduceLeDiff, Nat.reduceBEq, Nat.reduceMul, Nat.reduceBNe, Int.reduceEq, Int.reduceLT, Int.reduceLE, Int.reduceNe, Int.reduceToNat, iapF, ev_iap, ir_usufructref31_Sums_L0, h1, h3, h6, RowT.cells, SumT.cells, s0, ro_row, ha, w1, w2, w3, p4, sumS, v1, Int.reduceSub, cast4]
      · by_cases p5 : x.ph = 5
        · simp -implicitDefEqProofs only [go_sem, reduceIte, reduceCtorEq, Nat.reduceEqDiff, Nat.reduceAdd, Nat.reduceSub, Nat.reduceLT, Nat.reduceLeDiff, Nat.reduceBEq, Nat.reduceMul, Nat.reduceBNe, Int.reduceEq, Int.reduceLT, Int.reduceLE, Int.reduceNe, Int.reduceToNat, iapF, ev_iap, ir_usufructref31_Sums_L0, h1, h3, h6, RowT.cells, SumT.cells, s0, ro_row, ha, w1, w2, w3, p5, sumS, v2, Int.reduceSub, cast4]
        · by_cases q3 : 3 ≤ x.ph
          · have q5 : ¬ x.ph ≤ 5 := by omega
            simp -implicitDefEqProofs only [go_sem, reduceIte, reduceCtorEq, Nat.reduceEqDiff, Nat.reduceAdd, Nat.reduceSub, Nat.reduceLT, Nat.reduceLeDiff, Nat.reduceBEq, Nat.reduceMul, Nat.reduceBNe, Int.reduceEq, Int.reduceLT, Int.reduceLE, Int.reduceNe, Int.reduceToNat, iapF, ev_iap, ir_usufructref31_Sums_L0, h1, h3, h6, RowT.cells, SumT.cells, s0, ro_row, ha, w1, w2, w3, p3, p4, p5, q3, q5, sumS, Int.reduceSub, cast4]
          · simp -implicitDefEqProofs only [go_sem, reduceIte, reduceCtorEq, Nat.reduceEqDiff, Nat.reduceAdd, Nat.reduceSub, Nat.reduceLT, Nat.reduceLeDiff, Nat.reduceBEq, Nat.reduceMul, Nat.reduceBNe, Int.reduceEq, Int.reduceLT, Int.reduceLE, Int.reduceNe, Int.reduceToNat, iapF, ev_iap, ir_usufructref31_Sums_L0, h1, h3, h6, RowT.cells, SumT.cells, s0, ro_row, ha, w1, w2, w3, p3, p4, p5, q3, sumS, Int.reduceSub, cast4]
theorem fn_refSums {E : Prog} (hE : Std E fns) (l : Sl RowT) (hl : l.list.length ≤ 1000) : callP E f_usufructref31_Sums [rv l] = some (.agg (l.list.foldl sumS s0).cells) := by
  have ih := refSums_loop hE l hl (loopL_eq (IR.runL E.glob (callL E) [] ir_usufructref31_Sums_L0) (compact [] 2 [0, 2, 3, 4])) l.list 0 s0 rfl (by omega) s0_lt
  simp only [Int.natCast_zero, SumT.cells, s0] at ih
  rw [hE.run rfl rfl]
  simp -implicitDefEqProofs only [go_sem, reduceIte, reduceCtorEq, Nat.reduceEqDiff, Nat.reduceAdd, Nat.reduceSub, Nat.reduceLT, Nat.reduceLeDiff, Nat.reduceBEq, Nat.reduceMul, Nat.reduceBNe, Int.reduceEq, Int.reduceLT, Int.reduceLE, Int.reduceNe, Int.reduceToNat, ir_usufructref31_Sums, ih, ro_row, SumT.cells, s0]
/-! ### the law -/
theorem ask_prune (n : Int) (r : RowT) : askB ⟨⟨#[]⟩, -1, n, -1⟩ r = decide (n ≤ r.te) := by
  unfold askB
  by_cases c : n ≤ r.te <;> simp [c]
theorem filter_swap (p q : RowT → Bool) (l : List RowT) : (l.filter p).filter q = (l.filter q).filter p := by
  rw [List.filter_filter, List.filter_filter]
  congr 1
  funext x
  rw [Bool.and_comm]
theorem eqL_sum (x : SumT) : eqL [.i, .i, .i, .i] x.cells x.cells = some true := by
  simp only [SumT.cells, eqL, eqV, if_true, int_beq, decide_true, Bool.and_true]
theorem fn_lawAsks {E : Prog} (hE : Std E fns) (hw : callP E f_usufructlaw31_awake [] = some (vb true)) (l : Sl RowT) (q : QryT) (n : Int) :
    callP E f_usufructlaw31_ArchiveAsks [rv l, .agg q.cells, vi n] = some (vb true) := by
  have h1 := fn_short hE l
  rw [hE.run rfl rfl]
  cases hs : shortR l.list
  · rw [hs] at h1
    simp -implicitDefEqProofs only [go_sem, reduceIte, reduceCtorEq, Nat.reduceEqDiff, Nat.reduceAdd, Nat.reduceSub, Nat.reduceLT, Nat.reduceLeDiff, Nat.reduceBEq, Nat.reduceMul, Nat.reduceBNe, Int.reduceEq, Int.reduceLT, Int.reduceLE, Int.reduceNe, Int.reduceToNat, ir_usufructlaw31_ArchiveAsks, QryT.cells, hw, h1, ro_row]
  · rw [hs] at h1
    have hl : l.list.length ≤ 20 := by
      unfold shortR at hs
      simp only [Bool.and_eq_true, decide_eq_true_eq] at hs
      exact hs.1
    by_cases s2 : 100 < q.de.size
    · have s2' : ((100 : Int) < ((q.de.size : Nat) : Int)) = True := eq_true (by omega)
      simp -implicitDefEqProofs only [go_sem, reduceIte, reduceCtorEq, Nat.reduceEqDiff, Nat.reduceAdd, Nat.reduceSub, Nat.reduceLT, Nat.reduceLeDiff, Nat.reduceBEq, Nat.reduceMul, Nat.reduceBNe, Int.reduceEq, Int.reduceLT, Int.reduceLE, Int.reduceNe, Int.reduceToNat, ir_usufructlaw31_ArchiveAsks, QryT.cells, hw, h1, ro_row, s2']
    · have s2' : ((100 : Int) < ((q.de.size : Nat) : Int)) = False := eq_false (by omega)
      have f1 := fn_ask hE l (by omega) q
      have f2 := fn_prune hE l (by omega) n
      have f3 := fn_refAsk hE l (by omega) q
      have f4 := fn_refAsk hE l (by omega) ⟨⟨#[]⟩, -1, n, -1⟩
      have ef : l.list.filter (askB ⟨⟨#[]⟩, -1, n, -1⟩) = l.list.filter fun r => decide (n ≤ r.te) := by congr 1; funext r; exact ask_prune n r
      rw [ef] at f4
      have g1 := List.length_filter_le (askB q) l.list
      have g2 := List.length_filter_le (fun r => decide (n ≤ r.te)) l.list
      have f5 := fn_ask hE (slOf (l.list.filter fun r => decide (n ≤ r.te))) (by rw [slOf_list]; omega) q
      have f6 := fn_prune hE (slOf (l.list.filter (askB q))) (by rw [slOf_list]; omega) n
      rw [slOf_list] at f5 f6
      rw [filter_swap] at f5
      have f7 := fn_sums hE l (by omega)
      have f8 := fn_refSums hE l (by omega)
      generalize l.list.foldl sumS s0 = N at f7 f8
      have f9 := fn_same hE (slOf (l.list.filter (askB q))) (slOf (l.list.filter (askB q))) (by rw [slOf_list]; omega)
      have f10 := fn_same hE (slOf (l.list.filter fun r => decide (n ≤ r.te))) (slOf (l.list.filter fun r => decide (n ≤ r.te))) (by rw [slOf_list]; omega)
      have f11 := fn_same hE (slOf ((l.list.filter (askB q)).filter fun r => decide (n ≤ r.te))) (slOf ((l.list.filter (askB q)).filter fun r => decide (n ≤ r.te))) (by rw [slOf_list]; have := List.length_filter_le (fun r => decide (n ≤ r.te)) (l.list.filter (askB q)); omega)
      have e1 := eqL_sum N
      simp only [QryT.cells] at f1 f3 f4 f5
      simp only [SumT.cells] at f7 f8 e1
      simp -implicitDefEqProofs only [go_sem, reduceIte, reduceCtorEq, Nat.reduceEqDiff, Nat.reduceAdd, Nat.reduceSub, Nat.reduceLT, Nat.reduceLeDiff, Nat.reduceBEq, Nat.reduceMul, Nat.reduceBNe, Int.reduceEq, Int.reduceLT, Int.reduceLE, Int.reduceNe, Int.reduceToNat, ir_usufructlaw31_ArchiveAsks, QryT.cells, hw, h1, ro_row, s2', f1, f2, f3, f4, f5, f6, f7, f8, f9, f10, f11, e1]
end Go.Proofs.YtklggglkdfnpkaaDoor.Ev
