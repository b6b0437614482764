/-
  Archives: which rows are one; adding a row.
-/
import Derived.Test.YtklggglkdfnpkaaDoorEvAr2
import Derived.Test.YtklggglkdfnpkaaDoorEvUtf3
import Derived.Test.YtklggglkdfnpkaaDoorEvCopy
set_option linter.unusedVariables false
set_option linter.unusedSimpArgs false
namespace Go.Proofs.YtklggglkdfnpkaaDoor.Ev
attribute [local congr] bind_congr_head
attribute [local go_sem] opd_t opd_c opd_g opd_f opds_nil opds_cons get_cons put_some put_none keep_nil keepC_s keepC_n keep_cons runs_nil runs_cons run_op run_opr run_call run_gand run_gor run_gif seqK_norm seqK_exit seqK_ret blkK_norm blkK_exit blkK_ret runL_skip runL_exit runL_ret runL_items runL_seq runL_cond runL_block runL_loop fin_bind finK_norm finK_ret rvs_nil rvs_cons rv_tmp rv_cell tupOf_one tupOf_nil tupOf_two ev_mov ev_pick ev_alloc ev_box ev_build parts_nil parts_cons fills_nil fills_cons ev_bsl ev_bslo ev_load ev_store ev_nilck ev_bin ev_binb ev_aeq ev_un ev_i2i ev_i2t ev_isnilI nilIF ev_s2b ev_ext ev_fld ev_idxs ev_fa ev_ias ev_len ev_lens ev_s2s ev_mkf ev_rng ev_nxt ev_app bOf_s pvOf_s agOf_s tpOf_s iOf_s sOf_s ite_bind Option.bind_some Option.bind_none if_true if_false ite_true ite_false argEnv_nil argEnv_cons len_av elems_av ias_av cells_av tuple_av AV.tuple AV.cells faF ldAt liveRef aggOf nilckF binV binI binS binB unV Bool.not_true Bool.not_false List.length_nil List.length_cons List.nil_append List.cons_append List.append_nil List.getElem?_cons_zero List.getElem?_cons_succ List.drop_zero List.drop_succ_cons List.drop_nil List.take_zero List.take_succ_cons List.take_nil List.set_cons_zero List.set_cons_succ compact_same compact_new closedB nodupB envIds ids0 upto visit pos sel AV.ids idss idsss Ob.ids AV.ren rens renss Ob.ren renEnv AV.snap snaps stAt okSt putCells List.all_nil List.all_cons List.contains_nil List.contains_cons Bool.and_true Bool.true_and Bool.and_false Bool.false_and Bool.or_true Bool.true_or Bool.or_false Bool.false_or decide_eq_true_eq decide_true decide_false beq_iff_eq bne_iff_ne beq_self_eq_true Bool.not_eq_true' Bool.false_eq_true eq_self and_self and_true true_and and_false false_and or_true true_or or_false false_or not_true_eq_false not_false_eq_true ne_eq Nat.zero_add Nat.add_zero Nat.le_refl Nat.not_lt_zero Nat.lt_irrefl Nat.zero_le Int.toNat_natCast gt_iff_lt ge_iff_le Int.lt_irrefl Int.natCast_nonneg txt_eq get_nil appF elems belows AV.under AV.flat flats List.length_map List.map_append List.map_cons List.map_nil List.length_append take_map_all List.flatten_cons List.flatten_nil bld_nil imp_false false_imp_iff false_implies true_implies implies_true decide_eq_false_iff_not Nat.one_mul Nat.mul_one idsss_app renss_app belowss_app ev_mn ev_mx ev_isnils ev_sls ev_slx evo_none evo_some vals minV maxV minF maxF backId List.getElem?_nil putAll Option.all_none Option.all_some Option.isSome_some intOf aszI compactV_same compactV_new callP_any callQ_eq callN_any boxQ AV.id? ids_avR ren_av under_av snap_av renss_mapf belowss_mapf idsss_mapf isnilsF List.length_eq_zero_iff int_beq int_bne decide_not slx_av Int.toNat_zero ev_mkm ev_lk ev_mup ev_mdl ev_lenm ev_isnilm mpOf_s mapAt_s mapOf_nil mapOf_mp isnilm_nil isnilm_mp lkR Option.getD_some Option.getD_none Option.isSome_none Prim.rdo ev_snp snp_own snp_v
abbrev VOK (E : Prog) : Prop := ∀ s : ByteArray, s.size < 9223372036854775807 → callP E f_utf8_ValidString [vs s] = some (vb (Lib.validD s.data.toList))
def rightB (r : RowT) : Bool := tickGood r.sg && tickGood r.fr && tickGood r.te && tickGood r.cm && labelGood r.de && decide (3 ≤ r.ph) && decide (r.ph ≤ 5)
theorem right_loop {E : Prog} (hE : Std E fns) {L : Env × Store → Option (Sig × Env × Store)} (a b c d : Int) (ob : Ob) 
    (hL : ∀ e st, L (e, st) = (IR.runL E.glob (callL E) [] ir_archive_right_L0 e st).bind (seqK fun e st => L (compact [] 1 [1, 13, 14] e st))) :
    L ([(1, .ref 0 0 0 0), (13, .agg [vi a, vi b, vi c, vi d]), (14, vi 0)], [ob]) = if (tickGood a && tickGood b && tickGood c && tickGood d) = true then some (.exit 0, [(1, .ref 0 0 0 0)], [ob]) else some (.ret, [(2, vb false)], [ob]) := by
  have ha := fn_tickGood hE a
  have hb := fn_tickGood hE b
  have hc := fn_tickGood hE c
  have hd := fn_tickGood hE d
  have w0 : IntKind.i64.wrap ((0 : Int) + 1) = 1 := by decide
  have w1 : IntKind.i64.wrap ((1 : Int) + 1) = 2 := by decide
  have w2 : IntKind.i64.wrap ((2 : Int) + 1) = 3 := by decide
  have w3 : IntKind.i64.wrap ((3 : Int) + 1) = 4 := by decide
  have c4 : ((4 : Nat) : Int) = 4 := rfl
  have l4 : L ([(1, .ref 0 0 0 0), (13, .agg [vi a, vi b, vi c, vi d]), (14, vi 4)], [ob]) = some (.exit 0, [(1, .ref 0 0 0 0)], [ob]) := by
    rw [hL]
    simp -implicitDefEqProofs only [go_sem, reduceIte, reduceCtorEq, Nat.reduceEqDiff, Nat.reduceAdd, Nat.reduceSub, Nat.reduceLT, Nat.reduceLeDiff, Nat.reduceBEq, Nat.reduceMul, Nat.reduceBNe, Int.reduceEq, Int.reduceLT, Int.reduceLE, Int.reduceNe, Int.reduceToNat, ir_archive_right_L0]
  have l3 : L ([(1, .ref 0 0 0 0), (13, .agg [vi a, vi b, vi c, vi d]), (14, vi 3)], [ob]) = if tickGood d = true then some (.exit 0, [(1, .ref 0 0 0 0)], [ob]) else some (.ret, [(2, vb false)], [ob]) := by
    rw [hL]
    simp -implicitDefEqProofs only [go_sem, reduceIte, reduceCtorEq, Nat.reduceEqDiff, Nat.reduceAdd, Nat.reduceSub, Nat.reduceLT, Nat.reduceLeDiff, Nat.reduceBEq, Nat.reduceMul, Nat.reduceBNe, Int.reduceEq, Int.reduceLT, Int.reduceLE, Int.reduceNe, Int.reduceToNat, ir_archive_right_L0, ev_idxa, hd, w3, c4, l4]
    cases tickGood d <;> simp
  have l2 : L ([(1, .ref 0 0 0 0), (13, .agg [vi a, vi b, vi c, vi d]), (14, vi 2)], [ob]) = if (tickGood c && tickGood d) = true then some (.exit 0, [(1, .ref 0 0 0 0)], [ob]) else some (.ret, [(2, vb false)], [ob]) := by
    rw [hL]
    simp -implicitDefEqProofs only [go_sem, reduceIte, reduceCtorEq, Nat.reduceEqDiff, Nat.reduceAdd, Nat.reduceSub, Nat.reduceLT, Nat.reduceLeDiff, Nat.reduceBEq, Nat.reduceMul, Nat.reduceBNe, Int.reduceEq, Int.reduceLT, Int.reduceLE, Int.reduceNe, Int.reduceToNat, ir_archive_right_L0, ev_idxa, hc, w2, c4, l3]
    cases tickGood c <;> simp
  have l1 : L ([(1, .ref 0 0 0 0), (13, .agg [vi a, vi b, vi c, vi d]), (14, vi 1)], [ob]) = if (tickGood b && (tickGood c && tickGood d)) = true then some (.exit 0, [(1, .ref 0 0 0 0)], [ob]) else some (.ret, [(2, vb false)], [ob]) := by
    rw [hL]
    simp -implicitDefEqProofs only [go_sem, reduceIte, reduceCtorEq, Nat.reduceEqDiff, Nat.reduceAdd, Nat.reduceSub, Nat.reduceLT, Nat.reduceLeDiff, Nat.reduceBEq, Nat.reduceMul, Nat.reduceBNe, Int.reduceEq, Int.reduceLT, Int.reduceLE, Int.reduceNe, Int.reduceToNat, ir_archive_right_L0, ev_idxa, hb, w1, c4, l2]
    cases tickGood b <;> simp
  rw [hL]
  simp -implicitDefEqProofs only [go_sem, reduceIte, reduceCtorEq, Nat.reduceEqDiff, Nat.reduceAdd, Nat.reduceSub, Nat.reduceLT, Nat.reduceLeDiff, Nat.reduceBEq, Nat.reduceMul, Nat.reduceBNe, Int.reduceEq, Int.reduceLT, Int.reduceLE, Int.reduceNe, Int.reduceToNat, ir_archive_right_L0, ev_idxa, ha, w0, c4, l1]
  cases tickGood a <;> simp [and_assoc]
theorem fn_right {E : Prog} (hE : Std E fns) (hv : VOK E) (r : RowT) (hr : r.de.size < 2305843009213693952) : callP E f_archive_right [.agg r.cells] = some (vb (rightB r)) := by
  have h := right_loop hE r.sg r.fr r.te r.cm (.box r.cells) (loopL_eq (IR.runL E.glob (callL E) [] ir_archive_right_L0) (compact [] 1 [1, 13, 14]))
  have hl := fn_labelGood hE hv r.de (by omega)
  simp only [RowT.cells] at h
  rw [hE.run rfl rfl]
  unfold rightB
  cases hg : (tickGood r.sg && tickGood r.fr && tickGood r.te && tickGood r.cm)
  · rw [hg] at h
    simp only [Bool.false_eq_true, if_false] at h
    simp -implicitDefEqProofs only [go_sem, reduceIte, reduceCtorEq, Nat.reduceEqDiff, Nat.reduceAdd, Nat.reduceSub, Nat.reduceLT, Nat.reduceLeDiff, Nat.reduceBEq, Nat.reduceMul, Nat.reduceBNe, Int.reduceEq, Int.reduceLT, Int.reduceLE, Int.reduceNe, Int.reduceToNat, ir_archive_right, RowT.cells, h]
  · rw [hg] at h
    simp only [if_true] at h
    simp -implicitDefEqProofs only [go_sem, reduceIte, reduceCtorEq, Nat.reduceEqDiff, Nat.reduceAdd, Nat.reduceSub, Nat.reduceLT, Nat.reduceLeDiff, Nat.reduceBEq, Nat.reduceMul, Nat.reduceBNe, Int.reduceEq, Int.reduceLT, Int.reduceLE, Int.reduceNe, Int.reduceToNat, ir_archive_right, RowT.cells, h, hl, gand_b, Bool.decide_eq_true]
theorem fn_refTick {E : Prog} (hE : Std E fns) (n : Int) : callP E f_usufructref31_tick [vi n] = some (vb (tickGood n)) := by
  rw [hE.run rfl rfl]
  simp -implicitDefEqProofs only [go_sem, reduceIte, reduceCtorEq, Nat.reduceEqDiff, Nat.reduceAdd, Nat.reduceSub, Nat.reduceLT, Nat.reduceLeDiff, Nat.reduceBEq, Nat.reduceMul, Nat.reduceBNe, Int.reduceEq, Int.reduceLT, Int.reduceLE, Int.reduceNe, Int.reduceToNat, ir_usufructref31_tick, tickGood]
  by_cases c1 : 0 ≤ n <;> simp [c1]
theorem fn_refRight {E : Prog} (hE : Std E fns) (r : RowT) (hr : r.de.size < 2305843009213693952) : callP E f_usufructref31_Right [.agg r.cells] = some (vb (rightB r)) := by
  have hl := fn_refGood hE r.de hr
  have h1 := fn_refTick hE r.sg
  have h2 := fn_refTick hE r.fr
  have h3 := fn_refTick hE r.te
  have h4 := fn_refTick hE r.cm
  rw [hE.run rfl rfl]
  unfold rightB
  simp -implicitDefEqProofs only [go_sem, reduceIte, reduceCtorEq, Nat.reduceEqDiff, Nat.reduceAdd, Nat.reduceSub, Nat.reduceLT, Nat.reduceLeDiff, Nat.reduceBEq, Nat.reduceMul, Nat.reduceBNe, Int.reduceEq, Int.reduceLT, Int.reduceLE, Int.reduceNe, Int.reduceToNat, ir_usufructref31_Right, RowT.cells, h1, h2, h3, h4, hl, gand_b, Bool.decide_eq_true]
/-! ### Good -/
/-- Right rows, rising, behind a row. -/
def ltP : Option RowT → RowT → Bool
  | none, _ => true
  | some y, x => decide (y.sg < x.sg)
theorem ltP_some {y x : RowT} : ltP (some y) x = !decide (x.sg ≤ y.sg) := by unfold ltP; by_cases c : x.sg ≤ y.sg <;> simp [c]; omega
theorem ltP_none {x : RowT} : ltP none x = true := rfl
def goodR : Option RowT → List RowT → Bool
  | _, [] => true
  | p, x :: r => rightB x && ltP p x && goodR (some x) r
def prevR (l : List RowT) (i : Nat) : Option RowT := if i = 0 then none else l[i - 1]?
theorem good_loop31 {E : Prog} (hE : Std E fns) (hv : VOK E) {L : Env × Store → Option (Sig × Env × Store)} (l : Sl RowT) (hl : l.list.length ≤ 1000) (hs : ∀ r, r ∈ l.list → r.de.size < 2305843009213693952)
    (hL : ∀ e st, L (e, st) = (IR.runL E.glob (callL E) [] ir_archive_Good_L0 e st).bind (seqK fun e st => L (compact [] 0 [0, 5, 6, 7] e st))) :
    ∀ (rest : List RowT) (i : Nat), l.list.drop i = rest → i ≤ l.list.length →
    ∃ q : Store, L ([(0, rv l), (5, rv l), (6, vi l.list.length), (7, vi i)], []) = if goodR (prevR l.list i) rest = true then some (.exit 0, [], []) else some (.ret, [(2, vb false)], q)
  | [], i, h, hi => by
    have h1 := drop_nil' h hi
    refine ⟨[], ?_⟩
    rw [hL]
    simp -implicitDefEqProofs only [go_sem, reduceIte, reduceCtorEq, Nat.reduceEqDiff, Nat.reduceAdd, Nat.reduceSub, Nat.reduceLT, Nat.reduceLeDiff, Nat.reduceBEq, Nat.reduceMul, Nat.reduceBNe, Int.reduceEq, Int.reduceLT, Int.reduceLE, Int.reduceNe, Int.reduceToNat, ir_archive_Good_L0, h1, goodR]
  | x :: rest, i, h, hi => by
    obtain ⟨h1, h2, h3, h4, h5⟩ := drop_cons h
    have h6 := wrap_succ (i := i) (by omega)
    obtain ⟨q, ih⟩ := good_loop31 hE hv l hl hs hL rest (i + 1) h2 h4
    have hp : prevR l.list (i + 1) = some x := by unfold prevR; rw [if_neg (by omega)]; exact h1
    rw [hp] at ih
    have hx := fn_right hE hv x (hs x (List.mem_of_getElem? h1))
    simp only [RowT.cells] at hx
    rw [hL]
    unfold goodR
    cases i with
    | zero =>
      have e0 : prevR l.list 0 = none := rfl
      rw [e0, ltP_none]
      simp only [Int.natCast_zero] at h3 h6 ⊢
      cases hb : rightB x
      · rw [hb] at hx
        simp -implicitDefEqProofs only [go_sem, reduceIte, reduceCtorEq, Nat.reduceEqDiff, Nat.reduceAdd, Nat.reduceSub, Nat.reduceLT, Nat.reduceLeDiff, Nat.reduceBEq, Nat.reduceMul, Nat.reduceBNe, Int.reduceEq, Int.reduceLT, Int.reduceLE, Int.reduceNe, Int.reduceToNat, ir_archive_Good_L0, h1, h3, h6, RowT.cells, ro_row, hx]
        exact ⟨_, rfl⟩
      · rw [hb] at hx
        simp -implicitDefEqProofs only [go_sem, reduceIte, reduceCtorEq, Nat.reduceEqDiff, Nat.reduceAdd, Nat.reduceSub, Nat.reduceLT, Nat.reduceLeDiff, Nat.reduceBEq, Nat.reduceMul, Nat.reduceBNe, Int.reduceEq, Int.reduceLT, Int.reduceLE, Int.reduceNe, Int.reduceToNat, ir_archive_Good_L0, h1, h3, h6, RowT.cells, ro_row, hx, ih]
        exact ⟨q, rfl⟩
    | succ i =>
      have h7 : IntKind.i64.wrap (((i + 1 : Nat) : Int) - 1) = (i : Int) := by rw [IntWalk.i64_in _ (by omega)]; omega
      have h8 : (0 : Int) < ((i + 1 : Nat) : Int) := by omega
      obtain ⟨y, hy⟩ : ∃ y, l.list[i]? = some y := ⟨_, List.getElem?_eq_getElem (by omega)⟩
      have e0 : prevR l.list (i + 1) = some y := by unfold prevR; rw [if_neg (by omega)]; exact hy
      rw [e0]
      rw [ltP_some]
      cases hb : rightB x
      · rw [hb] at hx
        simp -implicitDefEqProofs only [go_sem, reduceIte, reduceCtorEq, Nat.reduceEqDiff, Nat.reduceAdd, Nat.reduceSub, Nat.reduceLT, Nat.reduceLeDiff, Nat.reduceBEq, Nat.reduceMul, Nat.reduceBNe, Int.reduceEq, Int.reduceLT, Int.reduceLE, Int.reduceNe, Int.reduceToNat, ir_archive_Good_L0, h1, h3, h6, h7, h8, hy, RowT.cells, ro_row, hx]
        exact ⟨_, rfl⟩
      · rw [hb] at hx
        by_cases c : x.sg ≤ y.sg
        · simp -implicitDefEqProofs only [go_sem, reduceIte, reduceCtorEq, Nat.reduceEqDiff, Nat.reduceAdd, Nat.reduceSub, Nat.reduceLT, Nat.reduceLeDiff, Nat.reduceBEq, Nat.reduceMul, Nat.reduceBNe, Int.reduceEq, Int.reduceLT, Int.reduceLE, Int.reduceNe, Int.reduceToNat, ir_archive_Good_L0, h1, h3, h6, h7, h8, hy, RowT.cells, ro_row, hx, c, ih]
          exact ⟨_, rfl⟩
        · simp -implicitDefEqProofs only [go_sem, reduceIte, reduceCtorEq, Nat.reduceEqDiff, Nat.reduceAdd, Nat.reduceSub, Nat.reduceLT, Nat.reduceLeDiff, Nat.reduceBEq, Nat.reduceMul, Nat.reduceBNe, Int.reduceEq, Int.reduceLT, Int.reduceLE, Int.reduceNe, Int.reduceToNat, ir_archive_Good_L0, h1, h3, h6, h7, h8, hy, RowT.cells, ro_row, hx, c, ih]
          exact ⟨q, rfl⟩
theorem snap_cV (x : Value) (q : Store) : AV.snap (compactV [] 0 (.v x, q)).2 (compactV [] 0 (.v x, q)).1 = some (.v x) := by
  by_cases h : 0 < q.length
  · rw [compactV_new h]
    split <;> rfl
  · rw [compactV_same (by omega)]
    rfl
theorem fn_good31 {E : Prog} (hE : Std E fns) (hv : VOK E) (l : Sl RowT) (hl : l.list.length ≤ 1000) (hs : ∀ r, r ∈ l.list → r.de.size < 2305843009213693952) : callP E f_archive_Good [rv l] = some (vb (goodR none l.list)) := by
  obtain ⟨q, ih⟩ := good_loop31 hE hv l hl hs (loopL_eq (IR.runL E.glob (callL E) [] ir_archive_Good_L0) (compact [] 0 [0, 5, 6, 7])) l.list 0 rfl (by omega)
  have e0 : prevR l.list 0 = none := rfl
  rw [e0] at ih
  simp only [Int.natCast_zero] at ih
  rw [hE.run rfl rfl]
  cases hg : goodR none l.list
  · rw [hg] at ih
    simp only [Bool.false_eq_true, if_false] at ih
    simp -implicitDefEqProofs only [go_sem, reduceIte, reduceCtorEq, Nat.reduceEqDiff, Nat.reduceAdd, Nat.reduceSub, Nat.reduceLT, Nat.reduceLeDiff, Nat.reduceBEq, Nat.reduceMul, Nat.reduceBNe, Int.reduceEq, Int.reduceLT, Int.reduceLE, Int.reduceNe, Int.reduceToNat, ir_archive_Good, ih, ro_row, snap_cV]
  · rw [hg] at ih
    simp only [if_true] at ih
    simp -implicitDefEqProofs only [go_sem, reduceIte, reduceCtorEq, Nat.reduceEqDiff, Nat.reduceAdd, Nat.reduceSub, Nat.reduceLT, Nat.reduceLeDiff, Nat.reduceBEq, Nat.reduceMul, Nat.reduceBNe, Int.reduceEq, Int.reduceLT, Int.reduceLE, Int.reduceNe, Int.reduceToNat, ir_archive_Good, ih, ro_row]
theorem refGood_loop31 {E : Prog} (hE : Std E fns) {L : Env × Store → Option (Sig × Env × Store)} (l : Sl RowT) (hl : l.list.length ≤ 1000) (hs : ∀ r, r ∈ l.list → r.de.size < 2305843009213693952)
    (hL : ∀ e st, L (e, st) = (IR.runL E.glob (callL E) [] ir_usufructref31_Good_L0 e st).bind (seqK fun e st => L (compact [] 0 [0, 3] e st))) :
    ∀ (rest : List RowT) (i : Nat), l.list.drop i = rest → i ≤ l.list.length →
    L ([(0, rv l), (3, vi i)], []) = if goodR (prevR l.list i) rest = true then some (.exit 0, [], []) else some (.ret, [(2, vb false)], [])
  | [], i, h, hi => by
    have h1 := drop_nil' h hi
    rw [hL]
    simp -implicitDefEqProofs only [go_sem, reduceIte, reduceCtorEq, Nat.reduceEqDiff, Nat.reduceAdd, Nat.reduceSub, Nat.reduceLT, Nat.reduceLeDiff, Nat.reduceBEq, Nat.reduceMul, Nat.reduceBNe, Int.reduceEq, Int.reduceLT, Int.reduceLE, Int.reduceNe, Int.reduceToNat, ir_usufructref31_Good_L0, h1, goodR]
  | x :: rest, i, h, hi => by
    obtain ⟨h1, h2, h3, h4, h5⟩ := drop_cons h
    have h6 := wrap_succ (i := i) (by omega)
    have ih := refGood_loop31 hE l hl hs hL rest (i + 1) h2 h4
    have hp : prevR l.list (i + 1) = some x := by unfold prevR; rw [if_neg (by omega)]; exact h1
    rw [hp] at ih
    have hx := fn_refRight hE x (hs x (List.mem_of_getElem? h1))
    simp only [RowT.cells] at hx
    rw [hL]
    unfold goodR
    cases i with
    | zero =>
      have e0 : prevR l.list 0 = none := rfl
      rw [e0, ltP_none]
      simp only [Int.natCast_zero] at h3 h6 ⊢
      cases hb : rightB x
      · rw [hb] at hx
        simp -implicitDefEqProofs only [go_sem, reduceIte, reduceCtorEq, Nat.reduceEqDiff, Nat.reduceAdd, Nat.reduceSub, Nat.reduceLT, Nat.reduceLeDiff, Nat.reduceBEq, Nat.reduceMul, Nat.reduceBNe, Int.reduceEq, Int.reduceLT, Int.reduceLE, Int.reduceNe, Int.reduceToNat, ir_usufructref31_Good_L0, h1, h3, h6, RowT.cells, ro_row, hx]
      · rw [hb] at hx
        simp -implicitDefEqProofs only [go_sem, reduceIte, reduceCtorEq, Nat.reduceEqDiff, Nat.reduceAdd, Nat.reduceSub, Nat.reduceLT, Nat.reduceLeDiff, Nat.reduceBEq, Nat.reduceMul, Nat.reduceBNe, Int.reduceEq, Int.reduceLT, Int.reduceLE, Int.reduceNe, Int.reduceToNat, ir_usufructref31_Good_L0, h1, h3, h6, RowT.cells, ro_row, hx, ih]
    | succ i =>
      have h7 : IntKind.i64.wrap (((i + 1 : Nat) : Int) - 1) = (i : Int) := by rw [IntWalk.i64_in _ (by omega)]; omega
      have h8 : (0 : Int) < ((i + 1 : Nat) : Int) := by omega
      obtain ⟨y, hy⟩ : ∃ y, l.list[i]? = some y := ⟨_, List.getElem?_eq_getElem (by omega)⟩
      have e0 : prevR l.list (i + 1) = some y := by unfold prevR; rw [if_neg (by omega)]; exact hy
      rw [e0]
      rw [ltP_some]
      cases hb : rightB x
      · rw [hb] at hx
        simp -implicitDefEqProofs only [go_sem, reduceIte, reduceCtorEq, Nat.reduceEqDiff, Nat.reduceAdd, Nat.reduceSub, Nat.reduceLT, Nat.reduceLeDiff, Nat.reduceBEq, Nat.reduceMul, Nat.reduceBNe, Int.reduceEq, Int.reduceLT, Int.reduceLE, Int.reduceNe, Int.reduceToNat, ir_usufructref31_Good_L0, h1, h3, h6, h7, h8, hy, RowT.cells, ro_row, hx]
      · rw [hb] at hx
        by_cases c : x.sg ≤ y.sg
        · simp -implicitDefEqProofs only [go_sem, reduceIte, reduceCtorEq, Nat.reduceEqDiff, Nat.reduceAdd, Nat.reduceSub, Nat.reduceLT, Nat.reduceLeDiff, Nat.reduceBEq, Nat.reduceMul, Nat.reduceBNe, Int.reduceEq, Int.reduceLT, Int.reduceLE, Int.reduceNe, Int.reduceToNat, ir_usufructref31_Good_L0, h1, h3, h6, h7, h8, hy, RowT.cells, ro_row, hx, c, ih]
        · simp -implicitDefEqProofs only [go_sem, reduceIte, reduceCtorEq, Nat.reduceEqDiff, Nat.reduceAdd, Nat.reduceSub, Nat.reduceLT, Nat.reduceLeDiff, Nat.reduceBEq, Nat.reduceMul, Nat.reduceBNe, Int.reduceEq, Int.reduceLT, Int.reduceLE, Int.reduceNe, Int.reduceToNat, ir_usufructref31_Good_L0, h1, h3, h6, h7, h8, hy, RowT.cells, ro_row, hx, c, ih]
theorem fn_refGood31 {E : Prog} (hE : Std E fns) (l : Sl RowT) (hl : l.list.length ≤ 1000) (hs : ∀ r, r ∈ l.list → r.de.size < 2305843009213693952) : callP E f_usufructref31_Good [rv l] = some (vb (goodR none l.list)) := by
  have ih := refGood_loop31 hE l hl hs (loopL_eq (IR.runL E.glob (callL E) [] ir_usufructref31_Good_L0) (compact [] 0 [0, 3])) l.list 0 rfl (by omega)
  have e0 : prevR l.list 0 = none := rfl
  rw [e0] at ih
  simp only [Int.natCast_zero] at ih
  rw [hE.run rfl rfl]
  cases hg : goodR none l.list
  · rw [hg] at ih
    simp only [Bool.false_eq_true, if_false] at ih
    simp -implicitDefEqProofs only [go_sem, reduceIte, reduceCtorEq, Nat.reduceEqDiff, Nat.reduceAdd, Nat.reduceSub, Nat.reduceLT, Nat.reduceLeDiff, Nat.reduceBEq, Nat.reduceMul, Nat.reduceBNe, Int.reduceEq, Int.reduceLT, Int.reduceLE, Int.reduceNe, Int.reduceToNat, ir_usufructref31_Good, ih, ro_row]
  · rw [hg] at ih
    simp only [if_true] at ih
    simp -implicitDefEqProofs only [go_sem, reduceIte, reduceCtorEq, Nat.reduceEqDiff, Nat.reduceAdd, Nat.reduceSub, Nat.reduceLT, Nat.reduceLeDiff, Nat.reduceBEq, Nat.reduceMul, Nat.reduceBNe, Int.reduceEq, Int.reduceLT, Int.reduceLE, Int.reduceNe, Int.reduceToNat, ir_usufructref31_Good, ih, ro_row]
end Go.Proofs.YtklggglkdfnpkaaDoor.Ev
