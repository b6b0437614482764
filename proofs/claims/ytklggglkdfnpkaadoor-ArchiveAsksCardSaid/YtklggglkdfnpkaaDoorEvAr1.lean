/-
  Archives: rows; what is asked for, pruned and summed.
-/
import Derived.Test.YtklggglkdfnpkaaDoorEvTick
set_option linter.unusedVariables false
set_option linter.unusedSimpArgs false
namespace Go.Proofs.YtklggglkdfnpkaaDoor.Ev
attribute [local congr] bind_congr_head
attribute [local go_sem] opd_t opd_c opd_g opd_f opds_nil opds_cons get_cons put_some put_none keep_nil keepC_s keepC_n keep_cons runs_nil runs_cons run_op run_opr run_call run_gand run_gor run_gif seqK_norm seqK_exit seqK_ret blkK_norm blkK_exit blkK_ret runL_skip runL_exit runL_ret runL_items runL_seq runL_cond runL_block runL_loop fin_bind finK_norm finK_ret rvs_nil rvs_cons rv_tmp rv_cell tupOf_one tupOf_nil tupOf_two ev_mov ev_pick ev_alloc ev_box ev_build parts_nil parts_cons fills_nil fills_cons ev_bsl ev_bslo ev_load ev_store ev_nilck ev_bin ev_binb ev_aeq ev_un ev_i2i ev_i2t ev_isnilI nilIF ev_s2b ev_ext ev_fld ev_idxs ev_fa ev_ias ev_len ev_lens ev_s2s ev_mkf ev_rng ev_nxt ev_app bOf_s pvOf_s agOf_s tpOf_s iOf_s sOf_s ite_bind Option.bind_some Option.bind_none if_true if_false ite_true ite_false argEnv_nil argEnv_cons len_av elems_av ias_av cells_av tuple_av AV.tuple AV.cells faF ldAt liveRef aggOf nilckF binV binI binS binB unV Bool.not_true Bool.not_false List.length_nil List.length_cons List.nil_append List.cons_append List.append_nil List.getElem?_cons_zero List.getElem?_cons_succ List.drop_zero List.drop_succ_cons List.drop_nil List.take_zero List.take_succ_cons List.take_nil List.set_cons_zero List.set_cons_succ compact_same compact_new closedB nodupB envIds ids0 upto visit pos sel AV.ids idss idsss Ob.ids AV.ren rens renss Ob.ren renEnv AV.snap snaps stAt okSt putCells List.all_nil List.all_cons List.contains_nil List.contains_cons Bool.and_true Bool.true_and Bool.and_false Bool.false_and Bool.or_true Bool.true_or Bool.or_false Bool.false_or decide_eq_true_eq decide_true decide_false beq_iff_eq bne_iff_ne beq_self_eq_true Bool.not_eq_true' Bool.false_eq_true eq_self and_self and_true true_and and_false false_and or_true true_or or_false false_or not_true_eq_false not_false_eq_true ne_eq Nat.zero_add Nat.add_zero Nat.le_refl Nat.not_lt_zero Nat.lt_irrefl Nat.zero_le Int.toNat_natCast gt_iff_lt ge_iff_le Int.lt_irrefl Int.natCast_nonneg txt_eq get_nil appF elems belows AV.under AV.flat flats List.length_map List.map_append List.map_cons List.map_nil List.length_append take_map_all List.flatten_cons List.flatten_nil bld_nil imp_false false_imp_iff false_implies true_implies implies_true decide_eq_false_iff_not Nat.one_mul Nat.mul_one idsss_app renss_app belowss_app ev_mn ev_mx ev_isnils ev_sls ev_slx evo_none evo_some vals minV maxV minF maxF backId List.getElem?_nil putAll Option.all_none Option.all_some Option.isSome_some intOf aszI compactV_same compactV_new callP_any callQ_eq callN_any boxQ AV.id? ids_avR ren_av under_av snap_av renss_mapf belowss_mapf idsss_mapf isnilsF List.length_eq_zero_iff int_beq int_bne decide_not slx_av Int.toNat_zero ev_mkm ev_lk ev_mup ev_mdl ev_lenm ev_isnilm mpOf_s mapAt_s mapOf_nil mapOf_mp isnilm_nil isnilm_mp lkR Option.getD_some Option.getD_none Option.isSome_none Prim.rdo ev_snp snp_own snp_v
structure RowT where
  (sg : Int) (de : ByteArray) (fr te ph cm : Int)
  deriving DecidableEq
structure QryT where
  (de : ByteArray) (ph si ti : Int)
def RowT.cells (r : RowT) : List AV := [vi r.sg, vs r.de, vi r.fr, vi r.te, vi r.ph, vi r.cm]
def QryT.cells (q : QryT) : List AV := [vs q.de, vi q.ph, vi q.si, vi q.ti]
theorem ro_row : Ro RowT.cells := fun _ => rfl
theorem row_le6 (s : RowT) : (6 ≤ s.cells.length) = True := eq_true (by show 6 ≤ 6; omega)
theorem row_take (s : RowT) : s.cells.take 6 = s.cells := rfl
theorem row_len (s : RowT) : (s.cells.length == 6) = true := rfl
theorem row_lenL (s : RowT) : s.cells.length = 6 := rfl
abbrev rv (l : Sl RowT) : AV := l.av 6 RowT.cells
/-! ### short -/
theorem short_loop {G : Nat → Option (List AV)} {raw : Raw} {L : Env × Store → Option (Sig × Env × Store)} (l : Sl RowT) (hs : l.list.length ≤ 20) (hL : ∀ e st, L (e, st) = (IR.runL G raw [] ir_usufructlaw31_short_L0 e st).bind (seqK fun e st => L (compact [] 0 [0, 3] e st))) :
    ∀ (rest : List RowT) (i : Nat), l.list.drop i = rest → i ≤ l.list.length →
    L ([(0, rv l), (3, vi i)], []) = if rest.any (fun r => decide (r.de.size > 100)) = true then some (.ret, [(2, vb false)], []) else some (.exit 0, [], [])
  | [], i, h, hi => by
    have h1 := drop_nil' h hi
    rw [hL]
    simp -implicitDefEqProofs only [go_sem, reduceIte, reduceCtorEq, Nat.reduceEqDiff, Nat.reduceAdd, Nat.reduceSub, Nat.reduceLT, Nat.reduceLeDiff, Nat.reduceBEq, Nat.reduceMul, Nat.reduceBNe, Int.reduceEq, Int.reduceLT, Int.reduceLE, Int.reduceNe, Int.reduceToNat, ir_usufructlaw31_short_L0, h1, List.any_nil]
  | x :: rest, i, h, hi => by
    obtain ⟨h1, h2, h3, h4, h5⟩ := drop_cons h
    have h6 := wrap_succ (i := i) (by omega)
    have ih := short_loop l hs hL rest (i + 1) h2 h4
    rw [hL]
    simp -implicitDefEqProofs only [go_sem, reduceIte, reduceCtorEq, Nat.reduceEqDiff, Nat.reduceAdd, Nat.reduceSub, Nat.reduceLT, Nat.reduceLeDiff, Nat.reduceBEq, Nat.reduceMul, Nat.reduceBNe, Int.reduceEq, Int.reduceLT, Int.reduceLE, Int.reduceNe, Int.reduceToNat, ir_usufructlaw31_short_L0, h1, h3, RowT.cells, h6, ih, List.any_cons]
    by_cases c1 : x.de.size > 100
    · simp [c1, show (100 : Int) < x.de.size by omega]
    · simp [c1, show ¬ (100 : Int) < x.de.size by omega]
def shortR (l : List RowT) : Bool := decide (l.length ≤ 20) && !l.any (fun r => decide (r.de.size > 100))
theorem fn_short {E : Prog} (hE : Std E fns) (l : Sl RowT) : callP E f_usufructlaw31_short [rv l] = some (vb (shortR l.list)) := by
  rw [hE.run rfl rfl]
  by_cases c1 : l.list.length > 20
  · simp -implicitDefEqProofs only [go_sem, reduceIte, reduceCtorEq, Nat.reduceEqDiff, Nat.reduceAdd, Nat.reduceSub, Nat.reduceLT, Nat.reduceLeDiff, Nat.reduceBEq, Nat.reduceMul, Nat.reduceBNe, Int.reduceEq, Int.reduceLT, Int.reduceLE, Int.reduceNe, Int.reduceToNat, ir_usufructlaw31_short, show (20 : Int) < l.list.length by omega, shortR, show ¬ l.list.length ≤ 20 by omega, ro_row]
  · have := short_loop l (by omega) (loopL_eq (IR.runL E.glob (callL E) [] ir_usufructlaw31_short_L0) (compact [] 0 [0, 3])) l.list 0 rfl (by omega)
    simp only [Int.natCast_zero] at this
    simp -implicitDefEqProofs only [go_sem, reduceIte, reduceCtorEq, Nat.reduceEqDiff, Nat.reduceAdd, Nat.reduceSub, Nat.reduceLT, Nat.reduceLeDiff, Nat.reduceBEq, Nat.reduceMul, Nat.reduceBNe, Int.reduceEq, Int.reduceLT, Int.reduceLE, Int.reduceNe, Int.reduceToNat, ir_usufructlaw31_short, show ¬ (20 : Int) < l.list.length by omega, shortR, show l.list.length ≤ 20 by omega, ro_row, this]
    cases l.list.any fun r => decide (r.de.size > 100) <;> simp
/-! ### two rows of rows -/
theorem eqL_row (x y : RowT) : eqL [.i, .s, .i, .i, .i, .i] x.cells y.cells = some (decide (x = y)) := by
  obtain ⟨a1, a2, a3, a4, a5, a6⟩ := x
  obtain ⟨b1, b2, b3, b4, b5, b6⟩ := y
  simp only [RowT.cells, eqL, eqV, if_true, txt_eq, RowT.mk.injEq, Option.some.injEq, Bool.decide_and, Bool.and_true, Bool.and_assoc, int_beq]
theorem same_loop {G : Nat → Option (List AV)} {raw : Raw} {L : Env × Store → Option (Sig × Env × Store)} (a b : Sl RowT) (hlen : a.list.length = b.list.length) (hb : a.list.length < 9223372036854775807)
    (hL : ∀ e st, L (e, st) = (IR.runL G raw [] ir_usufructref31_Same_L0 e st).bind (seqK fun e st => L (compact [] 0 [0, 1, 5] e st))) :
    ∀ (r1 r2 : List RowT) (i : Nat), a.list.drop i = r1 → b.list.drop i = r2 → i ≤ a.list.length →
    L ([(0, rv a), (1, rv b), (5, vi i)], []) = if r1 = r2 then some (.exit 0, [], []) else some (.ret, [(4, vb false)], [])
  | [], r2, i, h, h', hi => by
    have h1 := drop_nil' h hi
    have : r2 = [] := by rw [← h', List.drop_of_length_le (by omega)]
    subst this
    rw [hL]
    simp -implicitDefEqProofs only [go_sem, reduceIte, reduceCtorEq, Nat.reduceEqDiff, Nat.reduceAdd, Nat.reduceSub, Nat.reduceLT, Nat.reduceLeDiff, Nat.reduceBEq, Nat.reduceMul, Nat.reduceBNe, Int.reduceEq, Int.reduceLT, Int.reduceLE, Int.reduceNe, Int.reduceToNat, ir_usufructref31_Same_L0, h1]
  | x :: r1, [], i, h, h', hi => by
    have h1 := drop_nil' h' (by omega)
    obtain ⟨_, _, _, h4, _⟩ := drop_cons h
    omega
  | x :: r1, y :: r2, i, h, h', hi => by
    obtain ⟨h1, h2, h3, h4, h5⟩ := drop_cons h
    obtain ⟨k1, k2, k3, k4, k5⟩ := drop_cons h'
    have h6 := wrap_succ (i := i) (by omega)
    have ih := same_loop a b hlen hb hL r1 r2 (i + 1) h2 k2 h4
    rw [hL]
    by_cases c : x = y
    · subst c
      simp -implicitDefEqProofs only [go_sem, reduceIte, reduceCtorEq, Nat.reduceEqDiff, Nat.reduceAdd, Nat.reduceSub, Nat.reduceLT, Nat.reduceLeDiff, Nat.reduceBEq, Nat.reduceMul, Nat.reduceBNe, Int.reduceEq, Int.reduceLT, Int.reduceLE, Int.reduceNe, Int.reduceToNat, ir_usufructref31_Same_L0, h1, k1, h3, k3, h6, eqL_row, row_le6, row_take, ih, List.cons.injEq]
    · simp -implicitDefEqProofs only [go_sem, reduceIte, reduceCtorEq, Nat.reduceEqDiff, Nat.reduceAdd, Nat.reduceSub, Nat.reduceLT, Nat.reduceLeDiff, Nat.reduceBEq, Nat.reduceMul, Nat.reduceBNe, Int.reduceEq, Int.reduceLT, Int.reduceLE, Int.reduceNe, Int.reduceToNat, ir_usufructref31_Same_L0, h1, k1, h3, k3, h6, eqL_row, row_le6, row_take, c, List.cons.injEq]
theorem fn_same {E : Prog} (hE : Std E fns) (a b : Sl RowT) (hb : a.list.length < 9223372036854775807) : callP E f_usufructref31_Same [rv a, rv b] = some (vb (decide (a.list = b.list))) := by
  rw [hE.run rfl rfl]
  by_cases c : a.list.length = b.list.length
  · have ih := same_loop a b c hb (loopL_eq (IR.runL E.glob (callL E) [] ir_usufructref31_Same_L0) (compact [] 0 [0, 1, 5])) a.list b.list 0 rfl rfl (by omega)
    simp only [Int.natCast_zero] at ih
    have c' : ((a.list.length : Int) = (b.list.length : Int)) = True := eq_true (by omega)
    by_cases d : a.list = b.list
    · rw [if_pos d] at ih
      simp -implicitDefEqProofs only [go_sem, reduceIte, reduceCtorEq, Nat.reduceEqDiff, Nat.reduceAdd, Nat.reduceSub, Nat.reduceLT, Nat.reduceLeDiff, Nat.reduceBEq, Nat.reduceMul, Nat.reduceBNe, Int.reduceEq, Int.reduceLT, Int.reduceLE, Int.reduceNe, Int.reduceToNat, ir_usufructref31_Same, c', ih, ro_row, d]
    · rw [if_neg d] at ih
      simp -implicitDefEqProofs only [go_sem, reduceIte, reduceCtorEq, Nat.reduceEqDiff, Nat.reduceAdd, Nat.reduceSub, Nat.reduceLT, Nat.reduceLeDiff, Nat.reduceBEq, Nat.reduceMul, Nat.reduceBNe, Int.reduceEq, Int.reduceLT, Int.reduceLE, Int.reduceNe, Int.reduceToNat, ir_usufructref31_Same, c', ih, ro_row, d]
  · have c' : ((a.list.length : Int) = (b.list.length : Int)) = False := eq_false (by omega)
    have d : ¬ a.list = b.list := fun e => c (by rw [e])
    simp -implicitDefEqProofs only [go_sem, reduceIte, reduceCtorEq, Nat.reduceEqDiff, Nat.reduceAdd, Nat.reduceSub, Nat.reduceLT, Nat.reduceLeDiff, Nat.reduceBEq, Nat.reduceMul, Nat.reduceBNe, Int.reduceEq, Int.reduceLT, Int.reduceLE, Int.reduceNe, Int.reduceToNat, ir_usufructref31_Same, c', ro_row, d]
/-! ### keep -/
theorem keep_loop {E : Prog} (hE : Std E fns) {L : Env × Store → Option (Sig × Env × Store)} (f : Nat) (c : List AV) (hc : idss c = []) (p : RowT → Bool) (l : Sl RowT) (hl : l.list.length ≤ 1000)
    (hf : ∀ r, callL E f [.agg r.cells, .ref 0 0 0 0] [] [.box c] = some (vb (p r), [.box c]))
    (hL : ∀ e st, L (e, st) = (IR.runL E.glob (callL E) [] ir_archive_keep_L0 e st).bind (seqK fun e st => L (compact [] 1 [1, 5, 8, 9, 10] e st))) :
    ∀ (rest : List RowT) (i : Nat) (out : List RowT) (g : Nat), l.list.drop i = rest → i ≤ l.list.length → out.length ≤ i →
    ∃ g' : Nat, L ([(1, .fn f [.ref 0 0 0 0]), (5, (bld 6 RowT.cells g [.box c] out).1), (8, rv l), (9, vi l.list.length), (10, vi i)], (bld 6 RowT.cells g [.box c] out).2) =
      some (.exit 0, [(5, (bld 6 RowT.cells g' [.box c] (out ++ rest.filter p)).1)], (bld 6 RowT.cells g' [.box c] (out ++ rest.filter p)).2)
  | [], i, out, g, h, hi, ho => by
    have h1 := drop_nil' h hi
    refine ⟨g, ?_⟩
    rw [hL]
    simp -implicitDefEqProofs only [go_sem, reduceIte, reduceCtorEq, Nat.reduceEqDiff, Nat.reduceAdd, Nat.reduceSub, Nat.reduceLT, Nat.reduceLeDiff, Nat.reduceBEq, Nat.reduceMul, Nat.reduceBNe, Int.reduceEq, Int.reduceLT, Int.reduceLE, Int.reduceNe, Int.reduceToNat, ir_archive_keep_L0, h1, List.filter_nil]
  | x :: rest, i, out, g, h, hi, ho => by
    obtain ⟨h1, h2, h3, h4, h5⟩ := drop_cons h
    have h6 := wrap_succ (i := i) (by omega)
    have hx := hf x
    simp only [RowT.cells] at hx
    have hb : (out.length + 1) * 56 ≤ 140737488355328 := by omega
    have r1 : rens (pos [0]) c = c := rens_of _ hc
    cases cp : p x
    · rw [cp] at hx
      obtain ⟨g', ih⟩ := keep_loop hE f c hc p l hl hf hL rest (i + 1) out g h2 h4 (by omega)
      refine ⟨g', ?_⟩
      rw [List.filter_cons, if_neg (by rw [cp]; decide), ← ih, hL]
      by_cases hne : out = []
      · subst hne
        simp -implicitDefEqProofs only [go_sem, reduceIte, reduceCtorEq, Nat.reduceEqDiff, Nat.reduceAdd, Nat.reduceSub, Nat.reduceLT, Nat.reduceLeDiff, Nat.reduceBEq, Nat.reduceMul, Nat.reduceBNe, Int.reduceEq, Int.reduceLT, Int.reduceLE, Int.reduceNe, Int.reduceToNat, ir_archive_keep_L0, h1, h3, h6, RowT.cells, hx, hc, rens_of, ro_row]
      · simp -implicitDefEqProofs only [go_sem, reduceIte, reduceCtorEq, Nat.reduceEqDiff, Nat.reduceAdd, Nat.reduceSub, Nat.reduceLT, Nat.reduceLeDiff, Nat.reduceBEq, Nat.reduceMul, Nat.reduceBNe, Int.reduceEq, Int.reduceLT, Int.reduceLE, Int.reduceNe, Int.reduceToNat, ir_archive_keep_L0, h1, h3, h6, RowT.cells, hx, hc, rens_of, ro_row, bld_ne hne]
    · rw [cp] at hx
      rw [List.filter_cons, if_pos cp]
      by_cases hne : out = []
      · subst hne
        obtain ⟨g', ih⟩ := keep_loop hE f c hc p l hl hf hL rest (i + 1) [x] 0 h2 h4 (by simp)
        refine ⟨g', ?_⟩
        rw [List.nil_append]
        rw [show x :: rest.filter p = [x] ++ rest.filter p from rfl, ← ih, hL]
        simp -implicitDefEqProofs only [go_sem, reduceIte, reduceCtorEq, Nat.reduceEqDiff, Nat.reduceAdd, Nat.reduceSub, Nat.reduceLT, Nat.reduceLeDiff, Nat.reduceBEq, Nat.reduceMul, Nat.reduceBNe, Int.reduceEq, Int.reduceLT, Int.reduceLE, Int.reduceNe, Int.reduceToNat, ir_archive_keep_L0, h1, h3, h6, RowT.cells, hx, hc, rens_of, ro_row, bld_ne (List.cons_ne_nil x [])]
      · obtain ⟨g', ih⟩ := keep_loop hE f c hc p l hl hf hL rest (i + 1) (out ++ [x]) (g + 1) h2 h4 (by simp; omega)
        refine ⟨g', ?_⟩
        rw [show out ++ x :: rest.filter p = (out ++ [x]) ++ rest.filter p by simp, ← ih, hL]
        simp -implicitDefEqProofs only [go_sem, reduceIte, reduceCtorEq, Nat.reduceEqDiff, Nat.reduceAdd, Nat.reduceSub, Nat.reduceLT, Nat.reduceLeDiff, Nat.reduceBEq, Nat.reduceMul, Nat.reduceBNe, Int.reduceEq, Int.reduceLT, Int.reduceLE, Int.reduceNe, Int.reduceToNat, ir_archive_keep_L0, h1, h3, h6, RowT.cells, hx, hc, rens_of, ro_row, bld_ne hne, bld_ne (ne_app out x), hb]
end Go.Proofs.YtklggglkdfnpkaaDoor.Ev
