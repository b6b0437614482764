/-
  Archives: adding a row.
-/
import Derived.Test.YtklggglkdfnpkaaDoorEvAr3
set_option linter.unusedVariables false
set_option linter.unusedSimpArgs false
namespace Go.Proofs.YtklggglkdfnpkaaDoor.Ev
attribute [local congr] bind_congr_head
attribute [local go_sem] opd_t opd_c opd_g opd_f opds_nil opds_cons get_cons put_some put_none keep_nil keepC_s keepC_n keep_cons runs_nil runs_cons run_op run_opr run_call run_gand run_gor run_gif seqK_norm seqK_exit seqK_ret blkK_norm blkK_exit blkK_ret runL_skip runL_exit runL_ret runL_items runL_seq runL_cond runL_block runL_loop fin_bind finK_norm finK_ret rvs_nil rvs_cons rv_tmp rv_cell tupOf_one tupOf_nil tupOf_two ev_mov ev_pick ev_alloc ev_box ev_build parts_nil parts_cons fills_nil fills_cons ev_bsl ev_bslo ev_load ev_store ev_nilck ev_bin ev_binb ev_aeq ev_un ev_i2i ev_i2t ev_isnilI nilIF ev_s2b ev_ext ev_fld ev_idxs ev_fa ev_ias ev_len ev_lens ev_s2s ev_mkf ev_rng ev_nxt ev_app bOf_s pvOf_s agOf_s tpOf_s iOf_s sOf_s ite_bind Option.bind_some Option.bind_none if_true if_false ite_true ite_false argEnv_nil argEnv_cons len_av elems_av ias_av cells_av tuple_av AV.tuple AV.cells faF ldAt liveRef aggOf nilckF binV binI binS binB unV Bool.not_true Bool.not_false List.length_nil List.length_cons List.nil_append List.cons_append List.append_nil List.getElem?_cons_zero List.getElem?_cons_succ List.drop_zero List.drop_succ_cons List.drop_nil List.take_zero List.take_succ_cons List.take_nil List.set_cons_zero List.set_cons_succ compact_same compact_new closedB nodupB envIds ids0 upto visit pos sel AV.ids idss idsss Ob.ids AV.ren rens renss Ob.ren renEnv AV.snap snaps stAt okSt putCells List.all_nil List.all_cons List.contains_nil List.contains_cons Bool.and_true Bool.true_and Bool.and_false Bool.false_and Bool.or_true Bool.true_or Bool.or_false Bool.false_or decide_eq_true_eq decide_true decide_false beq_iff_eq bne_iff_ne beq_self_eq_true Bool.not_eq_true' Bool.false_eq_true eq_self and_self and_true true_and and_false false_and or_true true_or or_false false_or not_true_eq_false not_false_eq_true ne_eq Nat.zero_add Nat.add_zero Nat.le_refl Nat.not_lt_zero Nat.lt_irrefl Nat.zero_le Int.toNat_natCast gt_iff_lt ge_iff_le Int.lt_irrefl Int.natCast_nonneg txt_eq get_nil appF elems belows AV.under AV.flat flats List.length_map List.map_append List.map_cons List.map_nil List.length_append take_map_all List.flatten_cons List.flatten_nil bld_nil imp_false false_imp_iff false_implies true_implies implies_true decide_eq_false_iff_not Nat.one_mul Nat.mul_one idsss_app renss_app belowss_app ev_mn ev_mx ev_isnils ev_sls ev_slx evo_none evo_some vals minV maxV minF maxF backId List.getElem?_nil putAll Option.all_none Option.all_some Option.isSome_some intOf aszI compactV_same compactV_new callP_any callQ_eq callN_any boxQ AV.id? ids_avR ren_av under_av snap_av renss_mapf belowss_mapf idsss_mapf isnilsF List.length_eq_zero_iff int_beq int_bne decide_not slx_av Int.toNat_zero ev_mkm ev_lk ev_mup ev_mdl ev_lenm ev_isnilm mpOf_s mapAt_s mapOf_nil mapOf_mp isnilm_nil isnilm_mp lkR Option.getD_some Option.getD_none Option.isSome_none Prim.rdo ev_snp snp_own snp_v
def srt (l : List RowT) : Prop := l.Pairwise fun x y => x.sg < y.sg
theorem goodR_srt : ∀ {l : List RowT} {p : Option RowT}, goodR p l = true → srt l ∧ (∀ y, p = some y → ∀ x, x ∈ l → y.sg < x.sg)
  | [], p, _ => ⟨List.Pairwise.nil, fun _ _ _ h => by cases h⟩
  | x :: l, p, h => by
    simp only [goodR, Bool.and_eq_true] at h
    obtain ⟨⟨_, h2⟩, h3⟩ := h
    obtain ⟨i1, i2⟩ := goodR_srt h3
    refine ⟨List.Pairwise.cons (fun y hy => i2 x rfl y hy) i1, fun y hy z hz => ?_⟩
    subst hy
    have h4 : y.sg < x.sg := by simpa [ltP] using h2
    rcases List.mem_cons.1 hz with rfl | hz
    · exact h4
    · have := i2 x rfl z hz; omega
/-- Where a saga's row stands, or would. -/
def lb (n : Int) : List RowT → Nat
  | [] => 0
  | y :: t => if y.sg < n then lb n t + 1 else 0
theorem lb_le (n : Int) : ∀ l : List RowT, lb n l ≤ l.length
  | [] => Nat.le_refl _
  | y :: t => by
    have := lb_le n t
    simp only [lb, List.length_cons]
    split <;> omega
theorem lb_iff {n : Int} : ∀ {l : List RowT}, srt l → ∀ {i : Nat} {x : RowT}, l[i]? = some x → (i < lb n l ↔ x.sg < n)
  | [], _, i, x, hx => by simp at hx
  | y :: t, h, i, x, hx => by
    obtain ⟨h1, h2⟩ := List.pairwise_cons.1 h
    cases i with
    | zero =>
      simp only [List.getElem?_cons_zero, Option.some.injEq] at hx
      subst hx
      simp only [lb]
      split <;> simp_all
    | succ i =>
      simp only [List.getElem?_cons_succ] at hx
      have h3 := h1 _ (List.mem_of_getElem? hx)
      have ih := lb_iff (n := n) h2 hx
      simp only [lb]
      split
      · rw [Nat.succ_lt_succ_iff]; exact ih
      · constructor
        · intro q; omega
        · intro q; omega
def thereS (n : Int) (l : List RowT) : Bool := l.any fun x => decide (x.sg = n)
theorem there_lb {n : Int} {l : List RowT} (h : srt l) : (match l[lb n l]? with | some x => decide (x.sg = n) | none => false) = thereS n l := by
  rw [Bool.eq_iff_iff]
  unfold thereS
  rw [List.any_eq_true]
  constructor
  · intro q
    split at q
    · rename_i x hx
      exact ⟨x, List.mem_of_getElem? hx, q⟩
    · cases q
  · rintro ⟨x, hx, q⟩
    simp only [decide_eq_true_eq] at q
    obtain ⟨i, hi⟩ := List.getElem?_of_mem hx
    have h1 := lb_iff (n := n) h hi
    have hil := (List.getElem?_eq_some_iff.1 hi).1
    have hle : lb n l ≤ i := by
      rcases Nat.lt_or_ge i (lb n l) with c | c
      · have := h1.1 c; omega
      · exact c
    have hlt : lb n l < l.length := by omega
    obtain ⟨y, hy⟩ : ∃ y, l[lb n l]? = some y := ⟨_, List.getElem?_eq_getElem hlt⟩
    rw [hy]
    have h2 := lb_iff (n := n) h hy
    have h3 : ¬ y.sg < n := fun c => by have := h2.2 c; omega
    rcases Nat.lt_or_ge (lb n l) i with c | c
    · have h4 := List.pairwise_iff_getElem.1 h (lb n l) i hlt hil c
      rw [List.getElem?_eq_getElem hlt] at hy
      rw [List.getElem?_eq_getElem hil] at hi
      cases hy; cases hi
      omega
    · have : i = lb n l := by omega
      subst this
      rw [hi] at hy; cases hy
      simpa using q
def putS (l : List RowT) (r : RowT) : List RowT := l.take (lb r.sg l) ++ r :: l.drop (lb r.sg l)
/-! ### the search -/
def cmpS (a b : Int) : Int := if a < b then -1 else if b < a then 1 else 0
theorem fn_nan {E : Prog} (hE : Std E fns) (a : Int) : callP E f_cmp_isNaN_int [vi a] = some (vb false) := by
  rw [hE.run rfl rfl]
  simp -implicitDefEqProofs only [go_sem, reduceIte, reduceCtorEq, Nat.reduceEqDiff, Nat.reduceAdd, Nat.reduceSub, Nat.reduceLT, Nat.reduceLeDiff, Nat.reduceBEq, Nat.reduceMul, Nat.reduceBNe, Int.reduceEq, Int.reduceLT, Int.reduceLE, Int.reduceNe, Int.reduceToNat, ir_cmp_isNaN_int]
theorem fn_compare {E : Prog} (hE : Std E fns) (a b : Int) : callP E f_cmp_Compare_int [vi a, vi b] = some (vi (cmpS a b)) := by
  have h1 := fn_nan hE a
  have h2 := fn_nan hE b
  rw [hE.run rfl rfl]
  unfold cmpS
  by_cases c1 : a < b
  · simp -implicitDefEqProofs only [go_sem, reduceIte, reduceCtorEq, Nat.reduceEqDiff, Nat.reduceAdd, Nat.reduceSub, Nat.reduceLT, Nat.reduceLeDiff, Nat.reduceBEq, Nat.reduceMul, Nat.reduceBNe, Int.reduceEq, Int.reduceLT, Int.reduceLE, Int.reduceNe, Int.reduceToNat, ir_cmp_Compare_int, h1, h2, c1]
  · by_cases c2 : b < a
    · simp -implicitDefEqProofs only [go_sem, reduceIte, reduceCtorEq, Nat.reduceEqDiff, Nat.reduceAdd, Nat.reduceSub, Nat.reduceLT, Nat.reduceLeDiff, Nat.reduceBEq, Nat.reduceMul, Nat.reduceBNe, Int.reduceEq, Int.reduceLT, Int.reduceLE, Int.reduceNe, Int.reduceToNat, ir_cmp_Compare_int, h1, h2, c1, c2]
    · simp -implicitDefEqProofs only [go_sem, reduceIte, reduceCtorEq, Nat.reduceEqDiff, Nat.reduceAdd, Nat.reduceSub, Nat.reduceLT, Nat.reduceLeDiff, Nat.reduceBEq, Nat.reduceMul, Nat.reduceBNe, Int.reduceEq, Int.reduceLT, Int.reduceLE, Int.reduceNe, Int.reduceToNat, ir_cmp_Compare_int, h1, h2, c1, c2]
theorem fn_add1 {E : Prog} (hE : Std E fns) (r : RowT) (n : Int) : callL E f_archive_Add_1 [.agg r.cells, vi n] [] [] = some (vi (cmpS r.sg n), []) := by
  have h := fn_compare hE r.sg n
  rw [hE.runN rfl rfl]
  simp -implicitDefEqProofs only [go_sem, reduceIte, reduceCtorEq, Nat.reduceEqDiff, Nat.reduceAdd, Nat.reduceSub, Nat.reduceLT, Nat.reduceLeDiff, Nat.reduceBEq, Nat.reduceMul, Nat.reduceBNe, Int.reduceEq, Int.reduceLT, Int.reduceLE, Int.reduceNe, Int.reduceToNat, ir_archive_Add_1, RowT.cells, h]
theorem mid_wrap {i j : Nat} (h : i + j ≤ 4000) : IntKind.i64.wrap ((IntKind.u64.wrap (IntKind.i64.wrap ((i : Int) + (j : Int)))).fdiv (2 ^ (min 1 64))) = (((i + j) / 2 : Nat) : Int) := by
  have h1 : IntKind.i64.wrap ((i : Int) + (j : Int)) = ((i + j : Nat) : Int) := by rw [IntWalk.i64_in _ (by omega)]; omega
  have h2 : IntKind.u64.wrap ((i + j : Nat) : Int) = ((i + j : Nat) : Int) := by
    simp only [IntKind.wrap, IntKind.signed, IntKind.bits]
    simp
    omega
  have h3 : (2 : Int) ^ (min 1 64) = 2 := by decide
  rw [h1, h2, h3, Int.fdiv_eq_ediv_of_nonneg _ (by omega), IntWalk.i64_in _ (by omega)]
  omega
theorem bs_loop {E : Prog} (hE : Std E fns) {L : Env × Store → Option (Sig × Env × Store)} (l : Sl RowT) (hl : l.list.length ≤ 1000) (n : Int) (hs : srt l.list)
    (hL : ∀ e st, L (e, st) = (IR.runL E.glob (callL E) [] ir_slices_BinarySearchFunc_api_Row_api_Row_int_L0 e st).bind (seqK fun e st => L (compact [] 0 [0, 1, 2, 8, 9, 10] e st))) :
    ∀ (d i j : Nat), j - i ≤ d → i ≤ lb n l.list → lb n l.list ≤ j → j ≤ l.list.length →
    L ([(0, rv l), (1, vi n), (2, .fn f_archive_Add_1 []), (8, vi l.list.length), (9, vi i), (10, vi j)], []) = some (.exit 0, [(0, rv l), (1, vi n), (2, .fn f_archive_Add_1 []), (8, vi l.list.length), (9, vi (lb n l.list))], [])
  | d, i, j, hd, h1, h2, h3 => by
    by_cases c : i < j
    · obtain ⟨x, hx⟩ : ∃ x, l.list[(i + j) / 2]? = some x := ⟨_, List.getElem?_eq_getElem (by omega)⟩
      have hm := mid_wrap (i := i) (j := j) (by omega)
      have hf := fn_add1 hE x n
      simp only [RowT.cells] at hf
      have h6 := wrap_succ (i := (i + j) / 2) (by omega)
      have hx2 := lb_iff (n := n) hs hx
      have c' : ((i : Int) < (j : Int)) = True := eq_true (by omega)
      have hsh : ¬ ((1 : Int) < 0) := by omega
      cases d with
      | zero => omega
      | succ d =>
        rw [hL]
        by_cases c2 : x.sg < n
        · have e : cmpS x.sg n = -1 := if_pos c2
          rw [e] at hf
          have ih := bs_loop hE l hl n hs hL d ((i + j) / 2 + 1) j (by omega) (by have := hx2.2 c2; omega) h2 h3
          simp -implicitDefEqProofs only [go_sem, reduceIte, reduceCtorEq, Nat.reduceEqDiff, Nat.reduceAdd, Nat.reduceSub, Nat.reduceLT, Nat.reduceLeDiff, Nat.reduceBEq, Nat.reduceMul, Nat.reduceBNe, Int.reduceEq, Int.reduceLT, Int.reduceLE, Int.reduceNe, Int.reduceToNat, ir_slices_BinarySearchFunc_api_Row_api_Row_int_L0, RowT.cells, hsh, hm, hx, hf, h6, c', ro_row, ih]
        · have e : (cmpS x.sg n < 0) = False := eq_false (by unfold cmpS; rw [if_neg c2]; split <;> omega)
          have ih := bs_loop hE l hl n hs hL d i ((i + j) / 2) (by omega) h1 (by
            rcases Nat.lt_or_ge ((i + j) / 2) (lb n l.list) with q | q
            · exact absurd (hx2.1 q) c2
            · exact q) (by omega)
          simp -implicitDefEqProofs only [go_sem, reduceIte, reduceCtorEq, Nat.reduceEqDiff, Nat.reduceAdd, Nat.reduceSub, Nat.reduceLT, Nat.reduceLeDiff, Nat.reduceBEq, Nat.reduceMul, Nat.reduceBNe, Int.reduceEq, Int.reduceLT, Int.reduceLE, Int.reduceNe, Int.reduceToNat, ir_slices_BinarySearchFunc_api_Row_api_Row_int_L0, RowT.cells, hsh, hm, hx, hf, h6, c', e, ro_row, ih]
    · have : i = lb n l.list := by omega
      subst this
      have c' : (((lb n l.list : Nat) : Int) < (j : Int)) = False := eq_false (by omega)
      rw [hL]
      simp -implicitDefEqProofs only [go_sem, reduceIte, reduceCtorEq, Nat.reduceEqDiff, Nat.reduceAdd, Nat.reduceSub, Nat.reduceLT, Nat.reduceLeDiff, Nat.reduceBEq, Nat.reduceMul, Nat.reduceBNe, Int.reduceEq, Int.reduceLT, Int.reduceLE, Int.reduceNe, Int.reduceToNat, ir_slices_BinarySearchFunc_api_Row_api_Row_int_L0, c', ro_row]
theorem fn_search {E : Prog} (hE : Std E fns) (l : Sl RowT) (hl : l.list.length ≤ 1000) (n : Int) (hs : srt l.list) :
    callL E f_slices_BinarySearchFunc_api_Row_api_Row_int [rv l, vi n, .fn f_archive_Add_1 []] [] [] = some (.tup [vi (lb n l.list), vb (thereS n l.list)], []) := by
  have ih := bs_loop hE l hl n hs (loopL_eq (IR.runL E.glob (callL E) [] ir_slices_BinarySearchFunc_api_Row_api_Row_int_L0) (compact [] 0 [0, 1, 2, 8, 9, 10])) l.list.length 0 l.list.length (by omega) (by omega) (lb_le _ _) (Nat.le_refl _)
  simp only [Int.natCast_zero] at ih
  have hb := lb_le n l.list
  rw [hE.runN rfl rfl, ← there_lb hs]
  by_cases c : lb n l.list < l.list.length
  · obtain ⟨x, hx⟩ : ∃ x, l.list[lb n l.list]? = some x := ⟨_, List.getElem?_eq_getElem c⟩
    have c' : (((lb n l.list : Nat) : Int) < (l.list.length : Int)) = True := eq_true (by omega)
    have hf := fn_add1 hE x n
    simp only [RowT.cells] at hf
    have e : decide (cmpS x.sg n = 0) = decide (x.sg = n) := by
      unfold cmpS
      by_cases q1 : x.sg < n
      · simp [q1, show ¬ x.sg = n by omega]
      · by_cases q2 : n < x.sg
        · simp [q1, q2, show ¬ x.sg = n by omega]
        · simp [q1, q2, show x.sg = n by omega]
    simp -implicitDefEqProofs only [go_sem, reduceIte, reduceCtorEq, Nat.reduceEqDiff, Nat.reduceAdd, Nat.reduceSub, Nat.reduceLT, Nat.reduceLeDiff, Nat.reduceBEq, Nat.reduceMul, Nat.reduceBNe, Int.reduceEq, Int.reduceLT, Int.reduceLE, Int.reduceNe, Int.reduceToNat, ir_slices_BinarySearchFunc_api_Row_api_Row_int, RowT.cells, ih, c', hx, hf, e, ro_row, tupOf]
  · have c' : (((lb n l.list : Nat) : Int) < (l.list.length : Int)) = False := eq_false (by omega)
    have hx : l.list[lb n l.list]? = none := List.getElem?_eq_none (by omega)
    simp -implicitDefEqProofs only [go_sem, reduceIte, reduceCtorEq, Nat.reduceEqDiff, Nat.reduceAdd, Nat.reduceSub, Nat.reduceLT, Nat.reduceLeDiff, Nat.reduceBEq, Nat.reduceMul, Nat.reduceBNe, Int.reduceEq, Int.reduceLT, Int.reduceLE, Int.reduceNe, Int.reduceToNat, ir_slices_BinarySearchFunc_api_Row_api_Row_int, RowT.cells, ih, c', hx, ro_row, tupOf]
end Go.Proofs.YtklggglkdfnpkaaDoor.Ev
