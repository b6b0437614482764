/-
  The document's store: with and without a file.
-/
import Derived.Test.YtaodpgpepmlfbaaDoorEvSt4
set_option linter.unusedVariables false
set_option linter.unusedSimpArgs false
namespace Go.Proofs.YtaodpgpepmlfbaaDoor.Ev
attribute [local congr] bind_congr_head
attribute [local go_sem] opd_t opd_c opd_g opd_f opds_nil opds_cons get_cons put_some put_none keep_nil keepC_s keepC_n keep_cons runs_nil runs_cons run_op run_opr run_call run_gand run_gor run_gif seqK_norm seqK_exit seqK_ret blkK_norm blkK_exit blkK_ret runL_skip runL_exit runL_ret runL_items runL_seq runL_cond runL_block runL_loop fin_bind finK_norm finK_ret rvs_nil rvs_cons rv_tmp rv_cell tupOf_one tupOf_nil tupOf_two ev_mov ev_pick ev_alloc ev_box ev_build parts_nil parts_cons fills_nil fills_cons ev_bsl ev_bslo ev_load ev_store ev_nilck ev_bin ev_binb ev_aeq ev_un ev_i2i ev_i2t ev_isnilI nilIF ev_s2b ev_ext ev_fld ev_idxs ev_fa ev_ias ev_len ev_lens ev_s2s ev_mkf ev_rng ev_nxt ev_app bOf_s pvOf_s agOf_s tpOf_s iOf_s sOf_s ite_bind Option.bind_some Option.bind_none if_true if_false ite_true ite_false argEnv_nil argEnv_cons len_av elems_av ias_av cells_av tuple_av AV.tuple AV.cells faF ldAt liveRef aggOf nilckF binV binI binS binB unV Bool.not_true Bool.not_false List.length_nil List.length_cons List.nil_append List.cons_append List.append_nil List.getElem?_cons_zero List.getElem?_cons_succ List.drop_zero List.drop_succ_cons List.drop_nil List.take_zero List.take_succ_cons List.take_nil List.set_cons_zero List.set_cons_succ compact_same compact_new closedB nodupB envIds ids0 upto visit pos sel AV.ids idss idsss Ob.ids AV.ren rens renss Ob.ren renEnv AV.snap snaps stAt okSt putCells List.all_nil List.all_cons List.contains_nil List.contains_cons Bool.and_true Bool.true_and Bool.and_false Bool.false_and Bool.or_true Bool.true_or Bool.or_false Bool.false_or decide_eq_true_eq decide_true decide_false beq_iff_eq bne_iff_ne beq_self_eq_true Bool.not_eq_true' Bool.false_eq_true eq_self and_self and_true true_and and_false false_and or_true true_or or_false false_or not_true_eq_false not_false_eq_true ne_eq Nat.zero_add Nat.add_zero Nat.le_refl Nat.not_lt_zero Nat.lt_irrefl Nat.zero_le Int.toNat_natCast gt_iff_lt ge_iff_le Int.lt_irrefl Int.natCast_nonneg txt_eq get_nil appF belows AV.under AV.flat flats List.length_map List.map_append List.map_cons List.map_nil List.length_append take_map_all List.flatten_cons List.flatten_nil bld_nil imp_false false_imp_iff false_implies true_implies implies_true decide_eq_false_iff_not Nat.one_mul Nat.mul_one idsss_app renss_app belowss_app ev_mn ev_mx ev_isnils ev_sls ev_slx evo_none evo_some vals minV maxV minF maxF backId List.getElem?_nil putAll Option.all_none Option.all_some Option.isSome_some intOf aszI compactV_same compactV_new callP_any callQ_eq callN_any AV.id? ids_avR ren_av under_av snap_av renss_mapf belowss_mapf idsss_mapf isnilsF List.length_eq_zero_iff int_beq int_bne decide_not slx_av Int.toNat_zero ev_mkm ev_lk ev_mup ev_mdl ev_lenm ev_isnilm mpOf_s mapAt_s mapOf_nil mapOf_mp isnilm_nil isnilm_mp lkR Option.getD_some Option.getD_none Option.isSome_none Prim.rdo ev_snp snp_own snp_v
abbrev fv (s : Sl FX) : AV := s.av 4 FX.cells
variable {E : Prog}
theorem lbF_cons (n : ByteArray) (f : FX) (x : List FX) : lbF n (f :: x) = if kyB f.n < kyB n then lbF n x + 1 else 0 := rfl
theorem find_loop {G : Nat → Option (List AV)} {raw : Raw} {L : Env × Store → Option (Sig × Env × Store)} (x : Sl FX) (n : ByteArray) (hx : x.list.length ≤ 100000)
    (hL : ∀ e st, L (e, st) = (IR.runL G raw [] ir_usufructref05_Find_L0 e st).bind (seqK fun e st => L (compact [] 0 [0, 1, 6] e st))) :
    ∀ (rest : List FX) (i : Nat), x.list.drop i = rest → i ≤ x.list.length →
    L ([(0, fv x), (1, vs n), (6, vi i)], []) = some (.exit 0, [(0, fv x), (1, vs n), (6, vi ((i + lbF n rest : Nat) : Int))], [])
  | [], i, h, hi => by
    have h1 := drop_nil' h hi
    rw [hL]
    simp -implicitDefEqProofs only [go_sem, reduceIte, reduceCtorEq, Nat.reduceEqDiff, Nat.reduceAdd, Nat.reduceSub, Nat.reduceLT, Nat.reduceLeDiff, Nat.reduceBEq, Nat.reduceMul, Nat.reduceBNe, Int.reduceEq, Int.reduceLT, Int.reduceLE, Int.reduceNe, Int.reduceToNat, ir_usufructref05_Find_L0, h1, lbF, ro_fx]
  | f :: rest, i, h, hi => by
    obtain ⟨h1, h2, h3, h4, h5⟩ := drop_cons h
    have h6 := wrap_succ (i := i) (by omega)
    have ih := find_loop x n hx hL rest (i + 1) h2 h4
    rw [hL]
    by_cases c : kyB f.n < kyB n
    · have e1 : i + (lbF n rest + 1) = i + 1 + lbF n rest := by omega
      simp -implicitDefEqProofs only [go_sem, reduceIte, reduceCtorEq, Nat.reduceEqDiff, Nat.reduceAdd, Nat.reduceSub, Nat.reduceLT, Nat.reduceLeDiff, Nat.reduceBEq, Nat.reduceMul, Nat.reduceBNe, Int.reduceEq, Int.reduceLT, Int.reduceLE, Int.reduceNe, Int.reduceToNat, ir_usufructref05_Find_L0, h1, h3, h6, FX.cells, ro_fx, lbF_cons, bLess, c, ih, e1]
    · simp -implicitDefEqProofs only [go_sem, reduceIte, reduceCtorEq, Nat.reduceEqDiff, Nat.reduceAdd, Nat.reduceSub, Nat.reduceLT, Nat.reduceLeDiff, Nat.reduceBEq, Nat.reduceMul, Nat.reduceBNe, Int.reduceEq, Int.reduceLT, Int.reduceLE, Int.reduceNe, Int.reduceToNat, ir_usufructref05_Find_L0, h1, h3, h6, FX.cells, ro_fx, lbF_cons, bLess, c]
theorem fn_Find (hE : Std E fns) (x : Sl FX) (n : ByteArray) (hx : x.list.length ≤ 100000) (hs : srtF x.list) : callP E f_usufructref05_Find [fv x, vs n] = some (.tup [vi (lbF n x.list), vb (hasF n x.list)]) := by
  have hl := find_loop x n hx (loopL_eq (IR.runL E.glob (callL E) [] ir_usufructref05_Find_L0) (compact [] 0 [0, 1, 6])) x.list 0 rfl (Nat.zero_le _)
  have hle := lbF_le n x.list
  have hh := lb_has (n := n) hs
  simp only [Int.natCast_zero, Nat.zero_add] at hl
  rw [hE.run rfl rfl, ← hh]
  cases k : x.list[lbF n x.list]? with
  | none =>
    have c : ¬ ((lbF n x.list : Nat) : Int) < (x.list.length : Int) := by
      have : x.list.length ≤ lbF n x.list := by simpa using k
      omega
    simp -implicitDefEqProofs only [go_sem, reduceIte, reduceCtorEq, Nat.reduceEqDiff, Nat.reduceAdd, Nat.reduceSub, Nat.reduceLT, Nat.reduceLeDiff, Nat.reduceBEq, Nat.reduceMul, Nat.reduceBNe, Int.reduceEq, Int.reduceLT, Int.reduceLE, Int.reduceNe, Int.reduceToNat, ir_usufructref05_Find, hl, ro_fx, c, k, Option.any_none]
  | some f =>
    have c : ((lbF n x.list : Nat) : Int) < (x.list.length : Int) := by
      have := (List.getElem?_eq_some_iff.1 k).1
      omega
    simp -implicitDefEqProofs only [go_sem, reduceIte, reduceCtorEq, Nat.reduceEqDiff, Nat.reduceAdd, Nat.reduceSub, Nat.reduceLT, Nat.reduceLeDiff, Nat.reduceBEq, Nat.reduceMul, Nat.reduceBNe, Int.reduceEq, Int.reduceLT, Int.reduceLE, Int.reduceNe, Int.reduceToNat, ir_usufructref05_Find, hl, ro_fx, c, k, FX.cells, Option.any_some]
theorem used_loop {G : Nat → Option (List AV)} {raw : Raw} {L : Env × Store → Option (Sig × Env × Store)} (x : Sl FX) (hx : x.list.length ≤ 100000) (ht : totF x.list ≤ 4611686018427387904)
    (hL : ∀ e st, L (e, st) = (IR.runL G raw [] ir_usufructref05_Used_L0 e st).bind (seqK fun e st => L (compact [] 0 [0, 3, 4] e st))) :
    ∀ (rest : List FX) (i : Nat) (t : Nat), x.list.drop i = rest → i ≤ x.list.length → t + totF rest = totF x.list →
    L ([(0, fv x), (3, vi t), (4, vi i)], []) = some (.exit 0, [(3, vi (totF x.list))], [])
  | [], i, t, h, hi, hh => by
    have h1 := drop_nil' h hi
    have h2 : t = totF x.list := by simpa [totF] using hh
    rw [hL]
    simp -implicitDefEqProofs only [go_sem, reduceIte, reduceCtorEq, Nat.reduceEqDiff, Nat.reduceAdd, Nat.reduceSub, Nat.reduceLT, Nat.reduceLeDiff, Nat.reduceBEq, Nat.reduceMul, Nat.reduceBNe, Int.reduceEq, Int.reduceLT, Int.reduceLE, Int.reduceNe, Int.reduceToNat, ir_usufructref05_Used_L0, h1, h2, ro_fx]
  | f :: rest, i, t, h, hi, hh => by
    obtain ⟨h1, h2, h3, h4, h5⟩ := drop_cons h
    have h6 := wrap_succ (i := i) (by omega)
    rw [tot_cons] at hh
    have ih := used_loop x hx ht hL rest (i + 1) (t + f.b.size) h2 h4 (by omega)
    have h7 : IntKind.i64.wrap ((t : Int) + (f.b.size : Int)) = ((t + f.b.size : Nat) : Int) := by rw [IntKind.wrap_i64]; omega
    rw [hL]
    simp -implicitDefEqProofs only [go_sem, reduceIte, reduceCtorEq, Nat.reduceEqDiff, Nat.reduceAdd, Nat.reduceSub, Nat.reduceLT, Nat.reduceLeDiff, Nat.reduceBEq, Nat.reduceMul, Nat.reduceBNe, Int.reduceEq, Int.reduceLT, Int.reduceLE, Int.reduceNe, Int.reduceToNat, ir_usufructref05_Used_L0, h1, h3, h6, h7, FX.cells, ro_fx, ih]
theorem fn_Used (hE : Std E fns) (x : Sl FX) (hx : x.list.length ≤ 100000) (ht : totF x.list ≤ 4611686018427387904) : callP E f_usufructref05_Used [fv x] = some (vi (totF x.list)) := by
  have hl := used_loop x hx ht (loopL_eq (IR.runL E.glob (callL E) [] ir_usufructref05_Used_L0) (compact [] 0 [0, 3, 4])) x.list 0 0 rfl (Nat.zero_le _) (by omega)
  simp only [Int.natCast_zero] at hl
  rw [hE.run rfl rfl]
  simp -implicitDefEqProofs only [go_sem, reduceIte, reduceCtorEq, Nat.reduceEqDiff, Nat.reduceAdd, Nat.reduceSub, Nat.reduceLT, Nat.reduceLeDiff, Nat.reduceBEq, Nat.reduceMul, Nat.reduceBNe, Int.reduceEq, Int.reduceLT, Int.reduceLE, Int.reduceNe, Int.reduceToNat, ir_usufructref05_Used, hl, ro_fx]
end Go.Proofs.YtaodpgpepmlfbaaDoor.Ev
set_option linter.unusedVariables false
set_option linter.unusedSimpArgs false
namespace Go.Proofs.YtaodpgpepmlfbaaDoor.Ev
attribute [local congr] bind_congr_head
attribute [local go_sem] opd_t opd_c opd_g opd_f opds_nil opds_cons get_cons put_some put_none keep_nil keepC_s keepC_n keep_cons runs_nil runs_cons run_op run_opr run_call run_gand run_gor run_gif seqK_norm seqK_exit seqK_ret blkK_norm blkK_exit blkK_ret runL_skip runL_exit runL_ret runL_items runL_seq runL_cond runL_block runL_loop fin_bind finK_norm finK_ret rvs_nil rvs_cons rv_tmp rv_cell tupOf_one tupOf_nil tupOf_two ev_mov ev_pick ev_alloc ev_box ev_build parts_nil parts_cons fills_nil fills_cons ev_bsl ev_bslo ev_load ev_store ev_nilck ev_bin ev_binb ev_aeq ev_un ev_i2i ev_i2t ev_isnilI nilIF ev_s2b ev_ext ev_fld ev_idxs ev_fa ev_ias ev_len ev_lens ev_s2s ev_mkf ev_rng ev_nxt ev_app bOf_s pvOf_s agOf_s tpOf_s iOf_s sOf_s ite_bind Option.bind_some Option.bind_none if_true if_false ite_true ite_false argEnv_nil argEnv_cons len_av elems_av ias_av cells_av tuple_av AV.tuple AV.cells faF ldAt liveRef aggOf nilckF binV binI binS binB unV Bool.not_true Bool.not_false List.length_nil List.length_cons List.nil_append List.cons_append List.append_nil List.getElem?_cons_zero List.getElem?_cons_succ List.drop_zero List.drop_succ_cons List.drop_nil List.take_zero List.take_succ_cons List.take_nil List.set_cons_zero List.set_cons_succ compact_same compact_new closedB nodupB envIds ids0 upto visit pos sel AV.ids idss idsss Ob.ids AV.ren rens renss Ob.ren renEnv AV.snap snaps stAt okSt putCells List.all_nil List.all_cons List.contains_nil List.contains_cons Bool.and_true Bool.true_and Bool.and_false Bool.false_and Bool.or_true Bool.true_or Bool.or_false Bool.false_or decide_eq_true_eq decide_true decide_false beq_iff_eq bne_iff_ne beq_self_eq_true Bool.not_eq_true' Bool.false_eq_true eq_self and_self and_true true_and and_false false_and or_true true_or or_false false_or not_true_eq_false not_false_eq_true ne_eq Nat.zero_add Nat.add_zero Nat.le_refl Nat.not_lt_zero Nat.lt_irrefl Nat.zero_le Int.toNat_natCast gt_iff_lt ge_iff_le Int.lt_irrefl Int.natCast_nonneg txt_eq get_nil appF belows AV.under AV.flat flats List.length_map List.map_append List.map_cons List.map_nil List.length_append take_map_all List.flatten_cons List.flatten_nil bld_nil imp_false false_imp_iff false_implies true_implies implies_true decide_eq_false_iff_not Nat.one_mul Nat.mul_one idsss_app renss_app belowss_app ev_mn ev_mx ev_isnils ev_sls ev_slx evo_none evo_some vals minV maxV minF maxF backId List.getElem?_nil putAll Option.all_none Option.all_some Option.isSome_some intOf aszI compactV_same compactV_new callP_any callQ_eq callN_any AV.id? ids_avR ren_av under_av snap_av renss_mapf belowss_mapf idsss_mapf isnilsF List.length_eq_zero_iff int_beq int_bne decide_not slx_av Int.toNat_zero ev_mkm ev_lk ev_mup ev_mdl ev_lenm ev_isnilm mpOf_s mapAt_s mapOf_nil mapOf_mp isnilm_nil isnilm_mp lkR Option.getD_some Option.getD_none Option.isSome_none Prim.rdo ev_snp snp_own snp_v
theorem elems_sl (st : Store) (k : Nat) (xs : List (List AV)) : elems st (.sl k xs) = some xs := rfl
theorem boxQ_av {α : Type} (st : Store) (s : Sl α) (k : Nat) (f : α → List AV) : boxQ st (s.av k f) = true := by cases s <;> rfl
theorem boxQ_ref (st : Store) (id g i o : Nat) : boxQ st (.ref id g i o) = (match st[id]? with | some (.box _) => true | _ => false) := rfl
theorem all_fx (xs : List FX) : ((xs.map FX.cells).all fun c => c.length == 4) = true := by
  simp only [List.all_map, List.all_eq_true]
  intro x _
  rfl
theorem avM {α : Type} (k : Nat) (f : α → List AV) (xs : List α) : (Sl.mk xs).av k f = .sl k (xs.map f) := rfl
theorem take_appF1 (T : List FX) (c : List AV) : (T.map FX.cells ++ [c]).take (T.length + 1) = T.map FX.cells ++ [c] := List.take_of_length_le (by simp)
theorem take_appF2 (T D : List FX) (c : List AV) : (T.map FX.cells ++ c :: D.map FX.cells).take (T.length + (D.length + 1)) = T.map FX.cells ++ c :: D.map FX.cells := List.take_of_length_le (by simp)
theorem take_appF3 (T D : List FX) : (T.map FX.cells ++ D.map FX.cells).take (T.length + D.length) = T.map FX.cells ++ D.map FX.cells := List.take_of_length_le (by simp)
variable {E : Prog}
theorem fn_Without (hE : Std E fns) (x : Sl FX) (n : ByteArray) (hx : x.list.length ≤ 100000) (hh : lbF n x.list < x.list.length) :
    callP E f_usufructref05_Without [fv x, vi (lbF n x.list)] = some (fv (.mk (withoutF x.list n))) := by
  have h6 := wrap_succ (i := lbF n x.list) (by omega)
  have e1 : (x.sub 0 (lbF n x.list)).list = x.list.take (lbF n x.list) := by rw [sub_list]; simp
  have e2 : (x.sub (lbF n x.list + 1) x.list.length).list = x.list.drop (lbF n x.list + 1) := by rw [sub_list, List.take_of_length_le (by simp)]
  have c1 : ((lbF n x.list : Nat) : Int) ≤ (x.list.length : Int) := by omega
  have c2 : ((lbF n x.list + 1 : Nat) : Int) ≤ (x.list.length : Int) := by omega
  have hT : (x.list.take (lbF n x.list)).length ≤ 100000 := by rw [List.length_take]; omega
  have hD : (x.list.drop (lbF n x.list + 1)).length ≤ 100000 := by rw [List.length_drop]; omega
  unfold withoutF
  generalize x.list.take (lbF n x.list) = T at *
  generalize x.list.drop (lbF n x.list + 1) = D at *
  have a1 : T.length * 48 ≤ 140737488355328 := by omega
  have a3 : (T.length + D.length) * 48 ≤ 140737488355328 := by omega
  rw [hE.run rfl rfl]
  simp -implicitDefEqProofs only [go_sem, reduceIte, reduceCtorEq, Nat.reduceEqDiff, Nat.reduceAdd, Nat.reduceSub, Nat.reduceLT, Nat.reduceLeDiff, Nat.reduceBEq, Nat.reduceMul, Nat.reduceBNe, Int.reduceEq, Int.reduceLT, Int.reduceLE, Int.reduceNe, Int.reduceToNat, ir_usufructref05_Without, ro_fx, e1, e2, c1, c2, h6, a1, a3, all_fx, elems_av, elems_sl, boxQ_av, boxQ_ref, avM, Int.le_refl, belowss, take_appF3, List.map_append]
theorem with_core (hE : Std E fns) (x : Sl FX) (f : FX) (hx : x.list.length ≤ 100000) (hs : srtF x.list) (j : Nat) (hj : j = lbF f.n x.list + (if hasF f.n x.list = true then 1 else 0)) (hjl : j ≤ x.list.length) :
    callP E f_usufructref05_With [fv x, .agg f.cells] = some (fv (.mk (x.list.take (lbF f.n x.list) ++ f :: x.list.drop j))) := by
  have hf := fn_Find hE x f.n hx hs
  have hle := lbF_le f.n x.list
  have h6 := wrap_succ (i := lbF f.n x.list) (by omega)
  have e1 : (x.sub 0 (lbF f.n x.list)).list = x.list.take (lbF f.n x.list) := by rw [sub_list]; simp
  have e2 : (x.sub j x.list.length).list = x.list.drop j := by rw [sub_list, List.take_of_length_le (by simp)]
  have c1 : ((lbF f.n x.list : Nat) : Int) ≤ (x.list.length : Int) := by omega
  have c2 : ((j : Nat) : Int) ≤ (x.list.length : Int) := by omega
  have hT : (x.list.take (lbF f.n x.list)).length ≤ 100000 := by rw [List.length_take]; omega
  have hD : (x.list.drop j).length ≤ 100000 := by rw [List.length_drop]; omega
  generalize x.list.take (lbF f.n x.list) = T at *
  generalize x.list.drop j = D at *
  have a1 : T.length * 48 ≤ 140737488355328 := by omega
  have a2 : (T.length + 1) * 48 ≤ 140737488355328 := by omega
  have a3 : (T.length + 1 + D.length) * 48 ≤ 140737488355328 := by omega
  have a4 : (T.length + (D.length + 1)) * 48 ≤ 140737488355328 := by omega
  have b3 : ∀ X : List (List AV), X = T.map FX.cells ++ [f.cells] ++ D.map FX.cells → X = (T ++ f :: D).map FX.cells := fun X h => by rw [h]; simp
  have b4 : T.map FX.cells ++ [[vs f.n, vs f.b, vi f.sf, vb f.sy]] ++ D.map FX.cells = (T ++ f :: D).map FX.cells := b3 _ rfl
  have b5 : T.length + 1 + D.length = (T ++ f :: D).length := by simp; omega
  rw [hE.run rfl rfl]
  cases hh : hasF f.n x.list with
  | false =>
    rw [hh] at hf
    simp only [hh, Bool.false_eq_true, if_false, Nat.add_zero] at hj
    rw [← hj] at hf c1 e1
    simp -implicitDefEqProofs only [go_sem, reduceIte, reduceCtorEq, Nat.reduceEqDiff, Nat.reduceAdd, Nat.reduceSub, Nat.reduceLT, Nat.reduceLeDiff, Nat.reduceBEq, Nat.reduceMul, Nat.reduceBNe, Int.reduceEq, Int.reduceLT, Int.reduceLE, Int.reduceNe, Int.reduceToNat, ir_usufructref05_With, FX.cells, hf, ro_fx, e1, e2, c1, c2, a1, a2, a3, all_fx, elems_av, elems_sl, boxQ_av, boxQ_ref, take_appF1, Int.le_refl, b4, b5, avM, a4, belowss, take_appF2]
  | true =>
    rw [hh] at hf
    simp only [hh, if_true] at hj
    rw [← hj] at h6
    simp -implicitDefEqProofs only [go_sem, reduceIte, reduceCtorEq, Nat.reduceEqDiff, Nat.reduceAdd, Nat.reduceSub, Nat.reduceLT, Nat.reduceLeDiff, Nat.reduceBEq, Nat.reduceMul, Nat.reduceBNe, Int.reduceEq, Int.reduceLT, Int.reduceLE, Int.reduceNe, Int.reduceToNat, ir_usufructref05_With, FX.cells, hf, h6, ro_fx, e1, e2, c1, c2, a1, a2, a3, all_fx, elems_av, elems_sl, boxQ_av, boxQ_ref, take_appF1, Int.le_refl, b4, b5, avM, a4, belowss, take_appF2]
theorem fn_With (hE : Std E fns) (x : Sl FX) (f : FX) (hx : x.list.length ≤ 100000) (hs : srtF x.list) :
    callP E f_usufructref05_With [fv x, .agg f.cells] = some (fv (.mk (withF x.list f))) := by
  refine with_core hE x f hx hs _ rfl ?_
  have hle := lbF_le f.n x.list
  split
  · rename_i hh
    rw [← lb_has hs] at hh
    cases k : x.list[lbF f.n x.list]? with
    | none => rw [k] at hh; cases hh
    | some g => have := (List.getElem?_eq_some_iff.1 k).1; omega
  · omega
end Go.Proofs.YtaodpgpepmlfbaaDoor.Ev
