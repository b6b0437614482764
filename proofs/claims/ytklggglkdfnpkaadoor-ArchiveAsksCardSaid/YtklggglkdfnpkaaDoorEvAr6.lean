/-
  Archives: the document's adding.
-/
import Derived.Test.YtklggglkdfnpkaaDoorEvAr5
set_option linter.unusedVariables false
set_option linter.unusedSimpArgs false
namespace Go.Proofs.YtklggglkdfnpkaaDoor.Ev
attribute [local congr] bind_congr_head
attribute [local go_sem] opd_t opd_c opd_g opd_f opds_nil opds_cons get_cons put_some put_none keep_nil keepC_s keepC_n keep_cons runs_nil runs_cons run_op run_opr run_call run_gand run_gor run_gif seqK_norm seqK_exit seqK_ret blkK_norm blkK_exit blkK_ret runL_skip runL_exit runL_ret runL_items runL_seq runL_cond runL_block runL_loop fin_bind finK_norm finK_ret rvs_nil rvs_cons rv_tmp rv_cell tupOf_one tupOf_nil tupOf_two ev_mov ev_pick ev_alloc ev_box ev_build parts_nil parts_cons fills_nil fills_cons ev_bsl ev_bslo ev_load ev_store ev_nilck ev_bin ev_binb ev_aeq ev_un ev_i2i ev_i2t ev_isnilI nilIF ev_s2b ev_ext ev_fld ev_idxs ev_fa ev_ias ev_len ev_lens ev_s2s ev_mkf ev_rng ev_nxt ev_app bOf_s pvOf_s agOf_s tpOf_s iOf_s sOf_s ite_bind Option.bind_some Option.bind_none if_true if_false ite_true ite_false argEnv_nil argEnv_cons len_av elems_av ias_av cells_av tuple_av AV.tuple AV.cells faF ldAt liveRef aggOf nilckF binV binI binS binB unV Bool.not_true Bool.not_false List.length_nil List.length_cons List.nil_append List.cons_append List.append_nil List.getElem?_cons_zero List.getElem?_cons_succ List.drop_zero List.drop_succ_cons List.drop_nil List.take_zero List.take_succ_cons List.take_nil List.set_cons_zero List.set_cons_succ compact_same compact_new closedB nodupB envIds ids0 upto visit pos sel AV.ids idss idsss Ob.ids AV.ren rens renss Ob.ren renEnv AV.snap snaps stAt okSt putCells List.all_nil List.all_cons List.contains_nil List.contains_cons Bool.and_true Bool.true_and Bool.and_false Bool.false_and Bool.or_true Bool.true_or Bool.or_false Bool.false_or decide_eq_true_eq decide_true decide_false beq_iff_eq bne_iff_ne beq_self_eq_true Bool.not_eq_true' Bool.false_eq_true eq_self and_self and_true true_and and_false false_and or_true true_or or_false false_or not_true_eq_false not_false_eq_true ne_eq Nat.zero_add Nat.add_zero Nat.le_refl Nat.not_lt_zero Nat.lt_irrefl Nat.zero_le Int.toNat_natCast gt_iff_lt ge_iff_le Int.lt_irrefl Int.natCast_nonneg txt_eq get_nil appF belows AV.under AV.flat flats List.length_map List.map_append List.map_cons List.map_nil List.length_append take_map_all List.flatten_cons List.flatten_nil bld_nil imp_false false_imp_iff false_implies true_implies implies_true decide_eq_false_iff_not Nat.one_mul Nat.mul_one idsss_app renss_app belowss_app ev_mn ev_mx ev_isnils ev_sls ev_slx evo_none evo_some vals minV maxV minF maxF backId List.getElem?_nil putAll Option.all_none Option.all_some Option.isSome_some intOf aszI compactV_same compactV_new callP_any callQ_eq callN_any AV.id? ids_avR ren_av under_av snap_av renss_mapf belowss_mapf idsss_mapf isnilsF List.length_eq_zero_iff int_beq int_bne decide_not slx_av Int.toNat_zero ev_mkm ev_lk ev_mup ev_mdl ev_lenm ev_isnilm mpOf_s mapAt_s mapOf_nil mapOf_mp isnilm_nil isnilm_mp lkR Option.getD_some Option.getD_none Option.isSome_none Prim.rdo ev_snp snp_own snp_v
theorem elems_sl (st : Store) (k : Nat) (xs : List (List AV)) : elems st (.sl k xs) = some xs := rfl
theorem boxQ_av {α : Type} (st : Store) (s : Sl α) (k : Nat) (f : α → List AV) : boxQ st (s.av k f) = true := by cases s <;> rfl
theorem boxQ_ref (st : Store) (id g i o : Nat) : boxQ st (.ref id g i o) = (match st[id]? with | some (.box _) => true | _ => false) := rfl
theorem take_app1 (T : List RowT) (c : List AV) : (T.map RowT.cells ++ [c]).take (T.length + 1) = T.map RowT.cells ++ [c] := List.take_of_length_le (by simp)
theorem take_app2 (T D : List RowT) (c : List AV) : (T.map RowT.cells ++ c :: D.map RowT.cells).take (T.length + (D.length + 1)) = T.map RowT.cells ++ c :: D.map RowT.cells := List.take_of_length_le (by simp)
theorem fn_put {E : Prog} (hE : Std E fns) (l : Sl RowT) (hl : l.list.length ≤ 1000) (r : RowT) : callP E f_usufructref31_put [rv l, .agg r.cells] = some (rv (.mk (putS l.list r))) := by
  have ih := put_loop l hl r (loopL_eq (IR.runL E.glob (callL E) [] ir_usufructref31_put_L0) (compact [] 1 [0, 3, 5])) l.list 0 rfl (by omega)
  have hb := lb_le r.sg l.list
  simp only [Int.natCast_zero, Nat.zero_add, RowT.cells] at ih
  have e1 : (l.sub 0 (lb r.sg l.list)).list = l.list.take (lb r.sg l.list) := by rw [sub_list]; simp
  have e2 : (l.sub (lb r.sg l.list) l.list.length).list = l.list.drop (lb r.sg l.list) := by rw [sub_list, List.take_of_length_le (by simp)]
  have c1 : ((lb r.sg l.list : Nat) : Int) ≤ (l.list.length : Int) := by omega
  have hT : (l.list.take (lb r.sg l.list)).length ≤ 1000 := by rw [List.length_take]; omega
  have hD : (l.list.drop (lb r.sg l.list)).length ≤ 1000 := by rw [List.length_drop]; omega
  unfold putS
  generalize l.list.take (lb r.sg l.list) = T at *
  generalize l.list.drop (lb r.sg l.list) = D at *
  have a1 : T.length * 56 ≤ 140737488355328 := by omega
  have a2 : (T.length + 1) * 56 ≤ 140737488355328 := by omega
  have a3 : (T.length + 1 + D.length) * 56 ≤ 140737488355328 := by omega
  have a4 : (T.length + (D.length + 1)) * 56 ≤ 140737488355328 := by omega
  have b3 : ∀ X : List (List AV), X = T.map RowT.cells ++ [r.cells] ++ D.map RowT.cells → X = (T ++ r :: D).map RowT.cells := fun X h => by rw [h]; simp
  have b4 : T.map RowT.cells ++ [[vi r.sg, vs r.de, vi r.fr, vi r.te, vi r.ph, vi r.cm]] ++ D.map RowT.cells = (T ++ r :: D).map RowT.cells := b3 _ rfl
  have b5 : T.length + 1 + D.length = (T ++ r :: D).length := by simp; omega
  rw [hE.run rfl rfl]
  simp -implicitDefEqProofs only [go_sem, reduceIte, reduceCtorEq, Nat.reduceEqDiff, Nat.reduceAdd, Nat.reduceSub, Nat.reduceLT, Nat.reduceLeDiff, Nat.reduceBEq, Nat.reduceMul, Nat.reduceBNe, Int.reduceEq, Int.reduceLT, Int.reduceLE, Int.reduceNe, Int.reduceToNat, ir_usufructref31_put, RowT.cells, ih, ro_row, e1, e2, c1, a1, a2, a3, all_row, elems_av, elems_sl, boxQ_av, boxQ_ref, take_app1, Int.le_refl, b4, b5, avM, a4, belowss, take_app2]
end Go.Proofs.YtklggglkdfnpkaaDoor.Ev
