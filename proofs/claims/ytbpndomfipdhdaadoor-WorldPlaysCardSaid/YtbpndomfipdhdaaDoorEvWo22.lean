/-
  A world: what is left of a step, by the document.
-/
import Derived.Test.YtbpndomfipdhdaaDoorEvWo21
import Derived.Test.YtbpndomfipdhdaaDoorEvWo19
set_option linter.unusedVariables false
set_option linter.unusedSimpArgs false
namespace Go.Proofs.YtbpndomfipdhdaaDoor.Ev
attribute [local congr] bind_congr_head
attribute [local go_sem] opd_t opd_c opd_g opd_f opds_nil opds_cons get_cons put_some put_none keep_nil keepC_s keepC_n keep_cons runs_nil runs_cons run_op run_opr run_call run_gand run_gor run_gif seqK_norm seqK_exit seqK_ret blkK_norm blkK_exit blkK_ret runL_skip runL_exit runL_ret runL_items runL_seq runL_cond runL_block runL_loop fin_bind finK_norm finK_ret rvs_nil rvs_cons rv_tmp rv_cell tupOf_one tupOf_nil tupOf_two ev_mov ev_pick ev_alloc ev_box ev_build parts_nil parts_cons fills_nil fills_cons ev_bsl ev_bslo ev_load ev_store ev_nilck ev_bin ev_binb ev_aeq ev_un ev_i2i ev_i2t ev_isnilI nilIF ev_s2b ev_ext ev_fld ev_idxs ev_fa ev_ias ev_len ev_lens ev_s2s ev_mkf ev_rng ev_nxt ev_app bOf_s pvOf_s agOf_s tpOf_s iOf_s sOf_s ite_bind Option.bind_some Option.bind_none if_true if_false ite_true ite_false argEnv_nil argEnv_cons len_av elems_av ias_av cells_av tuple_av AV.tuple AV.cells faF ldAt liveRef aggOf nilckF binV binI binS binB unV Bool.not_true Bool.not_false List.length_nil List.length_cons List.nil_append List.cons_append List.append_nil List.getElem?_cons_zero List.getElem?_cons_succ List.drop_zero List.drop_succ_cons List.drop_nil List.take_zero List.take_succ_cons List.take_nil List.set_cons_zero List.set_cons_succ compact_same compact_new closedB nodupB envIds ids0 upto visit pos sel AV.ids idss idsss Ob.ids AV.ren rens renss Ob.ren renEnv AV.snap snaps stAt okSt putCells List.all_nil List.all_cons List.contains_nil List.contains_cons Bool.and_true Bool.true_and Bool.and_false Bool.false_and Bool.or_true Bool.true_or Bool.or_false Bool.false_or decide_eq_true_eq decide_true decide_false beq_iff_eq bne_iff_ne beq_self_eq_true Bool.not_eq_true' Bool.false_eq_true eq_self and_self and_true true_and and_false false_and or_true true_or or_false false_or not_true_eq_false not_false_eq_true ne_eq Nat.zero_add Nat.add_zero Nat.le_refl Nat.not_lt_zero Nat.lt_irrefl Nat.zero_le Int.toNat_natCast gt_iff_lt ge_iff_le Int.lt_irrefl Int.natCast_nonneg txt_eq get_nil appF elems belows AV.under AV.flat flats List.length_map List.map_append List.map_cons List.map_nil List.length_append take_map_all List.flatten_cons List.flatten_nil bld_nil imp_false false_imp_iff false_implies true_implies implies_true decide_eq_false_iff_not Nat.one_mul Nat.mul_one idsss_app renss_app belowss_app ev_mn ev_mx ev_isnils ev_sls ev_slx evo_none evo_some vals minV maxV minF maxF backId List.getElem?_nil putAll Option.all_none Option.all_some Option.isSome_some intOf aszI compactV_same compactV_new callP_any callQ_eq callN_any boxQ AV.id? ids_avR ren_av under_av snap_av renss_mapf belowss_mapf idsss_mapf isnilsF List.length_eq_zero_iff int_beq int_bne decide_not slx_av Int.toNat_zero ev_mkm ev_lk ev_mup ev_mdl ev_lenm ev_isnilm mpOf_s mapAt_s mapOf_nil mapOf_mp isnilm_nil isnilm_mp lkR Option.getD_some Option.getD_none Option.isSome_none Prim.rdo ev_snp snp_own snp_v exQ_nil exQ_cons exA_ref same_nil same_box same_row same_map sameL_nil sameL_cons sameA_int sameA_bool sameA_str sameA_slice sameA_map sameA_ptr sameA_own sameA_ref sameA_mp callB_eq
variable {E : Prog}
theorem fn_rNet (hE : Std E fns) (x : XW) (hx : x.k.list.length ≤ 100000) (hkg : KG x.k.list) (saga : Int) (hs : saga ≤ 9223372036854775807) (s : ByteArray) (hsz' : s.size ≤ 100) :
    callP E f_usufructref21_Net [.agg x.cells, vi saga, vs s] = some (vi (netS x.k.list saga s)) := by
  have hg := fn_refGood hE s (by omega)
  have hH := fun z => fn_Has hE x hx z
  unfold netS
  by_cases c1 : saga < 0
  · have e1 := key_neg hkg (s := s) c1 false
    have e2 := key_neg hkg (s := s) c1 true
    rw [e1, e2, hE.run rfl rfl]
    simp only [XW.cells]
    cases labelGood s <;> simp -implicitDefEqProofs only [go_sem, reduceIte, reduceCtorEq, Nat.reduceEqDiff, Nat.reduceAdd, Nat.reduceSub, Nat.reduceLT, Nat.reduceLeDiff, Nat.reduceBEq, Nat.reduceMul, Nat.reduceBNe, Int.reduceEq, Int.reduceLT, Int.reduceLE, Int.reduceNe, Int.reduceToNat, ir_usufructref21_Net, net2, c1, ro_cmd, ro_rep, ro_nm, Bool.true_eq_false]
  · cases hl : labelGood s with
    | false =>
      rw [hl] at hg
      rw [if_pos rfl, hE.run rfl rfl]
      simp only [XW.cells]
      simp -implicitDefEqProofs only [go_sem, reduceIte, reduceCtorEq, Nat.reduceEqDiff, Nat.reduceAdd, Nat.reduceSub, Nat.reduceLT, Nat.reduceLeDiff, Nat.reduceBEq, Nat.reduceMul, Nat.reduceBNe, Int.reduceEq, Int.reduceLT, Int.reduceLE, Int.reduceNe, Int.reduceToNat, ir_usufructref21_Net, c1, hg, ro_cmd, ro_rep, ro_nm]
    | true =>
      rw [hl] at hg
      rw [if_neg (by simp)]
      have ek : ∀ u, keyB saga s u = Lib.itoa saga ++ 47 :: (s.data.toList ++ 47 :: wayL u) := fun u => by unfold keyB; rw [if_neg c1]
      have h1 := hH (BA (keyB saga s false))
      have h2 := hH (BA (keyB saga s true))
      generalize hasK (BA (keyB saga s false)) x.k.list = a at h1 ⊢
      generalize hasK (BA (keyB saga s true)) x.k.list = b at h2 ⊢
      rw [ek] at h1 h2
      have hil := itoa_len (by omega) hs
      have e0 : (⟨#[47]⟩ : ByteArray) = BA [47] := rfl
      have e1 : (⟨#[47, 117, 110, 100, 111]⟩ : ByteArray) = BA [47, 117, 110, 100, 111] := rfl
      have e2 : (⟨#[47, 100, 111]⟩ : ByteArray) = BA [47, 100, 111] := rfl
      have hnm : s = BA s.data.toList := (ba_of _).symm
      have hsz : s.data.toList.length ≤ 100 := by rw [← ba_size, ba_of]; exact hsz'
      have s1 : ¬ (9223372036854775807 : Int) < (((BA (Lib.itoa saga)).size + (BA [47]).size : Nat) : Int) := by simp only [ba_size, List.length_cons, List.length_nil]; omega
      have s2 : ¬ (9223372036854775807 : Int) < (((BA (Lib.itoa saga ++ [47])).size + (BA s.data.toList).size : Nat) : Int) := by simp only [ba_size, List.length_append, List.length_cons, List.length_nil]; omega
      have s3 : ¬ (9223372036854775807 : Int) < (((BA (Lib.itoa saga ++ [47] ++ s.data.toList)).size + (BA [47, 117, 110, 100, 111]).size : Nat) : Int) := by simp only [ba_size, List.length_append, List.length_cons, List.length_nil]; omega
      have s4 : ¬ (9223372036854775807 : Int) < (((BA (Lib.itoa saga ++ [47] ++ s.data.toList)).size + (BA [47, 100, 111]).size : Nat) : Int) := by simp only [ba_size, List.length_append, List.length_cons, List.length_nil]; omega
      have hi' := fn_decimal hE saga (by omega) hs
      simp only [List.append_assoc, List.cons_append, List.nil_append] at s2 s3 s4
      generalize s.data.toList = L at hnm s2 s3 s4 h1 h2
      subst hnm
      rw [hE.run rfl rfl]
      simp only [XW.cells, wayL, if_true, if_false, Bool.false_eq_true] at h1 h2 ⊢
      cases a <;> cases b <;> simp -implicitDefEqProofs only [go_sem, reduceIte, reduceCtorEq, Nat.reduceEqDiff, Nat.reduceAdd, Nat.reduceSub, Nat.reduceLT, Nat.reduceLeDiff, Nat.reduceBEq, Nat.reduceMul, Nat.reduceBNe, Int.reduceEq, Int.reduceLT, Int.reduceLE, Int.reduceNe, Int.reduceToNat, ir_usufructref21_Net, net2, c1, hg, hi', e0, e1, e2, ba_app, List.append_assoc, s1, s2, s3, s4, h1, h2, ro_cmd, ro_rep, ro_nm, show IntKind.i64.wrap (0 + 1) = 1 from rfl, show IntKind.i64.wrap (1 - 1) = 0 from rfl, show IntKind.i64.wrap (0 - 1) = -1 from rfl, show IntKind.i64.wrap 1 = 1 from rfl, show IntKind.i64.wrap 0 = 0 from rfl, show IntKind.i64.wrap (-1) = -1 from rfl]
theorem sm_cmd (c : CmdT) : sameL c.cells c.cells = true := by simp only [CmdT.cells, sameL_cons, sameL_nil, sameA_int, sameA_bool, sameA_str, Bool.and_self]
theorem sm_rep (c : RepT) : sameL c.cells c.cells = true := by simp only [RepT.cells, sameL_cons, sameL_nil, sameA_int, sameA_bool, Bool.and_self]
theorem sm_nm (c : ByteArray) : sameL (nmC c) (nmC c) = true := by simp only [nmC, sameL_cons, sameL_nil, sameA_str, Bool.and_self]
theorem sameA_av {α : Type} {f : α → List AV} (k : Nat) (h : ∀ x, sameL (f x) (f x) = true) (s : Sl α) : sameA (s.av k f) (s.av k f) = true := by
  cases s with
  | nil => exact sameA_slice 0 0
  | mk l => exact sameA_sl k h l
theorem sameA_cm (s : Sl CmdT) : sameA (s.av 6 CmdT.cells) (s.av 6 CmdT.cells) = true := sameA_av 6 sm_cmd s
theorem sameA_rp (s : Sl RepT) : sameA (s.av 5 RepT.cells) (s.av 5 RepT.cells) = true := sameA_av 5 sm_rep s
theorem sameA_nm (s : Sl ByteArray) : sameA (s.av 1 nmC) (s.av 1 nmC) = true := sameA_av 1 sm_nm s
end Go.Proofs.YtbpndomfipdhdaaDoor.Ev
