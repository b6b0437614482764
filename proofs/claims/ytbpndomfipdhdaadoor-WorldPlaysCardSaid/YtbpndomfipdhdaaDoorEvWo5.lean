/-
  A world: what is delivered.
-/
import Derived.Test.YtbpndomfipdhdaaDoorEvWo3
import Derived.Test.YtbpndomfipdhdaaDoorEvWk2
set_option linter.unusedVariables false
set_option linter.unusedSimpArgs false
namespace Go.Proofs.YtbpndomfipdhdaaDoor.Ev
attribute [local congr] bind_congr_head
attribute [local go_sem] opd_t opd_c opd_g opd_f opds_nil opds_cons get_cons put_some put_none keep_nil keepC_s keepC_n keep_cons runs_nil runs_cons run_op run_opr run_call run_gand run_gor run_gif seqK_norm seqK_exit seqK_ret blkK_norm blkK_exit blkK_ret runL_skip runL_exit runL_ret runL_items runL_seq runL_cond runL_block runL_loop fin_bind finK_norm finK_ret rvs_nil rvs_cons rv_tmp rv_cell tupOf_one tupOf_nil tupOf_two ev_mov ev_pick ev_alloc ev_box ev_build parts_nil parts_cons fills_nil fills_cons ev_bsl ev_bslo ev_load ev_store ev_nilck ev_bin ev_binb ev_aeq ev_un ev_i2i ev_i2t ev_isnilI nilIF ev_s2b ev_ext ev_fld ev_idxs ev_fa ev_ias ev_len ev_lens ev_s2s ev_mkf ev_rng ev_nxt ev_app bOf_s pvOf_s agOf_s tpOf_s iOf_s sOf_s ite_bind Option.bind_some Option.bind_none if_true if_false ite_true ite_false argEnv_nil argEnv_cons len_av elems_av ias_av cells_av tuple_av AV.tuple AV.cells faF ldAt liveRef aggOf nilckF binV binI binS binB unV Bool.not_true Bool.not_false List.length_nil List.length_cons List.nil_append List.cons_append List.append_nil List.getElem?_cons_zero List.getElem?_cons_succ List.drop_zero List.drop_succ_cons List.drop_nil List.take_zero List.take_succ_cons List.take_nil List.set_cons_zero List.set_cons_succ compact_same compact_new closedB nodupB envIds ids0 upto visit pos sel AV.ids idss idsss Ob.ids AV.ren rens renss Ob.ren renEnv AV.snap snaps stAt okSt putCells List.all_nil List.all_cons List.contains_nil List.contains_cons Bool.and_true Bool.true_and Bool.and_false Bool.false_and Bool.or_true Bool.true_or Bool.or_false Bool.false_or decide_eq_true_eq decide_true decide_false beq_iff_eq bne_iff_ne beq_self_eq_true Bool.not_eq_true' Bool.false_eq_true eq_self and_self and_true true_and and_false false_and or_true true_or or_false false_or not_true_eq_false not_false_eq_true ne_eq Nat.zero_add Nat.add_zero Nat.le_refl Nat.not_lt_zero Nat.lt_irrefl Nat.zero_le Int.toNat_natCast gt_iff_lt ge_iff_le Int.lt_irrefl Int.natCast_nonneg txt_eq get_nil appF elems belows AV.under AV.flat flats List.length_map List.map_append List.map_cons List.map_nil List.length_append take_map_all List.flatten_cons List.flatten_nil bld_nil imp_false false_imp_iff false_implies true_implies implies_true decide_eq_false_iff_not Nat.one_mul Nat.mul_one idsss_app renss_app belowss_app ev_mn ev_mx ev_isnils ev_sls ev_slx evo_none evo_some vals minV maxV minF maxF backId List.getElem?_nil putAll Option.all_none Option.all_some Option.isSome_some intOf aszI compactV_same compactV_new callP_any callQ_eq callN_any boxQ AV.id? ids_avR ren_av under_av snap_av renss_mapf belowss_mapf idsss_mapf isnilsF List.length_eq_zero_iff int_beq int_bne decide_not slx_av Int.toNat_zero ev_mkm ev_lk ev_mup ev_mdl ev_lenm ev_isnilm mpOf_s mapAt_s mapOf_nil mapOf_mp isnilm_nil isnilm_mp lkR Option.getD_some Option.getD_none Option.isSome_none Prim.rdo ev_snp snp_own snp_v exQ_nil exQ_cons exA_ref same_nil same_box same_row same_map sameL_nil sameL_cons sameA_int sameA_bool sameA_str sameA_slice sameA_map sameA_ptr sameA_own sameA_ref sameA_mp callB_eq
variable {E : Prog}
abbrev IT : List Nat := [0, 6, 7, 8]
def okN (n0 : Nat) (w : Wd) : Prop := (n0 = 1 ∧ w = .w0) ∨ (∃ g c, n0 = 1 ∧ w = .w1 g c) ∨ (∃ g c, n0 = 2 ∧ w = .w1 g c) ∨ (∃ g h c r, n0 = 3 ∧ w = .w2 g h c r) ∨ ∃ g h j c r k, n0 = 5 ∧ w = .w3 g h j c r k
def sendW (w : Wd) : List CmdT → Wd
  | [] => w
  | x :: r => if goodC x = true then sendW (w.addC x) r else sendW w r
theorem okN_add {n0 : Nat} {w : Wd} (h : okN n0 w) (x : CmdT) : okN n0 (w.addC x) := by
  rcases h with ⟨rfl, rfl⟩ | ⟨g, c, rfl, rfl⟩ | ⟨g, c, rfl, rfl⟩ | ⟨g, h, c, r, rfl, rfl⟩ | ⟨g, h, j, c, r, k, rfl, rfl⟩
  · exact .inr (.inl ⟨_, _, rfl, rfl⟩)
  · exact .inr (.inl ⟨_, _, rfl, rfl⟩)
  · exact .inr (.inr (.inl ⟨_, _, rfl, rfl⟩))
  · exact .inr (.inr (.inr (.inl ⟨_, _, _, _, rfl, rfl⟩)))
  · exact .inr (.inr (.inr (.inr ⟨_, _, _, _, _, _, rfl, rfl⟩)))
theorem okN_send {n0 : Nat} : ∀ (l : List CmdT) {w : Wd}, okN n0 w → okN n0 (sendW w l)
  | [], w, h => h
  | x :: r, w, h => by
    unfold sendW
    split
    · exact okN_send r (okN_add h x)
    · exact okN_send r h
theorem addC_len (w : Wd) (x : CmdT) : (w.addC x).c.length = w.c.length + 1 := by
  cases w <;> simp [Wd.addC, Wd.c]
theorem wd_compact {n0 : Nat} {w : Wd} (h : okN n0 w) : compact [] n0 [] [] w.sto = ([], w.sto) := by
  rcases h with ⟨rfl, rfl⟩ | ⟨g, c, rfl, rfl⟩ | ⟨g, c, rfl, rfl⟩ | ⟨g, h, c, r, rfl, rfl⟩ | ⟨g, h, j, c, r, k, rfl, rfl⟩ <;> simp only [sto0, sto1, sto2, sto3, stom, rowC, rowR, rowK]
  · simp -implicitDefEqProofs only [go_sem, reduceIte, reduceCtorEq, Nat.reduceEqDiff, Nat.reduceAdd, Nat.reduceSub, Nat.reduceLT, Nat.reduceLeDiff, Nat.reduceBEq, Nat.reduceMul, Nat.reduceBNe, Int.reduceEq, Int.reduceLT, Int.reduceLE, Int.reduceNe, Int.reduceToNat, nmC, CmdT.cells, RepT.cells, nmC, kmap_ids, kmap_ren, ro_cmd, ro_rep, ro_nm, lenA_nil, lenA_own, Int.natCast_zero]
  · simp -implicitDefEqProofs only [go_sem, reduceIte, reduceCtorEq, Nat.reduceEqDiff, Nat.reduceAdd, Nat.reduceSub, Nat.reduceLT, Nat.reduceLeDiff, Nat.reduceBEq, Nat.reduceMul, Nat.reduceBNe, Int.reduceEq, Int.reduceLT, Int.reduceLE, Int.reduceNe, Int.reduceToNat, nmC, CmdT.cells, RepT.cells, nmC, kmap_ids, kmap_ren, ro_cmd, ro_rep, ro_nm, lenA_nil, lenA_own, Int.natCast_zero]
  · simp -implicitDefEqProofs only [go_sem, reduceIte, reduceCtorEq, Nat.reduceEqDiff, Nat.reduceAdd, Nat.reduceSub, Nat.reduceLT, Nat.reduceLeDiff, Nat.reduceBEq, Nat.reduceMul, Nat.reduceBNe, Int.reduceEq, Int.reduceLT, Int.reduceLE, Int.reduceNe, Int.reduceToNat, nmC, CmdT.cells, RepT.cells, nmC, kmap_ids, kmap_ren, ro_cmd, ro_rep, ro_nm, lenA_nil, lenA_own, Int.natCast_zero]
  · simp -implicitDefEqProofs only [go_sem, reduceIte, reduceCtorEq, Nat.reduceEqDiff, Nat.reduceAdd, Nat.reduceSub, Nat.reduceLT, Nat.reduceLeDiff, Nat.reduceBEq, Nat.reduceMul, Nat.reduceBNe, Int.reduceEq, Int.reduceLT, Int.reduceLE, Int.reduceNe, Int.reduceToNat, nmC, CmdT.cells, RepT.cells, nmC, kmap_ids, kmap_ren, ro_cmd, ro_rep, ro_nm, lenA_nil, lenA_own, Int.natCast_zero]
  · simp -implicitDefEqProofs only [go_sem, reduceIte, reduceCtorEq, Nat.reduceEqDiff, Nat.reduceAdd, Nat.reduceSub, Nat.reduceLT, Nat.reduceLeDiff, Nat.reduceBEq, Nat.reduceMul, Nat.reduceBNe, Int.reduceEq, Int.reduceLT, Int.reduceLE, Int.reduceNe, Int.reduceToNat, nmC, CmdT.cells, RepT.cells, nmC, kmap_ids, kmap_ren, ro_cmd, ro_rep, ro_nm, lenA_nil, lenA_own, Int.natCast_zero]
theorem wd_compactV {n0 : Nat} {w : Wd} (h : okN n0 w) : compactV [] n0 (.tup [], w.sto) = (.tup [], w.sto) := by
  rcases h with ⟨rfl, rfl⟩ | ⟨g, c, rfl, rfl⟩ | ⟨g, c, rfl, rfl⟩ | ⟨g, h, c, r, rfl, rfl⟩ | ⟨g, h, j, c, r, k, rfl, rfl⟩ <;> simp only [sto0, sto1, sto2, sto3, stom, rowC, rowR, rowK]
  · simp -implicitDefEqProofs only [go_sem, reduceIte, reduceCtorEq, Nat.reduceEqDiff, Nat.reduceAdd, Nat.reduceSub, Nat.reduceLT, Nat.reduceLeDiff, Nat.reduceBEq, Nat.reduceMul, Nat.reduceBNe, Int.reduceEq, Int.reduceLT, Int.reduceLE, Int.reduceNe, Int.reduceToNat, nmC, CmdT.cells, RepT.cells, nmC, kmap_ids, kmap_ren, ro_cmd, ro_rep, ro_nm, lenA_nil, lenA_own, Int.natCast_zero]
  · simp -implicitDefEqProofs only [go_sem, reduceIte, reduceCtorEq, Nat.reduceEqDiff, Nat.reduceAdd, Nat.reduceSub, Nat.reduceLT, Nat.reduceLeDiff, Nat.reduceBEq, Nat.reduceMul, Nat.reduceBNe, Int.reduceEq, Int.reduceLT, Int.reduceLE, Int.reduceNe, Int.reduceToNat, nmC, CmdT.cells, RepT.cells, nmC, kmap_ids, kmap_ren, ro_cmd, ro_rep, ro_nm, lenA_nil, lenA_own, Int.natCast_zero]
  · simp -implicitDefEqProofs only [go_sem, reduceIte, reduceCtorEq, Nat.reduceEqDiff, Nat.reduceAdd, Nat.reduceSub, Nat.reduceLT, Nat.reduceLeDiff, Nat.reduceBEq, Nat.reduceMul, Nat.reduceBNe, Int.reduceEq, Int.reduceLT, Int.reduceLE, Int.reduceNe, Int.reduceToNat, nmC, CmdT.cells, RepT.cells, nmC, kmap_ids, kmap_ren, ro_cmd, ro_rep, ro_nm, lenA_nil, lenA_own, Int.natCast_zero]
  · simp -implicitDefEqProofs only [go_sem, reduceIte, reduceCtorEq, Nat.reduceEqDiff, Nat.reduceAdd, Nat.reduceSub, Nat.reduceLT, Nat.reduceLeDiff, Nat.reduceBEq, Nat.reduceMul, Nat.reduceBNe, Int.reduceEq, Int.reduceLT, Int.reduceLE, Int.reduceNe, Int.reduceToNat, nmC, CmdT.cells, RepT.cells, nmC, kmap_ids, kmap_ren, ro_cmd, ro_rep, ro_nm, lenA_nil, lenA_own, Int.natCast_zero]
  · simp -implicitDefEqProofs only [go_sem, reduceIte, reduceCtorEq, Nat.reduceEqDiff, Nat.reduceAdd, Nat.reduceSub, Nat.reduceLT, Nat.reduceLeDiff, Nat.reduceBEq, Nat.reduceMul, Nat.reduceBNe, Int.reduceEq, Int.reduceLT, Int.reduceLE, Int.reduceNe, Int.reduceToNat, nmC, CmdT.cells, RepT.cells, nmC, kmap_ids, kmap_ren, ro_cmd, ro_rep, ro_nm, lenA_nil, lenA_own, Int.natCast_zero]
theorem send_loop (hE : Std E fns) (hv : VOK E) (hss : SPS E) (n0 : Nat) {L : Env × Store → Option (Sig × Env × Store)} (l : Sl CmdT) (hl : l.list.length ≤ 1000) (hs : ∀ x, x ∈ l.list → x.party.size ≤ 100 ∧ x.key.size ≤ 200)
    (hL : ∀ e st, L (e, st) = (IR.runL E.glob (callL E) [] ir_world_World_Send_L0 e st).bind (seqK fun e st => L (compact [] n0 [0, 6, 7, 8] e st))) :
    ∀ (rest : List CmdT) (i : Nat) (w : Wd), l.list.drop i = rest → i ≤ l.list.length → okN n0 w → w.c.length + rest.length ≤ 100000 →
    L ([(0, .ref 0 0 0 0), (6, l.av 6 CmdT.cells), (7, vi l.list.length), (8, vi i)], w.sto) = some (.exit 0, [], (sendW w rest).sto)
  | [], i, w, h, hi, hw, hb => by
    have h1 := drop_nil' h hi
    rw [hL]
    unfold sendW
    generalize w.sto = st
    simp -implicitDefEqProofs only [go_sem, reduceIte, reduceCtorEq, Nat.reduceEqDiff, Nat.reduceAdd, Nat.reduceSub, Nat.reduceLT, Nat.reduceLeDiff, Nat.reduceBEq, Nat.reduceMul, Nat.reduceBNe, Int.reduceEq, Int.reduceLT, Int.reduceLE, Int.reduceNe, Int.reduceToNat, ir_world_World_Send_L0, h1]
  | x :: rest, i, w, h, hi, hw, hb => by
    obtain ⟨h1, h2, h3, h4, h5⟩ := drop_cons h
    have h6 := wrap_succ (i := i) (by omega)
    obtain ⟨hp, hk⟩ := hs x (List.mem_of_getElem? h1)
    simp only [List.length_cons] at hb
    have hg := fn_goodC hE hv hss x (by omega) (by omega)
    have ha := fn_addC hE w x (by omega)
    unfold sendW
    cases hgc : goodC x with
    | false =>
      rw [hgc] at hg
      have ih := send_loop hE hv hss n0 l hl hs hL rest (i + 1) w h2 h4 hw (by omega)
      rw [if_neg (by simp), hL]
      rcases hw with ⟨rfl, rfl⟩ | ⟨g, c, rfl, rfl⟩ | ⟨g, c, rfl, rfl⟩ | ⟨g, h, c, r, rfl, rfl⟩ | ⟨g, h, j, c, r, k, rfl, rfl⟩ <;> simp only [sto0, sto1, sto2, sto3, stom, rowC, rowR, rowK, CmdT.cells] at ih hg ⊢
      · simp -implicitDefEqProofs only [go_sem, reduceIte, reduceCtorEq, Nat.reduceEqDiff, Nat.reduceAdd, Nat.reduceSub, Nat.reduceLT, Nat.reduceLeDiff, Nat.reduceBEq, Nat.reduceMul, Nat.reduceBNe, Int.reduceEq, Int.reduceLT, Int.reduceLE, Int.reduceNe, Int.reduceToNat, ir_world_World_Send_L0, CmdT.cells, RepT.cells, nmC, kmap_ids, kmap_ren, ro_cmd, ro_rep, ro_nm, lenA_nil, lenA_own, Int.natCast_zero, h1, h3, h6, hg, ih]
      · simp -implicitDefEqProofs only [go_sem, reduceIte, reduceCtorEq, Nat.reduceEqDiff, Nat.reduceAdd, Nat.reduceSub, Nat.reduceLT, Nat.reduceLeDiff, Nat.reduceBEq, Nat.reduceMul, Nat.reduceBNe, Int.reduceEq, Int.reduceLT, Int.reduceLE, Int.reduceNe, Int.reduceToNat, ir_world_World_Send_L0, CmdT.cells, RepT.cells, nmC, kmap_ids, kmap_ren, ro_cmd, ro_rep, ro_nm, lenA_nil, lenA_own, Int.natCast_zero, h1, h3, h6, hg, ih]
      · simp -implicitDefEqProofs only [go_sem, reduceIte, reduceCtorEq, Nat.reduceEqDiff, Nat.reduceAdd, Nat.reduceSub, Nat.reduceLT, Nat.reduceLeDiff, Nat.reduceBEq, Nat.reduceMul, Nat.reduceBNe, Int.reduceEq, Int.reduceLT, Int.reduceLE, Int.reduceNe, Int.reduceToNat, ir_world_World_Send_L0, CmdT.cells, RepT.cells, nmC, kmap_ids, kmap_ren, ro_cmd, ro_rep, ro_nm, lenA_nil, lenA_own, Int.natCast_zero, h1, h3, h6, hg, ih]
      · simp -implicitDefEqProofs only [go_sem, reduceIte, reduceCtorEq, Nat.reduceEqDiff, Nat.reduceAdd, Nat.reduceSub, Nat.reduceLT, Nat.reduceLeDiff, Nat.reduceBEq, Nat.reduceMul, Nat.reduceBNe, Int.reduceEq, Int.reduceLT, Int.reduceLE, Int.reduceNe, Int.reduceToNat, ir_world_World_Send_L0, CmdT.cells, RepT.cells, nmC, kmap_ids, kmap_ren, ro_cmd, ro_rep, ro_nm, lenA_nil, lenA_own, Int.natCast_zero, h1, h3, h6, hg, ih]
      · simp -implicitDefEqProofs only [go_sem, reduceIte, reduceCtorEq, Nat.reduceEqDiff, Nat.reduceAdd, Nat.reduceSub, Nat.reduceLT, Nat.reduceLeDiff, Nat.reduceBEq, Nat.reduceMul, Nat.reduceBNe, Int.reduceEq, Int.reduceLT, Int.reduceLE, Int.reduceNe, Int.reduceToNat, ir_world_World_Send_L0, CmdT.cells, RepT.cells, nmC, kmap_ids, kmap_ren, ro_cmd, ro_rep, ro_nm, lenA_nil, lenA_own, Int.natCast_zero, h1, h3, h6, hg, ih]
    | true =>
      rw [hgc] at hg
      have ih := send_loop hE hv hss n0 l hl hs hL rest (i + 1) (w.addC x) h2 h4 (okN_add hw x) (by rw [addC_len w x]; omega)
      rw [if_pos rfl, hL]
      rcases hw with ⟨rfl, rfl⟩ | ⟨g, c, rfl, rfl⟩ | ⟨g, c, rfl, rfl⟩ | ⟨g, h, c, r, rfl, rfl⟩ | ⟨g, h, j, c, r, k, rfl, rfl⟩ <;> simp only [sto0, sto1, sto2, sto3, stom, Wd.addC, rowC, rowR, rowK, CmdT.cells, List.length_cons, List.length_nil, List.length_append, List.map_cons, List.map_nil, List.map_append, Nat.zero_add] at ih hg ha ⊢
      · simp -implicitDefEqProofs only [go_sem, reduceIte, reduceCtorEq, Nat.reduceEqDiff, Nat.reduceAdd, Nat.reduceSub, Nat.reduceLT, Nat.reduceLeDiff, Nat.reduceBEq, Nat.reduceMul, Nat.reduceBNe, Int.reduceEq, Int.reduceLT, Int.reduceLE, Int.reduceNe, Int.reduceToNat, ir_world_World_Send_L0, CmdT.cells, RepT.cells, nmC, kmap_ids, kmap_ren, ro_cmd, ro_rep, ro_nm, lenA_nil, lenA_own, Int.natCast_zero, h1, h3, h6, hg, ha, ih]
      · simp -implicitDefEqProofs only [go_sem, reduceIte, reduceCtorEq, Nat.reduceEqDiff, Nat.reduceAdd, Nat.reduceSub, Nat.reduceLT, Nat.reduceLeDiff, Nat.reduceBEq, Nat.reduceMul, Nat.reduceBNe, Int.reduceEq, Int.reduceLT, Int.reduceLE, Int.reduceNe, Int.reduceToNat, ir_world_World_Send_L0, CmdT.cells, RepT.cells, nmC, kmap_ids, kmap_ren, ro_cmd, ro_rep, ro_nm, lenA_nil, lenA_own, Int.natCast_zero, h1, h3, h6, hg, ha, ih]
      · simp -implicitDefEqProofs only [go_sem, reduceIte, reduceCtorEq, Nat.reduceEqDiff, Nat.reduceAdd, Nat.reduceSub, Nat.reduceLT, Nat.reduceLeDiff, Nat.reduceBEq, Nat.reduceMul, Nat.reduceBNe, Int.reduceEq, Int.reduceLT, Int.reduceLE, Int.reduceNe, Int.reduceToNat, ir_world_World_Send_L0, CmdT.cells, RepT.cells, nmC, kmap_ids, kmap_ren, ro_cmd, ro_rep, ro_nm, lenA_nil, lenA_own, Int.natCast_zero, h1, h3, h6, hg, ha, ih]
      · simp -implicitDefEqProofs only [go_sem, reduceIte, reduceCtorEq, Nat.reduceEqDiff, Nat.reduceAdd, Nat.reduceSub, Nat.reduceLT, Nat.reduceLeDiff, Nat.reduceBEq, Nat.reduceMul, Nat.reduceBNe, Int.reduceEq, Int.reduceLT, Int.reduceLE, Int.reduceNe, Int.reduceToNat, ir_world_World_Send_L0, CmdT.cells, RepT.cells, nmC, kmap_ids, kmap_ren, ro_cmd, ro_rep, ro_nm, lenA_nil, lenA_own, Int.natCast_zero, h1, h3, h6, hg, ha, ih]
      · simp -implicitDefEqProofs only [go_sem, reduceIte, reduceCtorEq, Nat.reduceEqDiff, Nat.reduceAdd, Nat.reduceSub, Nat.reduceLT, Nat.reduceLeDiff, Nat.reduceBEq, Nat.reduceMul, Nat.reduceBNe, Int.reduceEq, Int.reduceLT, Int.reduceLE, Int.reduceNe, Int.reduceToNat, ir_world_World_Send_L0, CmdT.cells, RepT.cells, nmC, kmap_ids, kmap_ren, ro_cmd, ro_rep, ro_nm, lenA_nil, lenA_own, Int.natCast_zero, h1, h3, h6, hg, ha, ih]
theorem fn_Send (hE : Std E fns) (hv : VOK E) (hss : SPS E) (w : Wd) (hm : ∀ gc gk c k, w ≠ .wm gc gk c k) (l : Sl CmdT) (hl : l.list.length ≤ 1000) (hs : ∀ x, x ∈ l.list → x.party.size ≤ 100 ∧ x.key.size ≤ 200) (hb : w.c.length + l.list.length ≤ 100000) :
    callL E f_world_World_Send [.ref 0 0 0 0, l.av 6 CmdT.cells] [] w.sto = some (.tup [], (sendW w l.list).sto) := by
  have key : ∀ n0, okN n0 w → w.sto.length = n0 → callL E f_world_World_Send [.ref 0 0 0 0, l.av 6 CmdT.cells] [] w.sto = some (.tup [], (sendW w l.list).sto) := by
    intro n0 hn hlen
    have h := send_loop hE hv hss n0 l hl hs (loopL_eq (IR.runL E.glob (callL E) [] ir_world_World_Send_L0) (compact [] n0 [0, 6, 7, 8])) l.list 0 w rfl (Nat.zero_le _) hn hb
    have h2 := wd_compact (okN_send l.list hn)
    have h3 := wd_compactV (okN_send l.list hn)
    rw [hE.runN rfl rfl]
    generalize sendW w l.list = w' at h h2 h3 ⊢
    simp only [Int.natCast_zero] at h
    have h4 : n0 ≤ w.sto.length := by omega
    generalize w.sto = st at h hlen ⊢
    subst hlen
    simp -implicitDefEqProofs only [go_sem, reduceIte, reduceCtorEq, Nat.reduceEqDiff, Nat.reduceAdd, Nat.reduceSub, Nat.reduceLT, Nat.reduceLeDiff, Nat.reduceBEq, Nat.reduceMul, Nat.reduceBNe, Int.reduceEq, Int.reduceLT, Int.reduceLE, Int.reduceNe, Int.reduceToNat, ir_world_World_Send, ro_cmd]
    simp only [h, h2, h3, go_sem, reduceIte, reduceCtorEq, Nat.reduceEqDiff, Nat.reduceAdd, Nat.reduceSub, Nat.reduceLT, Nat.reduceLeDiff, Nat.reduceBEq, Nat.reduceMul, Nat.reduceBNe, Int.reduceEq, Int.reduceLT, Int.reduceLE, Int.reduceNe, Int.reduceToNat]
  cases w with
  | w0 => exact key 1 (.inl ⟨rfl, rfl⟩) rfl
  | w1 gc c => exact key 2 (.inr (.inr (.inl ⟨_, _, rfl, rfl⟩))) rfl
  | w2 gc gr c r => exact key 3 (.inr (.inr (.inr (.inl ⟨_, _, _, _, rfl, rfl⟩)))) rfl
  | w3 gc gr gk c r k => exact key 5 (.inr (.inr (.inr (.inr ⟨_, _, _, _, _, _, rfl, rfl⟩)))) rfl
  | wm gc gk c k => exact absurd rfl (hm _ _ _ _)
def atI {α : Type} (l : List α) (i : Int) : Option α := if 0 ≤ i then l[i.toNat]? else none
theorem atI_some {α : Type} {l : List α} {i : Int} {x : α} (h : atI l i = some x) : ∃ n : Nat, i = n ∧ l[n]? = some x ∧ n < l.length := by
  unfold atI at h
  split at h
  · rename_i c
    refine ⟨i.toNat, by omega, h, (List.getElem?_eq_some_iff.1 h).1⟩
  · cases h
theorem fn_DeliverNo (hE : Std E fns) (w : Wd) (i : Int) (good more : Bool) (hm : ∀ gc gk c k, w ≠ .wm gc gk c k) (hx : atI w.c i = none) :
    callL E f_world_World_Deliver [.ref 0 0 0 0, vi i, vb good, vb more] [] w.sto = some (vi 7, w.sto) := by
  have hat := fn_atC hE w i
  unfold atI at hx
  rw [hx] at hat
  rw [hE.runN rfl rfl]
  cases w <;> simp only [sto0, sto1, sto2, sto3, stom, rowC, rowR, rowK, Wd.addC, Wd.delC, Wd.addR, Wd.delR, Wd.mark, Wd.k, nmC, CmdT.cells, RepT.cells, ansOf, hasK_nil, List.length_cons, List.length_nil, List.length_append, List.map_cons, List.map_nil, List.map_append, Nat.zero_add] at hat ⊢
  · simp -implicitDefEqProofs only [go_sem, reduceIte, reduceCtorEq, Nat.reduceEqDiff, Nat.reduceAdd, Nat.reduceSub, Nat.reduceLT, Nat.reduceLeDiff, Nat.reduceBEq, Nat.reduceMul, Nat.reduceBNe, Int.reduceEq, Int.reduceLT, Int.reduceLE, Int.reduceNe, Int.reduceToNat, ir_world_World_Deliver, CmdT.cells, RepT.cells, nmC, kmap_ids, kmap_ren, ro_cmd, ro_rep, ro_nm, lenA_nil, lenA_own, Int.natCast_zero, hat]
  · simp -implicitDefEqProofs only [go_sem, reduceIte, reduceCtorEq, Nat.reduceEqDiff, Nat.reduceAdd, Nat.reduceSub, Nat.reduceLT, Nat.reduceLeDiff, Nat.reduceBEq, Nat.reduceMul, Nat.reduceBNe, Int.reduceEq, Int.reduceLT, Int.reduceLE, Int.reduceNe, Int.reduceToNat, ir_world_World_Deliver, CmdT.cells, RepT.cells, nmC, kmap_ids, kmap_ren, ro_cmd, ro_rep, ro_nm, lenA_nil, lenA_own, Int.natCast_zero, hat]
  · simp -implicitDefEqProofs only [go_sem, reduceIte, reduceCtorEq, Nat.reduceEqDiff, Nat.reduceAdd, Nat.reduceSub, Nat.reduceLT, Nat.reduceLeDiff, Nat.reduceBEq, Nat.reduceMul, Nat.reduceBNe, Int.reduceEq, Int.reduceLT, Int.reduceLE, Int.reduceNe, Int.reduceToNat, ir_world_World_Deliver, CmdT.cells, RepT.cells, nmC, kmap_ids, kmap_ren, ro_cmd, ro_rep, ro_nm, lenA_nil, lenA_own, Int.natCast_zero, hat]
  · simp -implicitDefEqProofs only [go_sem, reduceIte, reduceCtorEq, Nat.reduceEqDiff, Nat.reduceAdd, Nat.reduceSub, Nat.reduceLT, Nat.reduceLeDiff, Nat.reduceBEq, Nat.reduceMul, Nat.reduceBNe, Int.reduceEq, Int.reduceLT, Int.reduceLE, Int.reduceNe, Int.reduceToNat, ir_world_World_Deliver, CmdT.cells, RepT.cells, nmC, kmap_ids, kmap_ren, ro_cmd, ro_rep, ro_nm, lenA_nil, lenA_own, Int.natCast_zero, hat]
  · exact absurd rfl (hm _ _ _ _)
theorem fn_Deliver_a (hE : Std E fns) (hd : DCK E) (gc : Nat) (c : List CmdT) (n : Nat) (x : CmdT) (good more : Bool) (hx : atI c n = some x) (hb : ∀ w, w = Wd.w1 gc c → w.c.length ≤ 1000000 ∧ w.r.length ≤ 1000000 ∧ w.k.length ≤ 1000000) :
    callL E f_world_World_Deliver [.ref 0 0 0 0, vi n, vb good, vb more] [] (Wd.w1 gc c).sto = some (vi 0, ((Wd.w1 gc c).deliv n x good more).sto) := by
  have hb := hb _ rfl
  simp only [Wd.c, Wd.r, Wd.k, List.length_nil] at hb
  have hat := fn_atC hE (Wd.w1 gc c) n
  have hx2 : (if (0 : Int) ≤ (n : Int) then c[(n : Int).toNat]? else none) = some x := hx
  simp only [Wd.c, hx2] at hat
  obtain ⟨n', e1, e2, hn⟩ := atI_some hx
  obtain rfl : n = n' := by omega
  have hD := fn_Done hE (Wd.w1 gc c) x.key
  unfold Wd.deliv
  by_cases hg : (good && !hasK x.key (Wd.w1 gc c).k) = true
  · rw [if_pos hg]
    simp only [Bool.and_eq_true, Bool.not_eq_true'] at hg
    obtain ⟨rfl, hk⟩ := hg
    have hk2 : x.key ∉ (Wd.w1 gc c).k := fun q => by rw [hasK_iff.2 q] at hk; cases hk
    have hmk := fn_mark hE (Wd.w1 gc c) x.key hk2 (by simp) (by simp only [Wd.k, List.length_nil]; omega)
    rw [hk] at hD
    cases more with
    | true =>
      rw [if_pos rfl]
      have hD2 := fn_Done hE ((Wd.w1 gc c).mark x.key) x.key
      have hans := fun b => fn_answer hE x b
      generalize hasK x.key ((Wd.w1 gc c).mark x.key).k = bb at hD2 ⊢
      have hadd := fn_addRm hE gc 0 c [x.key] (ansOf x bb)
      simp only [sto0, sto1, sto2, sto3, stom, rowC, rowR, rowK, Wd.addC, Wd.delC, Wd.addR, Wd.delR, Wd.mark, Wd.k, nmC, CmdT.cells, RepT.cells, ansOf, hasK_nil, List.length_cons, List.length_nil, List.length_append, List.map_cons, List.map_nil, List.map_append, Nat.zero_add] at hat hD hmk hD2 hans hadd ⊢
      rw [hE.runN rfl rfl]
      simp -implicitDefEqProofs only [go_sem, reduceIte, reduceCtorEq, Nat.reduceEqDiff, Nat.reduceAdd, Nat.reduceSub, Nat.reduceLT, Nat.reduceLeDiff, Nat.reduceBEq, Nat.reduceMul, Nat.reduceBNe, Int.reduceEq, Int.reduceLT, Int.reduceLE, Int.reduceNe, Int.reduceToNat, ir_world_World_Deliver, CmdT.cells, RepT.cells, nmC, kmap_ids, kmap_ren, ro_cmd, ro_rep, ro_nm, lenA_nil, lenA_own, Int.natCast_zero, hat, hD, hmk, hD2, hans, hadd]
    | false =>
      rw [if_neg (by simp)]
      have hlv := fn_leaveC hE hd ((Wd.w1 gc c).mark x.key) n (by simpa [Wd.mark, Wd.c] using hn) (by simp only [Wd.mark, Wd.c]; omega)
      have hD2 := fn_Done hE (((Wd.w1 gc c).mark x.key).delC n) x.key
      have hans := fun b => fn_answer hE x b
      generalize hasK x.key (((Wd.w1 gc c).mark x.key).delC n).k = bb at hD2 ⊢
      have hadd := fn_addRm hE (gc + 1) 0 (c.take n ++ c.drop (n + 1)) [x.key] (ansOf x bb)
      simp only [sto0, sto1, sto2, sto3, stom, rowC, rowR, rowK, Wd.addC, Wd.delC, Wd.addR, Wd.delR, Wd.mark, Wd.k, nmC, CmdT.cells, RepT.cells, ansOf, hasK_nil, List.length_cons, List.length_nil, List.length_append, List.map_cons, List.map_nil, List.map_append, Nat.zero_add] at hat hD hmk hlv hD2 hans hadd ⊢
      rw [hE.runN rfl rfl]
      simp -implicitDefEqProofs only [go_sem, reduceIte, reduceCtorEq, Nat.reduceEqDiff, Nat.reduceAdd, Nat.reduceSub, Nat.reduceLT, Nat.reduceLeDiff, Nat.reduceBEq, Nat.reduceMul, Nat.reduceBNe, Int.reduceEq, Int.reduceLT, Int.reduceLE, Int.reduceNe, Int.reduceToNat, ir_world_World_Deliver, CmdT.cells, RepT.cells, nmC, kmap_ids, kmap_ren, ro_cmd, ro_rep, ro_nm, lenA_nil, lenA_own, Int.natCast_zero, hat, hD, hmk, hlv, hD2, hans, hadd]
  · rw [if_neg hg]
    cases more with
    | true =>
      rw [if_pos rfl]
      have hans := fun b => fn_answer hE x b
      have hadd := fun b => fn_addR hE (Wd.w1 gc c) (ansOf x b) (by simp only [Wd.r, List.length_nil]; omega) (by simp) (by simp)
      have hgs : good = false ∨ hasK x.key (Wd.w1 gc c).k = true := by
        cases good with
        | false => exact .inl rfl
        | true => exact .inr (by simpa using hg)
      generalize hasK x.key (Wd.w1 gc c).k = bb at hD hgs ⊢
      have hadd := hadd bb
      have hans := hans bb
      simp only [sto0, sto1, sto2, sto3, stom, rowC, rowR, rowK, Wd.addC, Wd.delC, Wd.addR, Wd.delR, Wd.mark, Wd.k, nmC, CmdT.cells, RepT.cells, ansOf, hasK_nil, List.length_cons, List.length_nil, List.length_append, List.map_cons, List.map_nil, List.map_append, Nat.zero_add] at hat hD hans hadd ⊢
      rw [hE.runN rfl rfl]
      rcases hgs with rfl | rfl
      · simp -implicitDefEqProofs only [go_sem, reduceIte, reduceCtorEq, Nat.reduceEqDiff, Nat.reduceAdd, Nat.reduceSub, Nat.reduceLT, Nat.reduceLeDiff, Nat.reduceBEq, Nat.reduceMul, Nat.reduceBNe, Int.reduceEq, Int.reduceLT, Int.reduceLE, Int.reduceNe, Int.reduceToNat, ir_world_World_Deliver, CmdT.cells, RepT.cells, nmC, kmap_ids, kmap_ren, ro_cmd, ro_rep, ro_nm, lenA_nil, lenA_own, Int.natCast_zero, hat, hD, hans, hadd]
      · cases good
        · simp -implicitDefEqProofs only [go_sem, reduceIte, reduceCtorEq, Nat.reduceEqDiff, Nat.reduceAdd, Nat.reduceSub, Nat.reduceLT, Nat.reduceLeDiff, Nat.reduceBEq, Nat.reduceMul, Nat.reduceBNe, Int.reduceEq, Int.reduceLT, Int.reduceLE, Int.reduceNe, Int.reduceToNat, ir_world_World_Deliver, CmdT.cells, RepT.cells, nmC, kmap_ids, kmap_ren, ro_cmd, ro_rep, ro_nm, lenA_nil, lenA_own, Int.natCast_zero, hat, hD, hans, hadd]
        · simp -implicitDefEqProofs only [go_sem, reduceIte, reduceCtorEq, Nat.reduceEqDiff, Nat.reduceAdd, Nat.reduceSub, Nat.reduceLT, Nat.reduceLeDiff, Nat.reduceBEq, Nat.reduceMul, Nat.reduceBNe, Int.reduceEq, Int.reduceLT, Int.reduceLE, Int.reduceNe, Int.reduceToNat, ir_world_World_Deliver, CmdT.cells, RepT.cells, nmC, kmap_ids, kmap_ren, ro_cmd, ro_rep, ro_nm, lenA_nil, lenA_own, Int.natCast_zero, hat, hD, hans, hadd]
    | false =>
      rw [if_neg (by simp)]
      have hlv := fn_leaveC hE hd (Wd.w1 gc c) n (by simpa [Wd.c] using hn) (by simp only [Wd.c]; omega)
      have hD2 := fn_Done hE ((Wd.w1 gc c).delC n) x.key
      have hke : ((Wd.w1 gc c).delC n).k = (Wd.w1 gc c).k := rfl
      rw [hke] at hD2 ⊢
      have hans := fun b => fn_answer hE x b
      have hadd := fun b => fn_addR hE ((Wd.w1 gc c).delC n) (ansOf x b) (by simp only [Wd.delC, Wd.r, List.length_nil]; omega) (by simp [Wd.delC]) (by simp [Wd.delC])
      have hgs : good = false ∨ hasK x.key (Wd.w1 gc c).k = true := by
        cases good with
        | false => exact .inl rfl
        | true => exact .inr (by simpa using hg)
      generalize hasK x.key (Wd.w1 gc c).k = bb at hD hD2 hgs ⊢
      have hadd := hadd bb
      have hans := hans bb
      simp only [sto0, sto1, sto2, sto3, stom, rowC, rowR, rowK, Wd.addC, Wd.delC, Wd.addR, Wd.delR, Wd.mark, Wd.k, nmC, CmdT.cells, RepT.cells, ansOf, hasK_nil, List.length_cons, List.length_nil, List.length_append, List.map_cons, List.map_nil, List.map_append, Nat.zero_add] at hat hD hD2 hlv hans hadd ⊢
      rw [hE.runN rfl rfl]
      rcases hgs with rfl | rfl
      · simp -implicitDefEqProofs only [go_sem, reduceIte, reduceCtorEq, Nat.reduceEqDiff, Nat.reduceAdd, Nat.reduceSub, Nat.reduceLT, Nat.reduceLeDiff, Nat.reduceBEq, Nat.reduceMul, Nat.reduceBNe, Int.reduceEq, Int.reduceLT, Int.reduceLE, Int.reduceNe, Int.reduceToNat, ir_world_World_Deliver, CmdT.cells, RepT.cells, nmC, kmap_ids, kmap_ren, ro_cmd, ro_rep, ro_nm, lenA_nil, lenA_own, Int.natCast_zero, hat, hD, hD2, hlv, hans, hadd]
      · cases good
        · simp -implicitDefEqProofs only [go_sem, reduceIte, reduceCtorEq, Nat.reduceEqDiff, Nat.reduceAdd, Nat.reduceSub, Nat.reduceLT, Nat.reduceLeDiff, Nat.reduceBEq, Nat.reduceMul, Nat.reduceBNe, Int.reduceEq, Int.reduceLT, Int.reduceLE, Int.reduceNe, Int.reduceToNat, ir_world_World_Deliver, CmdT.cells, RepT.cells, nmC, kmap_ids, kmap_ren, ro_cmd, ro_rep, ro_nm, lenA_nil, lenA_own, Int.natCast_zero, hat, hD, hD2, hlv, hans, hadd]
        · simp -implicitDefEqProofs only [go_sem, reduceIte, reduceCtorEq, Nat.reduceEqDiff, Nat.reduceAdd, Nat.reduceSub, Nat.reduceLT, Nat.reduceLeDiff, Nat.reduceBEq, Nat.reduceMul, Nat.reduceBNe, Int.reduceEq, Int.reduceLT, Int.reduceLE, Int.reduceNe, Int.reduceToNat, ir_world_World_Deliver, CmdT.cells, RepT.cells, nmC, kmap_ids, kmap_ren, ro_cmd, ro_rep, ro_nm, lenA_nil, lenA_own, Int.natCast_zero, hat, hD, hD2, hlv, hans, hadd]
theorem fn_Deliver_b (hE : Std E fns) (hd : DCK E) (gc gr : Nat) (c : List CmdT) (r : List RepT) (n : Nat) (x : CmdT) (good more : Bool) (hx : atI c n = some x) (hb : ∀ w, w = Wd.w2 gc gr c r → w.c.length ≤ 1000000 ∧ w.r.length ≤ 1000000 ∧ w.k.length ≤ 1000000) :
    callL E f_world_World_Deliver [.ref 0 0 0 0, vi n, vb good, vb more] [] (Wd.w2 gc gr c r).sto = some (vi 0, ((Wd.w2 gc gr c r).deliv n x good more).sto) := by
  have hb := hb _ rfl
  simp only [Wd.c, Wd.r, Wd.k, List.length_nil] at hb
  have hat := fn_atC hE (Wd.w2 gc gr c r) n
  have hx2 : (if (0 : Int) ≤ (n : Int) then c[(n : Int).toNat]? else none) = some x := hx
  simp only [Wd.c, hx2] at hat
  obtain ⟨n', e1, e2, hn⟩ := atI_some hx
  obtain rfl : n = n' := by omega
  have hD := fn_Done hE (Wd.w2 gc gr c r) x.key
  unfold Wd.deliv
  by_cases hg : (good && !hasK x.key (Wd.w2 gc gr c r).k) = true
  · rw [if_pos hg]
    simp only [Bool.and_eq_true, Bool.not_eq_true'] at hg
    obtain ⟨rfl, hk⟩ := hg
    have hk2 : x.key ∉ (Wd.w2 gc gr c r).k := fun q => by rw [hasK_iff.2 q] at hk; cases hk
    have hmk := fn_mark hE (Wd.w2 gc gr c r) x.key hk2 (by simp) (by simp only [Wd.k, List.length_nil]; omega)
    rw [hk] at hD
    cases more with
    | true =>
      rw [if_pos rfl]
      have hD2 := fn_Done hE ((Wd.w2 gc gr c r).mark x.key) x.key
      have hans := fun b => fn_answer hE x b
      generalize hasK x.key ((Wd.w2 gc gr c r).mark x.key).k = bb at hD2 ⊢
      have hadd := fn_addR hE ((Wd.w2 gc gr c r).mark x.key) (ansOf x bb) (by simp only [Wd.mark, Wd.r]; omega) (by simp [Wd.mark]) (by simp [Wd.mark])
      simp only [sto0, sto1, sto2, sto3, stom, rowC, rowR, rowK, Wd.addC, Wd.delC, Wd.addR, Wd.delR, Wd.mark, Wd.k, nmC, CmdT.cells, RepT.cells, ansOf, hasK_nil, List.length_cons, List.length_nil, List.length_append, List.map_cons, List.map_nil, List.map_append, Nat.zero_add] at hat hD hmk hD2 hans hadd ⊢
      rw [hE.runN rfl rfl]
      simp -implicitDefEqProofs only [go_sem, reduceIte, reduceCtorEq, Nat.reduceEqDiff, Nat.reduceAdd, Nat.reduceSub, Nat.reduceLT, Nat.reduceLeDiff, Nat.reduceBEq, Nat.reduceMul, Nat.reduceBNe, Int.reduceEq, Int.reduceLT, Int.reduceLE, Int.reduceNe, Int.reduceToNat, ir_world_World_Deliver, CmdT.cells, RepT.cells, nmC, kmap_ids, kmap_ren, ro_cmd, ro_rep, ro_nm, lenA_nil, lenA_own, Int.natCast_zero, hat, hD, hmk, hD2, hans, hadd]
    | false =>
      rw [if_neg (by simp)]
      have hlv := fn_leaveC hE hd ((Wd.w2 gc gr c r).mark x.key) n (by simpa [Wd.mark, Wd.c] using hn) (by simp only [Wd.mark, Wd.c]; omega)
      have hD2 := fn_Done hE (((Wd.w2 gc gr c r).mark x.key).delC n) x.key
      have hans := fun b => fn_answer hE x b
      generalize hasK x.key (((Wd.w2 gc gr c r).mark x.key).delC n).k = bb at hD2 ⊢
      have hadd := fn_addR hE (((Wd.w2 gc gr c r).mark x.key).delC n) (ansOf x bb) (by simp only [Wd.mark, Wd.delC, Wd.r]; omega) (by simp [Wd.mark, Wd.delC]) (by simp [Wd.mark, Wd.delC])
      simp only [sto0, sto1, sto2, sto3, stom, rowC, rowR, rowK, Wd.addC, Wd.delC, Wd.addR, Wd.delR, Wd.mark, Wd.k, nmC, CmdT.cells, RepT.cells, ansOf, hasK_nil, List.length_cons, List.length_nil, List.length_append, List.map_cons, List.map_nil, List.map_append, Nat.zero_add] at hat hD hmk hlv hD2 hans hadd ⊢
      rw [hE.runN rfl rfl]
      simp -implicitDefEqProofs only [go_sem, reduceIte, reduceCtorEq, Nat.reduceEqDiff, Nat.reduceAdd, Nat.reduceSub, Nat.reduceLT, Nat.reduceLeDiff, Nat.reduceBEq, Nat.reduceMul, Nat.reduceBNe, Int.reduceEq, Int.reduceLT, Int.reduceLE, Int.reduceNe, Int.reduceToNat, ir_world_World_Deliver, CmdT.cells, RepT.cells, nmC, kmap_ids, kmap_ren, ro_cmd, ro_rep, ro_nm, lenA_nil, lenA_own, Int.natCast_zero, hat, hD, hmk, hlv, hD2, hans, hadd]
  · rw [if_neg hg]
    cases more with
    | true =>
      rw [if_pos rfl]
      have hans := fun b => fn_answer hE x b
      have hadd := fun b => fn_addR hE (Wd.w2 gc gr c r) (ansOf x b) (by simp only [Wd.r, List.length_nil]; omega) (by simp) (by simp)
      have hgs : good = false ∨ hasK x.key (Wd.w2 gc gr c r).k = true := by
        cases good with
        | false => exact .inl rfl
        | true => exact .inr (by simpa using hg)
      generalize hasK x.key (Wd.w2 gc gr c r).k = bb at hD hgs ⊢
      have hadd := hadd bb
      have hans := hans bb
      simp only [sto0, sto1, sto2, sto3, stom, rowC, rowR, rowK, Wd.addC, Wd.delC, Wd.addR, Wd.delR, Wd.mark, Wd.k, nmC, CmdT.cells, RepT.cells, ansOf, hasK_nil, List.length_cons, List.length_nil, List.length_append, List.map_cons, List.map_nil, List.map_append, Nat.zero_add] at hat hD hans hadd ⊢
      rw [hE.runN rfl rfl]
      rcases hgs with rfl | rfl
      · simp -implicitDefEqProofs only [go_sem, reduceIte, reduceCtorEq, Nat.reduceEqDiff, Nat.reduceAdd, Nat.reduceSub, Nat.reduceLT, Nat.reduceLeDiff, Nat.reduceBEq, Nat.reduceMul, Nat.reduceBNe, Int.reduceEq, Int.reduceLT, Int.reduceLE, Int.reduceNe, Int.reduceToNat, ir_world_World_Deliver, CmdT.cells, RepT.cells, nmC, kmap_ids, kmap_ren, ro_cmd, ro_rep, ro_nm, lenA_nil, lenA_own, Int.natCast_zero, hat, hD, hans, hadd]
      · cases good
        · simp -implicitDefEqProofs only [go_sem, reduceIte, reduceCtorEq, Nat.reduceEqDiff, Nat.reduceAdd, Nat.reduceSub, Nat.reduceLT, Nat.reduceLeDiff, Nat.reduceBEq, Nat.reduceMul, Nat.reduceBNe, Int.reduceEq, Int.reduceLT, Int.reduceLE, Int.reduceNe, Int.reduceToNat, ir_world_World_Deliver, CmdT.cells, RepT.cells, nmC, kmap_ids, kmap_ren, ro_cmd, ro_rep, ro_nm, lenA_nil, lenA_own, Int.natCast_zero, hat, hD, hans, hadd]
        · simp -implicitDefEqProofs only [go_sem, reduceIte, reduceCtorEq, Nat.reduceEqDiff, Nat.reduceAdd, Nat.reduceSub, Nat.reduceLT, Nat.reduceLeDiff, Nat.reduceBEq, Nat.reduceMul, Nat.reduceBNe, Int.reduceEq, Int.reduceLT, Int.reduceLE, Int.reduceNe, Int.reduceToNat, ir_world_World_Deliver, CmdT.cells, RepT.cells, nmC, kmap_ids, kmap_ren, ro_cmd, ro_rep, ro_nm, lenA_nil, lenA_own, Int.natCast_zero, hat, hD, hans, hadd]
    | false =>
      rw [if_neg (by simp)]
      have hlv := fn_leaveC hE hd (Wd.w2 gc gr c r) n (by simpa [Wd.c] using hn) (by simp only [Wd.c]; omega)
      have hD2 := fn_Done hE ((Wd.w2 gc gr c r).delC n) x.key
      have hke : ((Wd.w2 gc gr c r).delC n).k = (Wd.w2 gc gr c r).k := rfl
      rw [hke] at hD2 ⊢
      have hans := fun b => fn_answer hE x b
      have hadd := fun b => fn_addR hE ((Wd.w2 gc gr c r).delC n) (ansOf x b) (by simp only [Wd.delC, Wd.r, List.length_nil]; omega) (by simp [Wd.delC]) (by simp [Wd.delC])
      have hgs : good = false ∨ hasK x.key (Wd.w2 gc gr c r).k = true := by
        cases good with
        | false => exact .inl rfl
        | true => exact .inr (by simpa using hg)
      generalize hasK x.key (Wd.w2 gc gr c r).k = bb at hD hD2 hgs ⊢
      have hadd := hadd bb
      have hans := hans bb
      simp only [sto0, sto1, sto2, sto3, stom, rowC, rowR, rowK, Wd.addC, Wd.delC, Wd.addR, Wd.delR, Wd.mark, Wd.k, nmC, CmdT.cells, RepT.cells, ansOf, hasK_nil, List.length_cons, List.length_nil, List.length_append, List.map_cons, List.map_nil, List.map_append, Nat.zero_add] at hat hD hD2 hlv hans hadd ⊢
      rw [hE.runN rfl rfl]
      rcases hgs with rfl | rfl
      · simp -implicitDefEqProofs only [go_sem, reduceIte, reduceCtorEq, Nat.reduceEqDiff, Nat.reduceAdd, Nat.reduceSub, Nat.reduceLT, Nat.reduceLeDiff, Nat.reduceBEq, Nat.reduceMul, Nat.reduceBNe, Int.reduceEq, Int.reduceLT, Int.reduceLE, Int.reduceNe, Int.reduceToNat, ir_world_World_Deliver, CmdT.cells, RepT.cells, nmC, kmap_ids, kmap_ren, ro_cmd, ro_rep, ro_nm, lenA_nil, lenA_own, Int.natCast_zero, hat, hD, hD2, hlv, hans, hadd]
      · cases good
        · simp -implicitDefEqProofs only [go_sem, reduceIte, reduceCtorEq, Nat.reduceEqDiff, Nat.reduceAdd, Nat.reduceSub, Nat.reduceLT, Nat.reduceLeDiff, Nat.reduceBEq, Nat.reduceMul, Nat.reduceBNe, Int.reduceEq, Int.reduceLT, Int.reduceLE, Int.reduceNe, Int.reduceToNat, ir_world_World_Deliver, CmdT.cells, RepT.cells, nmC, kmap_ids, kmap_ren, ro_cmd, ro_rep, ro_nm, lenA_nil, lenA_own, Int.natCast_zero, hat, hD, hD2, hlv, hans, hadd]
        · simp -implicitDefEqProofs only [go_sem, reduceIte, reduceCtorEq, Nat.reduceEqDiff, Nat.reduceAdd, Nat.reduceSub, Nat.reduceLT, Nat.reduceLeDiff, Nat.reduceBEq, Nat.reduceMul, Nat.reduceBNe, Int.reduceEq, Int.reduceLT, Int.reduceLE, Int.reduceNe, Int.reduceToNat, ir_world_World_Deliver, CmdT.cells, RepT.cells, nmC, kmap_ids, kmap_ren, ro_cmd, ro_rep, ro_nm, lenA_nil, lenA_own, Int.natCast_zero, hat, hD, hD2, hlv, hans, hadd]
theorem fn_Deliver_c (hE : Std E fns) (hd : DCK E) (gc gr gk : Nat) (c : List CmdT) (r : List RepT) (k : List ByteArray) (n : Nat) (x : CmdT) (good more : Bool) (hx : atI c n = some x) (hb : ∀ w, w = Wd.w3 gc gr gk c r k → w.c.length ≤ 1000000 ∧ w.r.length ≤ 1000000 ∧ w.k.length ≤ 1000000) :
    callL E f_world_World_Deliver [.ref 0 0 0 0, vi n, vb good, vb more] [] (Wd.w3 gc gr gk c r k).sto = some (vi 0, ((Wd.w3 gc gr gk c r k).deliv n x good more).sto) := by
  have hb := hb _ rfl
  simp only [Wd.c, Wd.r, Wd.k, List.length_nil] at hb
  have hat := fn_atC hE (Wd.w3 gc gr gk c r k) n
  have hx2 : (if (0 : Int) ≤ (n : Int) then c[(n : Int).toNat]? else none) = some x := hx
  simp only [Wd.c, hx2] at hat
  obtain ⟨n', e1, e2, hn⟩ := atI_some hx
  obtain rfl : n = n' := by omega
  have hD := fn_Done hE (Wd.w3 gc gr gk c r k) x.key
  unfold Wd.deliv
  by_cases hg : (good && !hasK x.key (Wd.w3 gc gr gk c r k).k) = true
  · rw [if_pos hg]
    simp only [Bool.and_eq_true, Bool.not_eq_true'] at hg
    obtain ⟨rfl, hk⟩ := hg
    have hk2 : x.key ∉ (Wd.w3 gc gr gk c r k).k := fun q => by rw [hasK_iff.2 q] at hk; cases hk
    have hmk := fn_mark hE (Wd.w3 gc gr gk c r k) x.key hk2 (by simp) (by simp only [Wd.k, List.length_nil]; omega)
    rw [hk] at hD
    cases more with
    | true =>
      rw [if_pos rfl]
      have hD2 := fn_Done hE ((Wd.w3 gc gr gk c r k).mark x.key) x.key
      have hans := fun b => fn_answer hE x b
      generalize hasK x.key ((Wd.w3 gc gr gk c r k).mark x.key).k = bb at hD2 ⊢
      have hadd := fn_addR hE ((Wd.w3 gc gr gk c r k).mark x.key) (ansOf x bb) (by simp only [Wd.mark, Wd.r]; omega) (by simp [Wd.mark]) (by simp [Wd.mark])
      simp only [sto0, sto1, sto2, sto3, stom, rowC, rowR, rowK, Wd.addC, Wd.delC, Wd.addR, Wd.delR, Wd.mark, Wd.k, nmC, CmdT.cells, RepT.cells, ansOf, hasK_nil, List.length_cons, List.length_nil, List.length_append, List.map_cons, List.map_nil, List.map_append, Nat.zero_add] at hat hD hmk hD2 hans hadd ⊢
      rw [hE.runN rfl rfl]
      simp -implicitDefEqProofs only [go_sem, reduceIte, reduceCtorEq, Nat.reduceEqDiff, Nat.reduceAdd, Nat.reduceSub, Nat.reduceLT, Nat.reduceLeDiff, Nat.reduceBEq, Nat.reduceMul, Nat.reduceBNe, Int.reduceEq, Int.reduceLT, Int.reduceLE, Int.reduceNe, Int.reduceToNat, ir_world_World_Deliver, CmdT.cells, RepT.cells, nmC, kmap_ids, kmap_ren, ro_cmd, ro_rep, ro_nm, lenA_nil, lenA_own, Int.natCast_zero, hat, hD, hmk, hD2, hans, hadd]
    | false =>
      rw [if_neg (by simp)]
      have hlv := fn_leaveC hE hd ((Wd.w3 gc gr gk c r k).mark x.key) n (by simpa [Wd.mark, Wd.c] using hn) (by simp only [Wd.mark, Wd.c]; omega)
      have hD2 := fn_Done hE (((Wd.w3 gc gr gk c r k).mark x.key).delC n) x.key
      have hans := fun b => fn_answer hE x b
      generalize hasK x.key (((Wd.w3 gc gr gk c r k).mark x.key).delC n).k = bb at hD2 ⊢
      have hadd := fn_addR hE (((Wd.w3 gc gr gk c r k).mark x.key).delC n) (ansOf x bb) (by simp only [Wd.mark, Wd.delC, Wd.r]; omega) (by simp [Wd.mark, Wd.delC]) (by simp [Wd.mark, Wd.delC])
      simp only [sto0, sto1, sto2, sto3, stom, rowC, rowR, rowK, Wd.addC, Wd.delC, Wd.addR, Wd.delR, Wd.mark, Wd.k, nmC, CmdT.cells, RepT.cells, ansOf, hasK_nil, List.length_cons, List.length_nil, List.length_append, List.map_cons, List.map_nil, List.map_append, Nat.zero_add] at hat hD hmk hlv hD2 hans hadd ⊢
      rw [hE.runN rfl rfl]
      simp -implicitDefEqProofs only [go_sem, reduceIte, reduceCtorEq, Nat.reduceEqDiff, Nat.reduceAdd, Nat.reduceSub, Nat.reduceLT, Nat.reduceLeDiff, Nat.reduceBEq, Nat.reduceMul, Nat.reduceBNe, Int.reduceEq, Int.reduceLT, Int.reduceLE, Int.reduceNe, Int.reduceToNat, ir_world_World_Deliver, CmdT.cells, RepT.cells, nmC, kmap_ids, kmap_ren, ro_cmd, ro_rep, ro_nm, lenA_nil, lenA_own, Int.natCast_zero, hat, hD, hmk, hlv, hD2, hans, hadd]
  · rw [if_neg hg]
    cases more with
    | true =>
      rw [if_pos rfl]
      have hans := fun b => fn_answer hE x b
      have hadd := fun b => fn_addR hE (Wd.w3 gc gr gk c r k) (ansOf x b) (by simp only [Wd.r, List.length_nil]; omega) (by simp) (by simp)
      have hgs : good = false ∨ hasK x.key (Wd.w3 gc gr gk c r k).k = true := by
        cases good with
        | false => exact .inl rfl
        | true => exact .inr (by simpa using hg)
      generalize hasK x.key (Wd.w3 gc gr gk c r k).k = bb at hD hgs ⊢
      have hadd := hadd bb
      have hans := hans bb
      simp only [sto0, sto1, sto2, sto3, stom, rowC, rowR, rowK, Wd.addC, Wd.delC, Wd.addR, Wd.delR, Wd.mark, Wd.k, nmC, CmdT.cells, RepT.cells, ansOf, hasK_nil, List.length_cons, List.length_nil, List.length_append, List.map_cons, List.map_nil, List.map_append, Nat.zero_add] at hat hD hans hadd ⊢
      rw [hE.runN rfl rfl]
      rcases hgs with rfl | rfl
      · simp -implicitDefEqProofs only [go_sem, reduceIte, reduceCtorEq, Nat.reduceEqDiff, Nat.reduceAdd, Nat.reduceSub, Nat.reduceLT, Nat.reduceLeDiff, Nat.reduceBEq, Nat.reduceMul, Nat.reduceBNe, Int.reduceEq, Int.reduceLT, Int.reduceLE, Int.reduceNe, Int.reduceToNat, ir_world_World_Deliver, CmdT.cells, RepT.cells, nmC, kmap_ids, kmap_ren, ro_cmd, ro_rep, ro_nm, lenA_nil, lenA_own, Int.natCast_zero, hat, hD, hans, hadd]
      · cases good
        · simp -implicitDefEqProofs only [go_sem, reduceIte, reduceCtorEq, Nat.reduceEqDiff, Nat.reduceAdd, Nat.reduceSub, Nat.reduceLT, Nat.reduceLeDiff, Nat.reduceBEq, Nat.reduceMul, Nat.reduceBNe, Int.reduceEq, Int.reduceLT, Int.reduceLE, Int.reduceNe, Int.reduceToNat, ir_world_World_Deliver, CmdT.cells, RepT.cells, nmC, kmap_ids, kmap_ren, ro_cmd, ro_rep, ro_nm, lenA_nil, lenA_own, Int.natCast_zero, hat, hD, hans, hadd]
        · simp -implicitDefEqProofs only [go_sem, reduceIte, reduceCtorEq, Nat.reduceEqDiff, Nat.reduceAdd, Nat.reduceSub, Nat.reduceLT, Nat.reduceLeDiff, Nat.reduceBEq, Nat.reduceMul, Nat.reduceBNe, Int.reduceEq, Int.reduceLT, Int.reduceLE, Int.reduceNe, Int.reduceToNat, ir_world_World_Deliver, CmdT.cells, RepT.cells, nmC, kmap_ids, kmap_ren, ro_cmd, ro_rep, ro_nm, lenA_nil, lenA_own, Int.natCast_zero, hat, hD, hans, hadd]
    | false =>
      rw [if_neg (by simp)]
      have hlv := fn_leaveC hE hd (Wd.w3 gc gr gk c r k) n (by simpa [Wd.c] using hn) (by simp only [Wd.c]; omega)
      have hD2 := fn_Done hE ((Wd.w3 gc gr gk c r k).delC n) x.key
      have hke : ((Wd.w3 gc gr gk c r k).delC n).k = (Wd.w3 gc gr gk c r k).k := rfl
      rw [hke] at hD2 ⊢
      have hans := fun b => fn_answer hE x b
      have hadd := fun b => fn_addR hE ((Wd.w3 gc gr gk c r k).delC n) (ansOf x b) (by simp only [Wd.delC, Wd.r, List.length_nil]; omega) (by simp [Wd.delC]) (by simp [Wd.delC])
      have hgs : good = false ∨ hasK x.key (Wd.w3 gc gr gk c r k).k = true := by
        cases good with
        | false => exact .inl rfl
        | true => exact .inr (by simpa using hg)
      generalize hasK x.key (Wd.w3 gc gr gk c r k).k = bb at hD hD2 hgs ⊢
      have hadd := hadd bb
      have hans := hans bb
      simp only [sto0, sto1, sto2, sto3, stom, rowC, rowR, rowK, Wd.addC, Wd.delC, Wd.addR, Wd.delR, Wd.mark, Wd.k, nmC, CmdT.cells, RepT.cells, ansOf, hasK_nil, List.length_cons, List.length_nil, List.length_append, List.map_cons, List.map_nil, List.map_append, Nat.zero_add] at hat hD hD2 hlv hans hadd ⊢
      rw [hE.runN rfl rfl]
      rcases hgs with rfl | rfl
      · simp -implicitDefEqProofs only [go_sem, reduceIte, reduceCtorEq, Nat.reduceEqDiff, Nat.reduceAdd, Nat.reduceSub, Nat.reduceLT, Nat.reduceLeDiff, Nat.reduceBEq, Nat.reduceMul, Nat.reduceBNe, Int.reduceEq, Int.reduceLT, Int.reduceLE, Int.reduceNe, Int.reduceToNat, ir_world_World_Deliver, CmdT.cells, RepT.cells, nmC, kmap_ids, kmap_ren, ro_cmd, ro_rep, ro_nm, lenA_nil, lenA_own, Int.natCast_zero, hat, hD, hD2, hlv, hans, hadd]
      · cases good
        · simp -implicitDefEqProofs only [go_sem, reduceIte, reduceCtorEq, Nat.reduceEqDiff, Nat.reduceAdd, Nat.reduceSub, Nat.reduceLT, Nat.reduceLeDiff, Nat.reduceBEq, Nat.reduceMul, Nat.reduceBNe, Int.reduceEq, Int.reduceLT, Int.reduceLE, Int.reduceNe, Int.reduceToNat, ir_world_World_Deliver, CmdT.cells, RepT.cells, nmC, kmap_ids, kmap_ren, ro_cmd, ro_rep, ro_nm, lenA_nil, lenA_own, Int.natCast_zero, hat, hD, hD2, hlv, hans, hadd]
        · simp -implicitDefEqProofs only [go_sem, reduceIte, reduceCtorEq, Nat.reduceEqDiff, Nat.reduceAdd, Nat.reduceSub, Nat.reduceLT, Nat.reduceLeDiff, Nat.reduceBEq, Nat.reduceMul, Nat.reduceBNe, Int.reduceEq, Int.reduceLT, Int.reduceLE, Int.reduceNe, Int.reduceToNat, ir_world_World_Deliver, CmdT.cells, RepT.cells, nmC, kmap_ids, kmap_ren, ro_cmd, ro_rep, ro_nm, lenA_nil, lenA_own, Int.natCast_zero, hat, hD, hD2, hlv, hans, hadd]
end Go.Proofs.YtbpndomfipdhdaaDoor.Ev
