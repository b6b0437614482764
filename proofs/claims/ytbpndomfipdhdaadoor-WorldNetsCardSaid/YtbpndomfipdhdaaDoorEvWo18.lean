/-
  A world: the law WorldNets.
-/
import Derived.Test.YtbpndomfipdhdaaDoorEvWo14
import Derived.Test.YtbpndomfipdhdaaDoorEvWo15
import Derived.Test.YtbpndomfipdhdaaDoorEvWo17
set_option linter.unusedVariables false
set_option linter.unusedSimpArgs false
namespace Go.Proofs.YtbpndomfipdhdaaDoor.Ev
attribute [local congr] bind_congr_head
attribute [local go_sem] opd_t opd_c opd_g opd_f opds_nil opds_cons get_cons put_some put_none keep_nil keepC_s keepC_n keep_cons runs_nil runs_cons run_op run_opr run_call run_gand run_gor run_gif seqK_norm seqK_exit seqK_ret blkK_norm blkK_exit blkK_ret runL_skip runL_exit runL_ret runL_items runL_seq runL_cond runL_block runL_loop fin_bind finK_norm finK_ret rvs_nil rvs_cons rv_tmp rv_cell tupOf_one tupOf_nil tupOf_two ev_mov ev_pick ev_alloc ev_box ev_build parts_nil parts_cons fills_nil fills_cons ev_bsl ev_bslo ev_load ev_store ev_nilck ev_bin ev_binb ev_aeq ev_un ev_i2i ev_i2t ev_isnilI nilIF ev_s2b ev_ext ev_fld ev_idxs ev_fa ev_ias ev_len ev_lens ev_s2s ev_mkf ev_rng ev_nxt ev_app bOf_s pvOf_s agOf_s tpOf_s iOf_s sOf_s ite_bind Option.bind_some Option.bind_none if_true if_false ite_true ite_false argEnv_nil argEnv_cons len_av elems_av ias_av cells_av tuple_av AV.tuple AV.cells faF ldAt liveRef aggOf nilckF binV binI binS binB unV Bool.not_true Bool.not_false List.length_nil List.length_cons List.nil_append List.cons_append List.append_nil List.getElem?_cons_zero List.getElem?_cons_succ List.drop_zero List.drop_succ_cons List.drop_nil List.take_zero List.take_succ_cons List.take_nil List.set_cons_zero List.set_cons_succ compact_same compact_new closedB nodupB envIds ids0 upto visit pos sel AV.ids idss idsss Ob.ids AV.ren rens renss Ob.ren renEnv AV.snap snaps stAt okSt putCells List.all_nil List.all_cons List.contains_nil List.contains_cons Bool.and_true Bool.true_and Bool.and_false Bool.false_and Bool.or_true Bool.true_or Bool.or_false Bool.false_or decide_eq_true_eq decide_true decide_false beq_iff_eq bne_iff_ne beq_self_eq_true Bool.not_eq_true' Bool.false_eq_true eq_self and_self and_true true_and and_false false_and or_true true_or or_false false_or not_true_eq_false not_false_eq_true ne_eq Nat.zero_add Nat.add_zero Nat.le_refl Nat.not_lt_zero Nat.lt_irrefl Nat.zero_le Int.toNat_natCast gt_iff_lt ge_iff_le Int.lt_irrefl Int.natCast_nonneg txt_eq get_nil appF elems belows AV.under AV.flat flats List.length_map List.map_append List.map_cons List.map_nil List.length_append take_map_all List.flatten_cons List.flatten_nil bld_nil imp_false false_imp_iff false_implies true_implies implies_true decide_eq_false_iff_not Nat.one_mul Nat.mul_one idsss_app renss_app belowss_app ev_mn ev_mx ev_isnils ev_sls ev_slx evo_none evo_some vals minV maxV minF maxF backId List.getElem?_nil putAll Option.all_none Option.all_some Option.isSome_some intOf aszI compactV_same compactV_new callP_any callQ_eq callN_any boxQ AV.id? ids_avR ren_av under_av snap_av renss_mapf belowss_mapf idsss_mapf isnilsF List.length_eq_zero_iff int_beq int_bne decide_not slx_av Int.toNat_zero ev_mkm ev_lk ev_mup ev_mdl ev_lenm ev_isnilm mpOf_s mapAt_s mapOf_nil mapOf_mp isnilm_nil isnilm_mp lkR Option.getD_some Option.getD_none Option.isSome_none Prim.rdo ev_snp snp_own snp_v exQ_nil exQ_cons exA_ref same_nil same_box same_row same_map sameL_nil sameL_cons sameA_int sameA_bool sameA_str sameA_slice sameA_map sameA_ptr sameA_own sameA_ref sameA_mp callB_eq
variable {E : Prog}
theorem nets_B2 (hE : WOK E) {w : Wd} (h : w.ok) (hb : Bd w) (x : Sl ActT) (i : Nat) (sg : Int) (stp : ByteArray) (a : ActT) (ha : okA a = true) :
    IR.runL E.glob (callL E) [] ir_usufructlaw21_WorldNets_B2 (nets38 x i (w.r.length : Nat) sg stp a w.sto.length) (w.sto ++ [.box [vi a.k, vi a.n, cmv a.l, vb a.good, vb a.more]]) = some (.norm, netsE x i ((w.step a).r.length : Nat) sg stp, mrg w (w.step a) (.box [vi a.k, vi a.n, cmv a.l, vb a.good, vb a.more])) := by
  have hbr := hb.2.1
  have hnx := step_nx h a
  have hu := wrap_succ (i := w.r.length) (by omega)
  have hsub : ∀ n : Nat, n + 1 = w.r.length → IntKind.i64.wrap ((w.r.length : Int) - 1) = ((n : Nat) : Int) := fun n e => by rw [IntKind.wrap_i64]; omega
  have hlen : ∀ j : Int, ∀ y, atI w.r j = some y → (w.r.take j.toNat ++ w.r.drop (j.toNat + 1)).length + 1 = w.r.length := fun j y hy => by
    obtain ⟨n, rfl, _, h3⟩ := atI_some hy
    rw [List.length_append, List.length_take, List.length_drop, Int.toNat_natCast]
    omega
  simp only [okA, Bool.and_eq_true, decide_eq_true_eq, List.all_eq_true] at ha
  by_cases c1 : a.k = 0 ∨ a.k = 1
  · have es : w.step a = sendW w a.l.list := by unfold Wd.step; rw [if_pos c1]
    rw [es] at hnx ⊢
    rw [(send_cont _ _).2.1]
    exact nets_send x i _ sg stp a hnx (fn_Send hE.std hE.v hE.s w h a.l (by omega) (fun y hy => by have := ha.2 y hy; simpa [shC] using this) (by omega)) c1
  · by_cases c2 : a.k = 2 ∨ a.k = 3
    · have es : w.step a = w.deliver a.n a.good a.more := by unfold Wd.step; rw [if_neg c1, if_pos c2]
      rw [es] at hnx ⊢
      have hc := call_Deliver hE.std hE.dc h hb a.n a.good a.more
      unfold errI at hc
      cases hx : atI w.c a.n with
      | none =>
        rw [hx] at hc
        have e2 := deliver_no hx a.good a.more
        rw [show (w.deliver a.n a.good a.more).r.length = w.r.length by rw [e2]]
        exact nets_deliverNo x i _ sg stp a hnx hc c2
      | some y =>
        rw [hx] at hc
        have e2 := (deliver_cont h hx a.good a.more).2.2.1
        rw [show (w.deliver a.n a.good a.more).r.length = w.r.length + 1 by rw [e2]; simp]
        exact nets_deliver x i _ sg stp a hnx _ hu hc c2
    · by_cases c3 : a.k = 4
      · have es : w.step a = w.lose a.n := by unfold Wd.step; rw [if_neg c1, if_neg c2, if_pos c3]
        rw [es] at hnx ⊢
        rw [(lose_cont h _).2.1]
        exact nets_lose x i _ sg stp a hnx _ (call_Lose hE.std hE.dc h hb a.n) c3
      · by_cases c4 : a.k = 5 ∨ a.k = 6
        · have es : w.step a = w.reply a.n a.more := by unfold Wd.step; rw [if_neg c1, if_neg c2, if_neg c3, if_pos c4]
          rw [es] at hnx ⊢
          have hc := call_Reply hE.std hE.dr h hb a.n a.more
          unfold errI at hc
          have e2 := (reply_cont h a.n a.more).2.2.2
          cases hx : atI w.r a.n with
          | none =>
            rw [hx] at hc e2
            rw [e2]
            exact nets_replyNo x i _ sg stp a hnx _ hc c4
          | some y =>
            rw [hx] at hc e2
            rcases Bool.eq_false_or_eq_true a.more with hm | hm
            · have e3 : (w.reply a.n a.more).r.length = w.r.length := by rw [e2]; simp only [hm, if_true]
              rw [e3]
              exact nets_replyMore x i _ sg stp a hnx _ hm hc c4
            · have e3 : (w.reply a.n a.more).r.length = (w.r.take a.n.toNat ++ w.r.drop (a.n.toNat + 1)).length := by rw [e2]; simp only [hm, Bool.false_eq_true, if_false]
              rw [e3]
              exact nets_reply x i _ sg stp a hnx _ _ (hsub _ (hlen _ _ hx)) hm hc c4
        · by_cases c5 : a.k = 7
          · have es : w.step a = w.loseR a.n := by unfold Wd.step; rw [if_neg c1, if_neg c2, if_neg c3, if_neg c4, if_pos c5]
            rw [es] at hnx ⊢
            have hc := call_LoseReply hE.std hE.dr h hb a.n
            unfold errI at hc
            have e2 := (loseR_cont h a.n).2.2.2
            cases hx : atI w.r a.n with
            | none =>
              rw [hx] at hc e2
              rw [e2]
              exact nets_loseRNo x i _ sg stp a hnx hc c5
            | some y =>
              rw [hx] at hc e2
              rw [e2]
              exact nets_loseR x i _ sg stp a hnx _ (hsub _ (hlen _ _ hx)) hc c5
          · have es : w.step a = w := step_other (by omega)
            rw [es] at hnx ⊢
            exact nets_other x i _ sg stp a hnx rfl (by omega)
theorem nets_pairL (hE : WOK E) {w w' : Wd} (hn : Nx w w') (hb' : Bd w') (x : Sl ActT) (i : Nat) (sg : Int) (stp : ByteArray) (hi : i < 1000) (h3 : (i : Int) < (x.list.length : Int)) (a : ActT) (h1 : x.list[i]? = some a)
    (hB : IR.runL E.glob (callL E) [] ir_usufructlaw21_WorldNets_B2 (nets38 x i (w.r.length : Nat) sg stp a w.sto.length) (w.sto ++ [.box [vi a.k, vi a.n, cmv a.l, vb a.good, vb a.more]]) = some (.norm, netsE x i (w'.r.length : Nat) sg stp, mrg w w' (.box [vi a.k, vi a.n, cmv a.l, vb a.good, vb a.more])))
    {L : Env × Store → Option (Sig × Env × Store)}
    (hL : ∀ e s, L (e, s) = (IR.runL E.glob (callL E) [] ir_usufructlaw21_WorldNets_L0 e s).bind (seqK fun e s => L (compact [] 1 [0, 1, 2, 7, 8, 9] e s))) :
    L (netsE x i (w.r.length : Nat) sg stp, w.sto) = L (netsE x (i + 1) (w'.r.length : Nat) sg stp, w'.sto) := by
  have h6 := wrap_succ (i := i) (by omega)
  have hR := fn_Replies hE.std w' (nx_ok hn) (by omega)
  rw [hL]
  cases w with
  | w0 =>
    rcases hn with rfl | ⟨g', c', rfl⟩
    · simp only [copyO, Wd.hasR, Wd.r, sto0, sto1, sto2, sto3, stom, rowC, rowR, rowK, List.cons_append, List.nil_append, List.append_nil, List.length_cons, List.length_nil, Nat.zero_add, Nat.reduceAdd, mrg00, mrg01, mrg11, mrg12, mrg13, mrg22, mrg23, mrg33, if_true, if_false, Bool.false_eq_true, Int.natCast_zero, netsE, nets38] at hR hB ⊢
      simp -implicitDefEqProofs only [go_sem, reduceIte, reduceCtorEq, Nat.reduceEqDiff, Nat.reduceAdd, Nat.reduceSub, Nat.reduceLT, Nat.reduceLeDiff, Nat.reduceBEq, Nat.reduceMul, Nat.reduceBNe, Int.reduceEq, Int.reduceLT, Int.reduceLE, Int.reduceNe, Int.reduceToNat, ir_usufructlaw21_WorldNets_L0, ActT.cells, h1, h3, h6, hR, hB, kmap_ids, kmap_ren, ro_cmd, ro_rep, ro_nm, ro_act, lenA_nil, lenA_own, Int.natCast_zero]
    · simp only [copyO, Wd.hasR, Wd.r, sto0, sto1, sto2, sto3, stom, rowC, rowR, rowK, List.cons_append, List.nil_append, List.append_nil, List.length_cons, List.length_nil, Nat.zero_add, Nat.reduceAdd, mrg00, mrg01, mrg11, mrg12, mrg13, mrg22, mrg23, mrg33, if_true, if_false, Bool.false_eq_true, Int.natCast_zero, netsE, nets38] at hR hB ⊢
      simp -implicitDefEqProofs only [go_sem, reduceIte, reduceCtorEq, Nat.reduceEqDiff, Nat.reduceAdd, Nat.reduceSub, Nat.reduceLT, Nat.reduceLeDiff, Nat.reduceBEq, Nat.reduceMul, Nat.reduceBNe, Int.reduceEq, Int.reduceLT, Int.reduceLE, Int.reduceNe, Int.reduceToNat, ir_usufructlaw21_WorldNets_L0, ActT.cells, h1, h3, h6, hR, hB, kmap_ids, kmap_ren, ro_cmd, ro_rep, ro_nm, ro_act, lenA_nil, lenA_own, Int.natCast_zero]
  | w1 gc c =>
    rcases hn with ⟨g', c', rfl⟩ | ⟨g', h', c', r', rfl⟩ | ⟨g', h', j', c', r', k', rfl⟩
    · simp only [copyO, Wd.hasR, Wd.r, sto0, sto1, sto2, sto3, stom, rowC, rowR, rowK, List.cons_append, List.nil_append, List.append_nil, List.length_cons, List.length_nil, Nat.zero_add, Nat.reduceAdd, mrg00, mrg01, mrg11, mrg12, mrg13, mrg22, mrg23, mrg33, if_true, if_false, Bool.false_eq_true, Int.natCast_zero, netsE, nets38] at hR hB ⊢
      simp -implicitDefEqProofs only [go_sem, reduceIte, reduceCtorEq, Nat.reduceEqDiff, Nat.reduceAdd, Nat.reduceSub, Nat.reduceLT, Nat.reduceLeDiff, Nat.reduceBEq, Nat.reduceMul, Nat.reduceBNe, Int.reduceEq, Int.reduceLT, Int.reduceLE, Int.reduceNe, Int.reduceToNat, ir_usufructlaw21_WorldNets_L0, ActT.cells, h1, h3, h6, hR, hB, kmap_ids, kmap_ren, ro_cmd, ro_rep, ro_nm, ro_act, lenA_nil, lenA_own, Int.natCast_zero]
    · simp only [copyO, Wd.hasR, Wd.r, sto0, sto1, sto2, sto3, stom, rowC, rowR, rowK, List.cons_append, List.nil_append, List.append_nil, List.length_cons, List.length_nil, Nat.zero_add, Nat.reduceAdd, mrg00, mrg01, mrg11, mrg12, mrg13, mrg22, mrg23, mrg33, if_true, if_false, Bool.false_eq_true, Int.natCast_zero, netsE, nets38] at hR hB ⊢
      simp -implicitDefEqProofs only [go_sem, reduceIte, reduceCtorEq, Nat.reduceEqDiff, Nat.reduceAdd, Nat.reduceSub, Nat.reduceLT, Nat.reduceLeDiff, Nat.reduceBEq, Nat.reduceMul, Nat.reduceBNe, Int.reduceEq, Int.reduceLT, Int.reduceLE, Int.reduceNe, Int.reduceToNat, ir_usufructlaw21_WorldNets_L0, ActT.cells, h1, h3, h6, hR, hB, kmap_ids, kmap_ren, ro_cmd, ro_rep, ro_nm, ro_act, lenA_nil, lenA_own, Int.natCast_zero]
    · simp only [copyO, Wd.hasR, Wd.r, sto0, sto1, sto2, sto3, stom, rowC, rowR, rowK, List.cons_append, List.nil_append, List.append_nil, List.length_cons, List.length_nil, Nat.zero_add, Nat.reduceAdd, mrg00, mrg01, mrg11, mrg12, mrg13, mrg22, mrg23, mrg33, if_true, if_false, Bool.false_eq_true, Int.natCast_zero, netsE, nets38] at hR hB ⊢
      simp -implicitDefEqProofs only [go_sem, reduceIte, reduceCtorEq, Nat.reduceEqDiff, Nat.reduceAdd, Nat.reduceSub, Nat.reduceLT, Nat.reduceLeDiff, Nat.reduceBEq, Nat.reduceMul, Nat.reduceBNe, Int.reduceEq, Int.reduceLT, Int.reduceLE, Int.reduceNe, Int.reduceToNat, ir_usufructlaw21_WorldNets_L0, ActT.cells, h1, h3, h6, hR, hB, kmap_ids, kmap_ren, ro_cmd, ro_rep, ro_nm, ro_act, lenA_nil, lenA_own, Int.natCast_zero]
  | w2 gc gr c r2 =>
    rcases hn with ⟨g', h', c', r', rfl⟩ | ⟨g', h', j', c', r', k', rfl⟩
    · simp only [copyO, Wd.hasR, Wd.r, sto0, sto1, sto2, sto3, stom, rowC, rowR, rowK, List.cons_append, List.nil_append, List.append_nil, List.length_cons, List.length_nil, Nat.zero_add, Nat.reduceAdd, mrg00, mrg01, mrg11, mrg12, mrg13, mrg22, mrg23, mrg33, if_true, if_false, Bool.false_eq_true, Int.natCast_zero, netsE, nets38] at hR hB ⊢
      simp -implicitDefEqProofs only [go_sem, reduceIte, reduceCtorEq, Nat.reduceEqDiff, Nat.reduceAdd, Nat.reduceSub, Nat.reduceLT, Nat.reduceLeDiff, Nat.reduceBEq, Nat.reduceMul, Nat.reduceBNe, Int.reduceEq, Int.reduceLT, Int.reduceLE, Int.reduceNe, Int.reduceToNat, ir_usufructlaw21_WorldNets_L0, ActT.cells, h1, h3, h6, hR, hB, kmap_ids, kmap_ren, ro_cmd, ro_rep, ro_nm, ro_act, lenA_nil, lenA_own, Int.natCast_zero]
    · simp only [copyO, Wd.hasR, Wd.r, sto0, sto1, sto2, sto3, stom, rowC, rowR, rowK, List.cons_append, List.nil_append, List.append_nil, List.length_cons, List.length_nil, Nat.zero_add, Nat.reduceAdd, mrg00, mrg01, mrg11, mrg12, mrg13, mrg22, mrg23, mrg33, if_true, if_false, Bool.false_eq_true, Int.natCast_zero, netsE, nets38] at hR hB ⊢
      simp -implicitDefEqProofs only [go_sem, reduceIte, reduceCtorEq, Nat.reduceEqDiff, Nat.reduceAdd, Nat.reduceSub, Nat.reduceLT, Nat.reduceLeDiff, Nat.reduceBEq, Nat.reduceMul, Nat.reduceBNe, Int.reduceEq, Int.reduceLT, Int.reduceLE, Int.reduceNe, Int.reduceToNat, ir_usufructlaw21_WorldNets_L0, ActT.cells, h1, h3, h6, hR, hB, kmap_ids, kmap_ren, ro_cmd, ro_rep, ro_nm, ro_act, lenA_nil, lenA_own, Int.natCast_zero]
  | w3 gc gr gk c r2 k =>
    obtain ⟨g', h', j', c', r', k', rfl⟩ := hn
    simp only [copyO, Wd.hasR, Wd.r, sto0, sto1, sto2, sto3, stom, rowC, rowR, rowK, List.cons_append, List.nil_append, List.append_nil, List.length_cons, List.length_nil, Nat.zero_add, Nat.reduceAdd, mrg00, mrg01, mrg11, mrg12, mrg13, mrg22, mrg23, mrg33, if_true, if_false, Bool.false_eq_true, Int.natCast_zero, netsE, nets38] at hR hB ⊢
    simp -implicitDefEqProofs only [go_sem, reduceIte, reduceCtorEq, Nat.reduceEqDiff, Nat.reduceAdd, Nat.reduceSub, Nat.reduceLT, Nat.reduceLeDiff, Nat.reduceBEq, Nat.reduceMul, Nat.reduceBNe, Int.reduceEq, Int.reduceLT, Int.reduceLE, Int.reduceNe, Int.reduceToNat, ir_usufructlaw21_WorldNets_L0, ActT.cells, h1, h3, h6, hR, hB, kmap_ids, kmap_ren, ro_cmd, ro_rep, ro_nm, ro_act, lenA_nil, lenA_own, Int.natCast_zero]
  | wm gc gk c k => exact hn.elim
theorem nets_loop (hE : WOK E) (x : Sl ActT) (sg : Int) (stp : ByteArray) (hx : x.list.length ≤ 40) (ho : ∀ a, a ∈ x.list → okA a = true) {L : Env × Store → Option (Sig × Env × Store)}
    (hL : ∀ e s, L (e, s) = (IR.runL E.glob (callL E) [] ir_usufructlaw21_WorldNets_L0 e s).bind (seqK fun e s => L (compact [] 1 [0, 1, 2, 7, 8, 9] e s))) :
    ∀ (rest : List ActT) (i : Nat) (w : Wd), x.list.drop i = rest → i ≤ x.list.length → WInv w i → KG w.k →
    ∃ w' : Wd, w'.ok ∧ Bd w' ∧ KG w'.k ∧ L (netsE x i (w.r.length : Nat) sg stp, w.sto) = some (.exit 0, [(1, .v (.int .u8 sg)), (2, vs stp), (7, .ref 0 0 0 0)], w'.sto)
  | [], i, w, h, hi, hw, hk => by
    have h1 := drop_nil' h hi
    refine ⟨w, hw.ok, inv_bd hw (by omega), hk, ?_⟩
    rw [hL]
    generalize w.sto = st
    simp -implicitDefEqProofs only [go_sem, reduceIte, reduceCtorEq, Nat.reduceEqDiff, Nat.reduceAdd, Nat.reduceSub, Nat.reduceLT, Nat.reduceLeDiff, Nat.reduceBEq, Nat.reduceMul, Nat.reduceBNe, Int.reduceEq, Int.reduceLT, Int.reduceLE, Int.reduceNe, Int.reduceToNat, ir_usufructlaw21_WorldNets_L0, netsE, h1]
  | a :: rest, i, w, h, hi, hw, hk => by
    obtain ⟨h1, h2, h3, h4, h5⟩ := drop_cons h
    have ha := ho a (List.mem_of_getElem? h1)
    have hw2 := step_inv hw a ha
    obtain ⟨w', k1, k2, k3, k4⟩ := nets_loop hE x sg stp hx ho hL rest (i + 1) (w.step a) h2 h4 hw2 (step_kg hw hk a)
    refine ⟨w', k1, k2, k3, ?_⟩
    rw [nets_pairL hE (step_nx hw.ok a) (inv_bd hw2 (by omega)) x i sg stp (by omega) h3 a h1 (nets_B2 hE hw.ok (inv_bd hw (by omega)) x i sg stp a ha) hL]
    exact k4
set_option maxHeartbeats 1000000 in
theorem fn_WorldNets (hE : WOK E) (hi : ITOK E) (haw : callP E f_usufructlaw21_awake [] = some (vb true)) (x : Sl ActT) (hx : x.list.length < 9223372036854775808) (sg : Int) (hsg : 0 ≤ sg ∧ sg ≤ 255) (stp : ByteArray) :
    callP E f_usufructlaw21_WorldNets [acv x, .v (.int .u8 sg), vs stp] = some (vb true) := by
  have hfw := fn_few hE.std x hx
  cases hf : fewS x.list with
  | false =>
    rw [hf] at hfw
    rw [hE.std.run rfl rfl]
    simp -implicitDefEqProofs only [go_sem, reduceIte, reduceCtorEq, Nat.reduceEqDiff, Nat.reduceAdd, Nat.reduceSub, Nat.reduceLT, Nat.reduceLeDiff, Nat.reduceBEq, Nat.reduceMul, Nat.reduceBNe, Int.reduceEq, Int.reduceLT, Int.reduceLE, Int.reduceNe, Int.reduceToNat, ir_usufructlaw21_WorldNets, haw, hfw, ro_act]
  | true =>
    rw [hf] at hfw
    by_cases hs : (100 : Int) < (stp.size : Int)
    · rw [hE.std.run rfl rfl]
      simp -implicitDefEqProofs only [go_sem, reduceIte, reduceCtorEq, Nat.reduceEqDiff, Nat.reduceAdd, Nat.reduceSub, Nat.reduceLT, Nat.reduceLeDiff, Nat.reduceBEq, Nat.reduceMul, Nat.reduceBNe, Int.reduceEq, Int.reduceLT, Int.reduceLE, Int.reduceNe, Int.reduceToNat, ir_usufructlaw21_WorldNets, haw, hfw, hs, ro_act]
    · simp only [fewS, Bool.and_eq_true, decide_eq_true_eq] at hf
      obtain ⟨w', hok, hbd, hkg, hlp⟩ := nets_loop hE x sg stp hf.1 (fun a ha => List.all_eq_true.1 hf.2 a ha) (loopL_eq (IR.runL E.glob (callL E) [] ir_usufructlaw21_WorldNets_L0) (compact [] 1 [0, 1, 2, 7, 8, 9])) x.list 0 .w0 rfl (Nat.zero_le _) inv_0 (fun s hs => by cases hs)
      have hsz : stp.size ≤ 100 := by omega
      have hwr : IntKind.i64.wrap sg = sg := by rw [IntKind.wrap_i64]; omega
      have k1 := fn_keyR1 hE.std sg (by omega) stp hsz false
      have k2 := fn_keyR1 hE.std sg (by omega) stp hsz true
      have d1 := fn_Done hE.std w' (BA (keyB sg stp false))
      have d2 := fn_Done hE.std w' (BA (keyB sg stp true))
      have hN := fn_Net hE.std hE.v hi w' hok sg (by omega) stp hsz
      have n1 := fun hl => key_no (saga := sg) (s := stp) hkg hl false
      have n2 := fun hl => key_no (saga := sg) (s := stp) hkg hl true
      unfold netS at hN
      unfold stC at k1 k2
      generalize BA (keyB sg stp false) = A at k1 d1 hN n1
      generalize BA (keyB sg stp true) = B at k2 d2 hN n2
      generalize hasK A w'.k = p at d1 hN n1
      generalize hasK B w'.k = q at d2 hN n2
      have hN2 : callL E f_world_World_Net [.ref 0 0 0 0, vi sg, vs stp] [] w'.sto = some (vi (net2 p q), w'.sto) := by
        rw [hN]
        cases hl : labelGood stp with
        | true => rfl
        | false =>
          have e1 := n1 hl
          have e2 := n2 hl
          subst e1; subst e2
          rfl
      clear hN n1 n2
      simp only [sto0, Int.natCast_zero, netsE, Wd.r, List.length_nil] at hlp
      rw [hE.std.run rfl rfl]
      cases w' <;> simp only [sto0, sto1, sto2, sto3, stom, rowC, rowR, rowK] at hlp d1 d2 hN2
      · cases p <;> cases q <;> simp -implicitDefEqProofs only [go_sem, reduceIte, reduceCtorEq, Nat.reduceEqDiff, Nat.reduceAdd, Nat.reduceSub, Nat.reduceLT, Nat.reduceLeDiff, Nat.reduceBEq, Nat.reduceMul, Nat.reduceBNe, Int.reduceEq, Int.reduceLT, Int.reduceLE, Int.reduceNe, Int.reduceToNat, ir_usufructlaw21_WorldNets, net2, haw, hfw, hs, hlp, hwr, k1, k2, d1, d2, hN2, kmap_ids, kmap_ren, ro_cmd, ro_rep, ro_nm, ro_act, q12r, q12b, q12i, q12n, show IntKind.i64.wrap (0 + 1) = 1 from rfl, show IntKind.i64.wrap (1 - 1) = 0 from rfl, show IntKind.i64.wrap (0 - 1) = -1 from rfl, show IntKind.i64.wrap 1 = 1 from rfl, show IntKind.i64.wrap 0 = 0 from rfl, show IntKind.i64.wrap (-1) = -1 from rfl]
      · cases p <;> cases q <;> simp -implicitDefEqProofs only [go_sem, reduceIte, reduceCtorEq, Nat.reduceEqDiff, Nat.reduceAdd, Nat.reduceSub, Nat.reduceLT, Nat.reduceLeDiff, Nat.reduceBEq, Nat.reduceMul, Nat.reduceBNe, Int.reduceEq, Int.reduceLT, Int.reduceLE, Int.reduceNe, Int.reduceToNat, ir_usufructlaw21_WorldNets, net2, haw, hfw, hs, hlp, hwr, k1, k2, d1, d2, hN2, kmap_ids, kmap_ren, ro_cmd, ro_rep, ro_nm, ro_act, q12r, q12b, q12i, q12n, show IntKind.i64.wrap (0 + 1) = 1 from rfl, show IntKind.i64.wrap (1 - 1) = 0 from rfl, show IntKind.i64.wrap (0 - 1) = -1 from rfl, show IntKind.i64.wrap 1 = 1 from rfl, show IntKind.i64.wrap 0 = 0 from rfl, show IntKind.i64.wrap (-1) = -1 from rfl]
      · cases p <;> cases q <;> simp -implicitDefEqProofs only [go_sem, reduceIte, reduceCtorEq, Nat.reduceEqDiff, Nat.reduceAdd, Nat.reduceSub, Nat.reduceLT, Nat.reduceLeDiff, Nat.reduceBEq, Nat.reduceMul, Nat.reduceBNe, Int.reduceEq, Int.reduceLT, Int.reduceLE, Int.reduceNe, Int.reduceToNat, ir_usufructlaw21_WorldNets, net2, haw, hfw, hs, hlp, hwr, k1, k2, d1, d2, hN2, kmap_ids, kmap_ren, ro_cmd, ro_rep, ro_nm, ro_act, q12r, q12b, q12i, q12n, show IntKind.i64.wrap (0 + 1) = 1 from rfl, show IntKind.i64.wrap (1 - 1) = 0 from rfl, show IntKind.i64.wrap (0 - 1) = -1 from rfl, show IntKind.i64.wrap 1 = 1 from rfl, show IntKind.i64.wrap 0 = 0 from rfl, show IntKind.i64.wrap (-1) = -1 from rfl]
      · cases p <;> cases q <;> simp -implicitDefEqProofs only [go_sem, reduceIte, reduceCtorEq, Nat.reduceEqDiff, Nat.reduceAdd, Nat.reduceSub, Nat.reduceLT, Nat.reduceLeDiff, Nat.reduceBEq, Nat.reduceMul, Nat.reduceBNe, Int.reduceEq, Int.reduceLT, Int.reduceLE, Int.reduceNe, Int.reduceToNat, ir_usufructlaw21_WorldNets, net2, haw, hfw, hs, hlp, hwr, k1, k2, d1, d2, hN2, kmap_ids, kmap_ren, ro_cmd, ro_rep, ro_nm, ro_act, q12r, q12b, q12i, q12n, show IntKind.i64.wrap (0 + 1) = 1 from rfl, show IntKind.i64.wrap (1 - 1) = 0 from rfl, show IntKind.i64.wrap (0 - 1) = -1 from rfl, show IntKind.i64.wrap 1 = 1 from rfl, show IntKind.i64.wrap 0 = 0 from rfl, show IntKind.i64.wrap (-1) = -1 from rfl]
      · exact absurd rfl (hok _ _ _ _)
end Go.Proofs.YtbpndomfipdhdaaDoor.Ev
