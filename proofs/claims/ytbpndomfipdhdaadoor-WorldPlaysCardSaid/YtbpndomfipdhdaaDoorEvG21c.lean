/-
  Chapter 21: the law WorldPlays.
-/
import Derived.Test.YtbpndomfipdhdaaDoorEvWo27
import Derived.Test.YtbpndomfipdhdaaDoorEvWo28
import Derived.Test.YtbpndomfipdhdaaDoorEvG21
set_option linter.unusedVariables false
set_option linter.unusedSimpArgs false
namespace Go.Proofs.YtbpndomfipdhdaaDoor.Ev
attribute [local congr] bind_congr_head
attribute [local go_sem] opd_t opd_c opd_g opd_f opds_nil opds_cons get_cons put_some put_none keep_nil keepC_s keepC_n keep_cons runs_nil runs_cons run_op run_opr run_call run_gand run_gor run_gif seqK_norm seqK_exit seqK_ret blkK_norm blkK_exit blkK_ret runL_skip runL_exit runL_ret runL_items runL_seq runL_cond runL_block runL_loop fin_bind finK_norm finK_ret rvs_nil rvs_cons rv_tmp rv_cell tupOf_one tupOf_nil tupOf_two ev_mov ev_pick ev_alloc ev_box ev_build parts_nil parts_cons fills_nil fills_cons ev_bsl ev_bslo ev_load ev_store ev_nilck ev_bin ev_binb ev_aeq ev_un ev_i2i ev_i2t ev_isnilI nilIF ev_s2b ev_ext ev_fld ev_idxs ev_fa ev_ias ev_len ev_lens ev_s2s ev_mkf ev_rng ev_nxt ev_app bOf_s pvOf_s agOf_s tpOf_s iOf_s sOf_s ite_bind Option.bind_some Option.bind_none if_true if_false ite_true ite_false argEnv_nil argEnv_cons len_av elems_av ias_av cells_av tuple_av AV.tuple AV.cells faF ldAt liveRef aggOf nilckF binV binI binS binB unV Bool.not_true Bool.not_false List.length_nil List.length_cons List.nil_append List.cons_append List.append_nil List.getElem?_cons_zero List.getElem?_cons_succ List.drop_zero List.drop_succ_cons List.drop_nil List.take_zero List.take_succ_cons List.take_nil List.set_cons_zero List.set_cons_succ compact_same compact_new closedB nodupB envIds ids0 upto visit pos sel AV.ids idss idsss Ob.ids AV.ren rens renss Ob.ren renEnv AV.snap snaps stAt okSt putCells List.all_nil List.all_cons List.contains_nil List.contains_cons Bool.and_true Bool.true_and Bool.and_false Bool.false_and Bool.or_true Bool.true_or Bool.or_false Bool.false_or decide_eq_true_eq decide_true decide_false beq_iff_eq bne_iff_ne beq_self_eq_true Bool.not_eq_true' Bool.false_eq_true eq_self and_self and_true true_and and_false false_and or_true true_or or_false false_or not_true_eq_false not_false_eq_true ne_eq Nat.zero_add Nat.add_zero Nat.le_refl Nat.not_lt_zero Nat.lt_irrefl Nat.zero_le Int.toNat_natCast gt_iff_lt ge_iff_le Int.lt_irrefl Int.natCast_nonneg txt_eq get_nil appF elems belows AV.under AV.flat flats List.length_map List.map_append List.map_cons List.map_nil List.length_append take_map_all List.flatten_cons List.flatten_nil bld_nil imp_false false_imp_iff false_implies true_implies implies_true decide_eq_false_iff_not Nat.one_mul Nat.mul_one idsss_app renss_app belowss_app ev_mn ev_mx ev_isnils ev_sls ev_slx evo_none evo_some vals minV maxV minF maxF backId List.getElem?_nil putAll Option.all_none Option.all_some Option.isSome_some intOf aszI compactV_same compactV_new callP_any callQ_eq callN_any boxQ AV.id? ids_avR ren_av under_av snap_av renss_mapf belowss_mapf idsss_mapf isnilsF List.length_eq_zero_iff int_beq int_bne decide_not slx_av Int.toNat_zero ev_mkm ev_lk ev_mup ev_mdl ev_lenm ev_isnilm mpOf_s mapAt_s mapOf_nil mapOf_mp isnilm_nil isnilm_mp lkR Option.getD_some Option.getD_none Option.isSome_none Prim.rdo ev_snp snp_own snp_v exQ_nil exQ_cons exA_ref same_nil same_box same_row same_map sameL_nil sameL_cons sameA_int sameA_bool sameA_str sameA_slice sameA_map sameA_ptr sameA_own sameA_ref sameA_mp callB_eq
variable {E : Prog}
structure Rel (w : Wd) (x : XW) : Prop where
  c : x.c.list = w.c
  r : x.r.list = w.r
  k : x.k.list = w.k
theorem plays_B2 (hE : WOK E) {w : Wd} (h : w.ok) (hb : w.c.length ≤ 40000 ∧ w.r.length ≤ 40000 ∧ w.k.length ≤ 40000) (x : XW) (hx : Rel w x) (l : Sl ActT) (i : Nat) (sg : Int) (stp : ByteArray) (a : ActT) (ha : okA a = true) :
    ∃ (x' : XW) (e : Int) (ok : Bool), Rel (w.step a) x' ∧ Cnd e ok ∧ IR.runL E.glob (callL E) [] ir_usufructlaw21_WorldPlays_B2 (plays42 l i sg stp a (pst w (.box x.cells)).length) (pst w (.box x.cells) ++ [.box [vi a.k, vi a.n, cmv a.l, vb a.good, vb a.more]]) = some (.norm, playsE l i sg stp e ok, mrgP w (w.step a) (.box x'.cells) (.box [vi a.k, vi a.n, cmv a.l, vb a.good, vb a.more])) := by
  have hnx := step_nx h a
  obtain ⟨xc, xr, xk⟩ := x
  obtain ⟨rc, rr, rk⟩ := hx
  simp only at rc rr rk
  have hbb : Bd w := ⟨by omega, by omega, by omega⟩
  simp only [okA, Bool.and_eq_true, decide_eq_true_eq, List.all_eq_true] at ha
  have hsh : ∀ y, y ∈ a.l.list → y.party.size ≤ 100 ∧ y.key.size ≤ 200 := fun y hy => by have := ha.2 y hy; simpa [shC] using this
  by_cases c1 : a.k = 0 ∨ a.k = 1
  · have es : w.step a = sendW w a.l.list := by unfold Wd.step; rw [if_pos c1]
    rw [es] at hnx ⊢
    obtain ⟨s1, s2, s3⟩ := send_cont a.l.list w
    have hr := fn_rSend hE.std ⟨xc, xr, xk⟩ a.l (by omega) hsh (by simp only [rc, rr, rk]; omega)
    refine ⟨⟨.mk (xc.list ++ a.l.list.filter goodC), xr, xk⟩, 0, true, ⟨by rw [s1, ← rc]; rfl, by rw [s2]; exact rr, by rw [s3]; exact rk⟩, .inl ⟨rfl, rfl⟩, ?_⟩
    exact plays_send l i sg stp a hnx xc _ xr xr xk xk (fn_Send hE.std hE.v hE.s w h a.l (by omega) hsh (by omega)) hr c1
  · by_cases c2 : a.k = 2 ∨ a.k = 3
    · have es : w.step a = w.deliver a.n a.good a.more := by unfold Wd.step; rw [if_neg c1, if_pos c2]
      rw [es] at hnx ⊢
      have hc := call_Deliver hE.std hE.dc h hbb a.n a.good a.more
      unfold errI at hc
      cases hx : atI w.c a.n with
      | none =>
        rw [hx] at hc
        have hr := fn_rDeliverNo hE.std ⟨xc, xr, xk⟩ a.n a.good a.more (by simp only [rc]; exact hx)
        refine ⟨⟨xc, xr, xk⟩, 7, false, ?_, .inr ⟨rfl, rfl⟩, ?_⟩
        · rw [deliver_no hx]; exact ⟨rc, rr, rk⟩
        · exact plays_deliver l i sg stp a hnx xc xc xr xr xk xk 7 false hc hr c2
      | some y =>
        rw [hx] at hc
        obtain ⟨n, e1, e2, e3⟩ := atI_some hx
        obtain ⟨_, d1, d2, d3⟩ := deliver_cont h hx a.good a.more
        have hr := fn_rDeliver hE.std ⟨xc, xr, xk⟩ n a.good a.more (y := y) (by simp only [rc]; rw [← e1]; exact hx) (by simp only [rc, rr, rk]; omega)
        rw [← e1] at hr
        refine ⟨XW.deliv ⟨xc, xr, xk⟩ n y a.good a.more, 0, true, ⟨?_, ?_, ?_⟩, .inl ⟨rfl, rfl⟩, ?_⟩
        · rw [d1, e1, Int.toNat_natCast]
          unfold XW.deliv td
          simp only [rc]
          split
          · exact rc
          · rfl
        · rw [d2]
          unfold XW.deliv
          simp only [rr, rk, list_mk]
        · rw [d3]
          unfold XW.deliv keysD
          simp only [rk]
          split
          · rfl
          · exact rk
        · exact plays_deliver l i sg stp a hnx xc _ xr _ xk _ 0 true hc hr c2
    · by_cases c3 : a.k = 4
      · have es : w.step a = w.lose a.n := by unfold Wd.step; rw [if_neg c1, if_neg c2, if_pos c3]
        rw [es] at hnx ⊢
        have hc := call_Lose hE.std hE.dc h hbb a.n
        unfold errI at hc
        obtain ⟨_, d1, d2, d3⟩ := lose_cont h a.n
        cases hx : atI w.c a.n with
        | none =>
          rw [hx] at hc d3
          have hr := fn_rLoseNo hE.std ⟨xc, xr, xk⟩ a.n (by simp only [rc]; exact hx)
          refine ⟨⟨xc, xr, xk⟩, 7, false, ⟨by rw [d3]; exact rc, by rw [d1]; exact rr, by rw [d2]; exact rk⟩, .inr ⟨rfl, rfl⟩, ?_⟩
          exact plays_lose l i sg stp a hnx xc xc xr xr xk xk 7 false hc hr c3
        | some y =>
          rw [hx] at hc d3
          obtain ⟨n, e1, e2, e3⟩ := atI_some hx
          have hr := fn_rLose hE.std ⟨xc, xr, xk⟩ n (y := y) (by simp only [rc]; rw [← e1]; exact hx) (by simp only [rc, rr, rk]; omega)
          rw [← e1] at hr
          refine ⟨⟨.mk (td xc.list n), xr, xk⟩, 0, true, ⟨by rw [d3, e1, Int.toNat_natCast, ← rc]; rfl, by rw [d1]; exact rr, by rw [d2]; exact rk⟩, .inl ⟨rfl, rfl⟩, ?_⟩
          exact plays_lose l i sg stp a hnx xc _ xr xr xk xk 0 true hc hr c3
      · by_cases c4 : a.k = 5 ∨ a.k = 6
        · have es : w.step a = w.reply a.n a.more := by unfold Wd.step; rw [if_neg c1, if_neg c2, if_neg c3, if_pos c4]
          rw [es] at hnx ⊢
          have hc := call_Reply hE.std hE.dr h hbb a.n a.more
          unfold errI ansR at hc
          obtain ⟨_, d1, d2, d3⟩ := reply_cont h a.n a.more
          cases hx : atI w.r a.n with
          | none =>
            rw [hx] at hc d3
            have hr := fn_rReplyNo hE.std ⟨xc, xr, xk⟩ a.n a.more (by simp only [rr]; exact hx)
            refine ⟨⟨xc, xr, xk⟩, 7, false, ⟨by rw [d1]; exact rc, by rw [d3]; exact rr, by rw [d2]; exact rk⟩, .inr ⟨rfl, rfl⟩, ?_⟩
            exact plays_reply l i sg stp a hnx xc xc xr xr xk xk 7 false _ hc hr c4
          | some y =>
            rw [hx] at hc d3
            obtain ⟨n, e1, e2, e3⟩ := atI_some hx
            have hr := fn_rReply hE.std ⟨xc, xr, xk⟩ n a.more (y := y) (by simp only [rr]; rw [← e1]; exact hx) (by simp only [rc, rr, rk]; omega)
            rw [← e1] at hr
            refine ⟨⟨xc, if a.more = true then xr else .mk (td xr.list n), xk⟩, 0, true, ⟨by rw [d1]; exact rc, ?_, by rw [d2]; exact rk⟩, .inl ⟨rfl, rfl⟩, ?_⟩
            · rw [d3, e1, Int.toNat_natCast, ← rr]
              simp only
              split <;> rfl
            · exact plays_reply l i sg stp a hnx xc xc xr _ xk xk 0 true _ hc hr c4
        · by_cases c5 : a.k = 7
          · have es : w.step a = w.loseR a.n := by unfold Wd.step; rw [if_neg c1, if_neg c2, if_neg c3, if_neg c4, if_pos c5]
            rw [es] at hnx ⊢
            have hc := call_LoseReply hE.std hE.dr h hbb a.n
            unfold errI at hc
            obtain ⟨_, d1, d2, d3⟩ := loseR_cont h a.n
            cases hx : atI w.r a.n with
            | none =>
              rw [hx] at hc d3
              have hr := fn_rReplyNo hE.std ⟨xc, xr, xk⟩ a.n false (by simp only [rr]; exact hx)
              refine ⟨⟨xc, xr, xk⟩, 7, false, ⟨by rw [d1]; exact rc, by rw [d3]; exact rr, by rw [d2]; exact rk⟩, .inr ⟨rfl, rfl⟩, ?_⟩
              exact plays_loseR l i sg stp a hnx xc xc xr xr xk xk 7 false _ hc hr c5
            | some y =>
              rw [hx] at hc d3
              obtain ⟨n, e1, e2, e3⟩ := atI_some hx
              have hr := fn_rReply hE.std ⟨xc, xr, xk⟩ n false (y := y) (by simp only [rr]; rw [← e1]; exact hx) (by simp only [rc, rr, rk]; omega)
              rw [← e1] at hr
              refine ⟨⟨xc, .mk (td xr.list n), xk⟩, 0, true, ⟨by rw [d1]; exact rc, by rw [d3, e1, Int.toNat_natCast, ← rr]; rfl, by rw [d2]; exact rk⟩, .inl ⟨rfl, rfl⟩, ?_⟩
              exact plays_loseR l i sg stp a hnx xc xc xr _ xk xk 0 true _ hc hr c5
          · have es : w.step a = w := step_other (by omega)
            rw [es] at hnx ⊢
            refine ⟨⟨xc, xr, xk⟩, 0, true, ⟨rc, rr, rk⟩, .inl ⟨rfl, rfl⟩, ?_⟩
            exact plays_other l i sg stp a hnx xc xc xr xr xk xk rfl (by omega)
theorem plays_loop (hE : WOK E) (hi' : ITOK E) (l : Sl ActT) (sg : Int) (hsg : sg ≤ 9223372036854775807) (stp : ByteArray) (hsz : stp.size ≤ 100) (hx : l.list.length ≤ 40) (ho : ∀ a, a ∈ l.list → okA a = true) {L : Env × Store → Option (Sig × Env × Store)}
    (hL : ∀ e s, L (e, s) = (IR.runL E.glob (callL E) [] ir_usufructlaw21_WorldPlays_L0 e s).bind (seqK fun e s => L (compact [] 2 [0, 1, 2, 7, 8, 9] e s))) :
    ∀ (rest : List ActT) (i : Nat) (w : Wd) (x : XW), l.list.drop i = rest → i ≤ l.list.length → WInv w i → KG w.k → Rel w x →
    ∃ (w' : Wd) (x' : XW), w'.ok ∧ L (playsL l i sg stp, pst w (.box x.cells)) = some (.exit 0, [], pst w' (.box x'.cells))
  | [], i, w, x, h, hi, hw, hk, hr => by
    have h1 := drop_nil' h hi
    refine ⟨w, x, hw.ok, ?_⟩
    rw [hL]
    generalize pst w (.box x.cells) = st
    simp -implicitDefEqProofs only [go_sem, reduceIte, reduceCtorEq, Nat.reduceEqDiff, Nat.reduceAdd, Nat.reduceSub, Nat.reduceLT, Nat.reduceLeDiff, Nat.reduceBEq, Nat.reduceMul, Nat.reduceBNe, Int.reduceEq, Int.reduceLT, Int.reduceLE, Int.reduceNe, Int.reduceToNat, ir_usufructlaw21_WorldPlays_L0, playsL, h1]
  | a :: rest, i, w, x, h, hi, hw, hk, hr => by
    obtain ⟨h1, h2, h3, h4, h5⟩ := drop_cons h
    have ha := ho a (List.mem_of_getElem? h1)
    have hw2 := step_inv hw a ha
    have hk2 := step_kg hw hk a
    have hbd := inv_bd hw2 (by omega)
    obtain ⟨x', e, ok, hr2, hc, hB⟩ := plays_B2 hE hw.ok ⟨by have := hw.c; omega, by have := hw.r; omega, by have := hw.k; omega⟩ x hr l i sg stp a ha
    have hS := fn_same hE.std (w.step a) hw2.ok hbd x' hr2.c hr2.r hr2.k
    have hN := fn_Net hE.std hE.v hi' (w.step a) hw2.ok sg hsg stp hsz
    have hR := fn_rNet hE.std x' (by rw [hr2.k]; have := hw2.k; omega) (by rw [hr2.k]; exact hk2) sg hsg stp hsz
    rw [hr2.k] at hR
    obtain ⟨w', z, k1, k2⟩ := plays_loop hE hi' l sg hsg stp hsz hx ho hL rest (i + 1) (w.step a) x' h2 h4 hw2 hk2 hr2
    refine ⟨w', z, k1, ?_⟩
    obtain ⟨xc, xr, xk⟩ := x
    obtain ⟨yc, yr, yk⟩ := x'
    have := plays_pairL (step_nx hw.ok a) l i sg stp (by omega) h3 a h1 xc yc xr yr xk yk e ok hc _ hB hS hN hR hL
    simp only [XW.cells] at k2 ⊢
    rw [this]
    exact k2
theorem fn_WorldPlays (hE : WOK E) (hi : ITOK E) (haw : callP E f_usufructlaw21_awake [] = some (vb true)) (l : Sl ActT) (hx : l.list.length < 9223372036854775808) (sg : Int) (hsg : sg ≤ 9223372036854775807) (stp : ByteArray) :
    callP E f_usufructlaw21_WorldPlays [acv l, vi sg, vs stp] = some (vb true) := by
  have hfw := fn_few hE.std l hx
  cases hf : fewS l.list with
  | false =>
    rw [hf] at hfw
    rw [hE.std.run rfl rfl]
    simp -implicitDefEqProofs only [go_sem, reduceIte, reduceCtorEq, Nat.reduceEqDiff, Nat.reduceAdd, Nat.reduceSub, Nat.reduceLT, Nat.reduceLeDiff, Nat.reduceBEq, Nat.reduceMul, Nat.reduceBNe, Int.reduceEq, Int.reduceLT, Int.reduceLE, Int.reduceNe, Int.reduceToNat, ir_usufructlaw21_WorldPlays, haw, hfw, ro_act]
  | true =>
    rw [hf] at hfw
    by_cases hs : (100 : Int) < (stp.size : Int)
    · rw [hE.std.run rfl rfl]
      simp -implicitDefEqProofs only [go_sem, reduceIte, reduceCtorEq, Nat.reduceEqDiff, Nat.reduceAdd, Nat.reduceSub, Nat.reduceLT, Nat.reduceLeDiff, Nat.reduceBEq, Nat.reduceMul, Nat.reduceBNe, Int.reduceEq, Int.reduceLT, Int.reduceLE, Int.reduceNe, Int.reduceToNat, ir_usufructlaw21_WorldPlays, haw, hfw, hs, ro_act]
    · simp only [fewS, Bool.and_eq_true, decide_eq_true_eq] at hf
      obtain ⟨w', x', hok, hlp⟩ := plays_loop hE hi l sg hsg stp (by omega) hf.1 (fun a ha => List.all_eq_true.1 hf.2 a ha) (loopL_eq (IR.runL E.glob (callL E) [] ir_usufructlaw21_WorldPlays_L0) (compact [] 2 [0, 1, 2, 7, 8, 9])) l.list 0 .w0 ⟨.nil, .nil, .nil⟩ rfl (Nat.zero_le _) inv_0 (fun s hs => by cases hs) ⟨rfl, rfl, rfl⟩
      obtain ⟨xc, xr, xk⟩ := x'
      simp only [pst0, XW.cells, av_nl, Int.natCast_zero, playsL] at hlp
      rw [hE.std.run rfl rfl]
      cases w' <;> try simp only [pst0, pst1, pst2, pst3, rowC, rowR, rowK] at hlp
      · simp -implicitDefEqProofs only [go_sem, reduceIte, reduceCtorEq, Nat.reduceEqDiff, Nat.reduceAdd, Nat.reduceSub, Nat.reduceLT, Nat.reduceLeDiff, Nat.reduceBEq, Nat.reduceMul, Nat.reduceBNe, Int.reduceEq, Int.reduceLT, Int.reduceLE, Int.reduceNe, Int.reduceToNat, ir_usufructlaw21_WorldPlays, haw, hfw, hs, hlp, kmap_ids, kmap_ren, ro_cmd, ro_rep, ro_nm, ro_act]
      · simp -implicitDefEqProofs only [go_sem, reduceIte, reduceCtorEq, Nat.reduceEqDiff, Nat.reduceAdd, Nat.reduceSub, Nat.reduceLT, Nat.reduceLeDiff, Nat.reduceBEq, Nat.reduceMul, Nat.reduceBNe, Int.reduceEq, Int.reduceLT, Int.reduceLE, Int.reduceNe, Int.reduceToNat, ir_usufructlaw21_WorldPlays, haw, hfw, hs, hlp, kmap_ids, kmap_ren, ro_cmd, ro_rep, ro_nm, ro_act]
      · simp -implicitDefEqProofs only [go_sem, reduceIte, reduceCtorEq, Nat.reduceEqDiff, Nat.reduceAdd, Nat.reduceSub, Nat.reduceLT, Nat.reduceLeDiff, Nat.reduceBEq, Nat.reduceMul, Nat.reduceBNe, Int.reduceEq, Int.reduceLT, Int.reduceLE, Int.reduceNe, Int.reduceToNat, ir_usufructlaw21_WorldPlays, haw, hfw, hs, hlp, kmap_ids, kmap_ren, ro_cmd, ro_rep, ro_nm, ro_act]
      · simp -implicitDefEqProofs only [go_sem, reduceIte, reduceCtorEq, Nat.reduceEqDiff, Nat.reduceAdd, Nat.reduceSub, Nat.reduceLT, Nat.reduceLeDiff, Nat.reduceBEq, Nat.reduceMul, Nat.reduceBNe, Int.reduceEq, Int.reduceLT, Int.reduceLE, Int.reduceNe, Int.reduceToNat, ir_usufructlaw21_WorldPlays, haw, hfw, hs, hlp, kmap_ids, kmap_ren, ro_cmd, ro_rep, ro_nm, ro_act]
      · exact absurd rfl (hok _ _ _ _)
end Go.Proofs.YtbpndomfipdhdaaDoor.Ev
set_option linter.unusedVariables false
set_option linter.unusedSimpArgs false
set_option maxRecDepth 100000
namespace Go.Proofs.YtbpndomfipdhdaaDoor.Ev
open Go.RowKit Go.Proofs Go.ChangeShapes Go.WideShapes
theorem pi21 (m : Int) : (E21 m).prim f_strconv_Itoa_0 = some pItoa := by kernel_rfl
theorem itok21 (m : Int) : ITOK (E21 m) := fun n h0 h1 => by
  unfold callP
  rw [call_prim (pi21 m)]
  simp only [pItoa]
  rw [if_pos ⟨h0, h1⟩]
  rfl
theorem arg_int {a : AV} (h : ArgOf Tryd.prog 3 a) : ∃ n, a = vi n ∧ I64 n := by
  unfold ArgOf at h
  rw [Tryd.underlying3] at h
  obtain ⟨n, h1, h2⟩ := reads_int Tryd.underlying3 h
  cases h1
  exact ⟨n, rfl, h2⟩
theorem arg_string {a : AV} (h : ArgOf Tryd.prog 9 a) : ∃ s, a = vs s := by
  unfold ArgOf at h
  rw [Tryd.underlying9] at h
  obtain ⟨n, h1, _⟩ := reads_string Tryd.underlying9 h
  cases h1
  exact ⟨n, rfl⟩
theorem law_worldPlays (m : Int) (avs : List AV) (h : ArgsOf Tryd.prog [22, 3, 9] avs) : callP (E21 m) f_usufructlaw21_WorldPlays avs = some (.v (.bool true)) := by
  simp only [ArgsOf] at h
  obtain ⟨a, _, rfl, ha, b, _, rfl, hb, c, _, rfl, hc, rfl⟩ := h
  obtain ⟨x, rfl, hx⟩ := arg_acts ha
  obtain ⟨n, rfl, hn⟩ := arg_int hb
  obtain ⟨s, rfl⟩ := arg_string hc
  exact fn_WorldPlays (wok21 m) (itok21 m) (awake21P m) x (by omega) n hn.2 s
end Go.Proofs.YtbpndomfipdhdaaDoor.Ev
