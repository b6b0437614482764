/-
  DefKeys: the law is answered true.
-/
import Derived.Test.YtlidkdhojblkiaaDoorEvKey3
import Derived.Test.YtlidkdhojblkiaaDoorEvCheck3
set_option linter.unusedVariables false
set_option linter.unusedSimpArgs false
namespace Go.Proofs.YtlidkdhojblkiaaDoor.Ev
attribute [local congr] bind_congr_head
attribute [local go_sem] opd_t opd_c opd_g opd_f opds_nil opds_cons get_cons put_some put_none keep_nil keepC_s keepC_n keep_cons runs_nil runs_cons run_op run_opr run_call run_gand run_gor run_gif seqK_norm seqK_exit seqK_ret blkK_norm blkK_exit blkK_ret runL_skip runL_exit runL_ret runL_items runL_seq runL_cond runL_block runL_loop fin_bind finK_norm finK_ret rvs_nil rvs_cons rv_tmp rv_cell tupOf_one tupOf_nil tupOf_two ev_mov ev_pick ev_alloc ev_box ev_build parts_nil parts_cons fills_nil fills_cons ev_bsl ev_bslo ev_load ev_store ev_nilck ev_bin ev_binb ev_aeq ev_un ev_i2i ev_s2b ev_ext ev_fld ev_idxs ev_fa ev_ias ev_len ev_lens ev_s2s ev_mkf ev_rng ev_nxt ev_app bOf_s pvOf_s agOf_s tpOf_s iOf_s sOf_s ite_bind Option.bind_some Option.bind_none if_true if_false ite_true ite_false argEnv_nil argEnv_cons len_av elems_av ias_av cells_av tuple_av AV.tuple AV.cells faF ldAt liveRef aggOf nilckF binV binI binS binB unV Bool.not_true Bool.not_false List.length_nil List.length_cons List.nil_append List.cons_append List.append_nil List.getElem?_cons_zero List.getElem?_cons_succ List.drop_zero List.drop_succ_cons List.drop_nil List.take_zero List.take_succ_cons List.take_nil List.set_cons_zero List.set_cons_succ compact_same compact_new closedB nodupB envIds ids0 upto visit pos sel AV.ids idss idsss Ob.ids AV.ren rens renss Ob.ren renEnv AV.snap snaps stAt okSt putCells List.all_nil List.all_cons List.contains_nil List.contains_cons Bool.and_true Bool.true_and Bool.and_false Bool.false_and Bool.or_true Bool.true_or Bool.or_false Bool.false_or decide_eq_true_eq decide_true decide_false beq_iff_eq bne_iff_ne beq_self_eq_true Bool.not_eq_true' Bool.false_eq_true eq_self and_self and_true true_and and_false false_and or_true true_or or_false false_or not_true_eq_false not_false_eq_true ne_eq Nat.zero_add Nat.add_zero Nat.le_refl Nat.not_lt_zero Nat.lt_irrefl Nat.zero_le Int.toNat_natCast gt_iff_lt ge_iff_le Int.lt_irrefl Int.natCast_nonneg txt_eq get_nil appF elems belows AV.under AV.flat flats List.length_map List.map_append List.map_cons List.map_nil List.length_append take_map_all List.flatten_cons List.flatten_nil bld_nil imp_false false_imp_iff false_implies true_implies implies_true decide_eq_false_iff_not Nat.one_mul Nat.mul_one idsss_app renss_app belowss_app ev_mn ev_mx ev_isnils ev_sls ev_slx evo_none evo_some vals minV maxV minF maxF backId List.getElem?_nil putAll Option.all_none Option.all_some Option.isSome_some intOf aszI compactV_same compactV_new callP_any callN_any ids_avR ren_av under_av snap_av renss_mapf belowss_mapf idsss_mapf isnilsF List.length_eq_zero_iff int_beq int_bne decide_not slx_av Int.toNat_zero

theorem stepE_good {pre : List StepT} {s : StepT} (h : stepE pre s = 0) : labelGood s.name = true := by
  unfold stepE at h
  cases c : labelGood s.name
  · rw [c] at h
    exact absurd h (by simp)
  · rfl
theorem checkF_good : ∀ (rest pre : List StepT), (checkF pre rest).2 = 0 → ∀ s, s ∈ rest → labelGood s.name = true
  | [], pre, _, s, hs => by cases hs
  | x :: rest, pre, h, s, hs => by
    unfold checkF at h
    by_cases c : stepE pre x = 0
    · rw [if_pos c] at h
      rcases List.mem_cons.1 hs with rfl | m
      · exact stepE_good c
      · exact checkF_good rest _ h s m
    · rw [if_neg c] at h
      exact absurd h c
theorem checkS_good {d : DefT} (h : (checkS d).2 = 0) : ∀ s, s ∈ d.steps.list → labelGood s.name = true := by
  unfold checkS at h
  split at h
  · exact absurd h (by decide)
  · split at h
    · exact absurd h (by decide)
    · split at h
      · exact absurd h (by decide)
      · split at h
        · exact absurd h (by decide)
        · exact checkF_good _ _ h
/-- A right command's key tells what it was made of. -/
theorem key_back {d : DefT} {saga step : Int} {u : Bool} (hc : (checkS d).2 = 0) (hk : keyS saga d step u ≠ []) (hs : saga < 1000000000000000000) :
    ∃ s, 0 ≤ step ∧ d.steps.list[step.toNat]? = some s ∧ cutS (keyS saga d step u) = some (saga, s.name.data.toList, u) := by
  unfold keyS at hk ⊢
  by_cases c : saga < 0 ∨ step < 0
  · rw [if_pos c] at hk; exact absurd rfl hk
  · rw [if_neg c] at hk ⊢
    cases hg : d.steps.list[step.toNat]? with
    | none => rw [hg] at hk; exact absurd rfl hk
    | some s =>
      have h := itoa_ok (n := saga) (by omega) hs
      refine ⟨s, by omega, rfl, cutS_of ⟨Lib.itoa saga, rfl, h.1, h.2, ?_⟩⟩
      rw [ba_of]
      exact checkS_good hc s (List.mem_of_getElem? hg)
theorem key_len {d : DefT} (hd : shortD d) {saga step : Int} (hs : saga ≤ 9223372036854775807) (u : Bool) : (keyS saga d step u).length ≤ 400 := by
  unfold keyS
  split
  · exact Nat.zero_le _
  · split
    · rename_i c s hg
      have hm := (hd.2.2 s (List.mem_of_getElem? hg)).1
      have hil := itoa_len (by omega : 0 ≤ saga) hs
      have hw := way_len u
      have hsz : s.name.data.toList.length ≤ 100 := by rw [← ba_size, ba_of]; exact hm
      simp only [List.length_append, List.length_cons]; omega
    · exact Nat.zero_le _
set_option maxHeartbeats 4000000 in
theorem fn_lawKeys {E : Prog} (hE : Std E fns) (hv : ∀ s : ByteArray, s.size < 9223372036854775807 → callP E f_utf8_ValidString [vs s] = some (vb (Lib.validD s.data.toList))) (hw : callP E f_usufructlaw13_awake [] = some (vb true))
    (hi : ∀ n : Int, -9223372036854775808 ≤ n → n ≤ 9223372036854775807 → callP E f_strconv_Itoa_0 [vi n] = some (vs (BA (Lib.itoa n))))
    (hsp : ∀ s : ByteArray, s.size < 4294967281 → callP E f_strings_Split [vs s, vs ⟨#[47]⟩] = some (.sl 1 ((parts s.data.toList).map fun b => [vs (BA b)])))
    (d : DefT) (saga step : Int) (hs : saga ≤ 9223372036854775807) (u : Bool) (K : List UInt8) :
    callP E f_usufructlaw13_DefKeys [.agg d.cells, vi saga, vi step, vb u, vs (BA K)] = some (vb true) := by
  have h1 := fn_small hE d
  rw [hE.run rfl rfl]
  by_cases c : smallS d = 0
  · by_cases c1 : K.length ≤ 200
    · have c1' : ¬ (200 : Int) < ((BA K).size : Int) := by rw [ba_size]; omega
      have hd := short_of c
      have h2 := fn_key hE hi d hd saga step hs u
      have h3 := fn_keyRef hE d hd saga step hs u
      have h4 := fn_cut hE hv hsp K (by omega)
      have h5 := fn_read hE K (by omega)
      have h6 := fn_checkRef hE d hd
      have h7 := fn_cut hE hv hsp (keyS saga d step u) (key_len hd hs u)
      have hbb : ∀ b : Bool, (b == b) = true := fun b => by cases b <;> rfl
      by_cases ce : (checkS d).2 = 0
      · by_cases ck : keyS saga d step u = []
        · simp only [DefT.cells] at h1 h2 h3 h6
          simp only [ck] at h2 h3 h7
          cases hK : cutS K with
          | none =>
            simp only [hK, cutC] at h4 h5
            simp only [go_sem, reduceIte, reduceCtorEq, Nat.reduceEqDiff, Nat.reduceAdd, Nat.reduceSub, Nat.reduceLT, Nat.reduceLeDiff, Nat.reduceBEq, Nat.reduceMul, Nat.reduceBNe, Int.reduceEq, Int.reduceLT, Int.reduceLE, Int.reduceNe, Int.reduceToNat, ir_usufructlaw13_DefKeys, DefT.cells, hw, h1, h2, h3, h4, h5, h6, c, c1', ce, ba_nil, ro_step, hbb, eqL, eqV, txt_eq]
          | some r =>
            obtain ⟨n', nm', u'⟩ := r
            simp only [hK, cutC] at h4 h5
            simp only [go_sem, reduceIte, reduceCtorEq, Nat.reduceEqDiff, Nat.reduceAdd, Nat.reduceSub, Nat.reduceLT, Nat.reduceLeDiff, Nat.reduceBEq, Nat.reduceMul, Nat.reduceBNe, Int.reduceEq, Int.reduceLT, Int.reduceLE, Int.reduceNe, Int.reduceToNat, ir_usufructlaw13_DefKeys, DefT.cells, hw, h1, h2, h3, h4, h5, h6, c, c1', ce, ba_nil, ro_step, hbb, eqL, eqV, txt_eq]
        · by_cases cs : 1000000000000000000 ≤ saga
          · simp only [DefT.cells] at h1 h2 h3 h6
            cases hK : cutS K with
            | none =>
              simp only [hK, cutC] at h4 h5
              simp only [go_sem, reduceIte, reduceCtorEq, Nat.reduceEqDiff, Nat.reduceAdd, Nat.reduceSub, Nat.reduceLT, Nat.reduceLeDiff, Nat.reduceBEq, Nat.reduceMul, Nat.reduceBNe, Int.reduceEq, Int.reduceLT, Int.reduceLE, Int.reduceNe, Int.reduceToNat, ir_usufructlaw13_DefKeys, DefT.cells, hw, h1, h2, h3, h4, h5, h6, c, c1', ce, ck, cs, ba_nil, ro_step, hbb, eqL, eqV, txt_eq]
            | some r =>
              obtain ⟨n', nm', u'⟩ := r
              simp only [hK, cutC] at h4 h5
              simp only [go_sem, reduceIte, reduceCtorEq, Nat.reduceEqDiff, Nat.reduceAdd, Nat.reduceSub, Nat.reduceLT, Nat.reduceLeDiff, Nat.reduceBEq, Nat.reduceMul, Nat.reduceBNe, Int.reduceEq, Int.reduceLT, Int.reduceLE, Int.reduceNe, Int.reduceToNat, ir_usufructlaw13_DefKeys, DefT.cells, hw, h1, h2, h3, h4, h5, h6, c, c1', ce, ck, cs, ba_nil, ro_step, hbb, eqL, eqV, txt_eq]
          · obtain ⟨s, hs0, hg, hb⟩ := key_back ce ck (by omega)
            have hcells : s.cells = [vs (BA s.name.data.toList), vs s.party, vi s.timeout, vi s.tr.ret, vi s.tr.base, vi s.tr.fac, vi s.tr.cap, vi s.un.ret, vi s.un.base, vi s.un.fac, vi s.un.cap, vi s.prio] := by rw [ba_of]; rfl
            simp only [hb, cutC] at h7
            simp only [DefT.cells] at h1 h2 h3 h6
            cases hK : cutS K with
            | none =>
              simp only [hK, cutC] at h4 h5
              simp only [go_sem, reduceIte, reduceCtorEq, Nat.reduceEqDiff, Nat.reduceAdd, Nat.reduceSub, Nat.reduceLT, Nat.reduceLeDiff, Nat.reduceBEq, Nat.reduceMul, Nat.reduceBNe, Int.reduceEq, Int.reduceLT, Int.reduceLE, Int.reduceNe, Int.reduceToNat, ir_usufructlaw13_DefKeys, DefT.cells, hw, h1, h2, h3, h4, h5, h6, h7, c, c1', ce, ck, cs, hs0, hg, hcells, ba_nil, ro_step, hbb, eqL, eqV, txt_eq]
            | some r =>
              obtain ⟨n', nm', u'⟩ := r
              simp only [hK, cutC] at h4 h5
              simp only [go_sem, reduceIte, reduceCtorEq, Nat.reduceEqDiff, Nat.reduceAdd, Nat.reduceSub, Nat.reduceLT, Nat.reduceLeDiff, Nat.reduceBEq, Nat.reduceMul, Nat.reduceBNe, Int.reduceEq, Int.reduceLT, Int.reduceLE, Int.reduceNe, Int.reduceToNat, ir_usufructlaw13_DefKeys, DefT.cells, hw, h1, h2, h3, h4, h5, h6, h7, c, c1', ce, ck, cs, hs0, hg, hcells, ba_nil, ro_step, hbb, eqL, eqV, txt_eq]
      · simp only [DefT.cells] at h1 h2 h3 h6
        cases hK : cutS K with
        | none =>
          simp only [hK, cutC] at h4 h5
          simp only [go_sem, reduceIte, reduceCtorEq, Nat.reduceEqDiff, Nat.reduceAdd, Nat.reduceSub, Nat.reduceLT, Nat.reduceLeDiff, Nat.reduceBEq, Nat.reduceMul, Nat.reduceBNe, Int.reduceEq, Int.reduceLT, Int.reduceLE, Int.reduceNe, Int.reduceToNat, ir_usufructlaw13_DefKeys, DefT.cells, hw, h1, h2, h3, h4, h5, h6, c, c1', ce, ba_nil, ro_step, hbb, eqL, eqV, txt_eq]
        | some r =>
          obtain ⟨n', nm', u'⟩ := r
          simp only [hK, cutC] at h4 h5
          simp only [go_sem, reduceIte, reduceCtorEq, Nat.reduceEqDiff, Nat.reduceAdd, Nat.reduceSub, Nat.reduceLT, Nat.reduceLeDiff, Nat.reduceBEq, Nat.reduceMul, Nat.reduceBNe, Int.reduceEq, Int.reduceLT, Int.reduceLE, Int.reduceNe, Int.reduceToNat, ir_usufructlaw13_DefKeys, DefT.cells, hw, h1, h2, h3, h4, h5, h6, c, c1', ce, ba_nil, ro_step, hbb, eqL, eqV, txt_eq]
    · have c1' : (200 : Int) < ((BA K).size : Int) := by rw [ba_size]; omega
      simp only [DefT.cells] at h1
      simp only [go_sem, reduceIte, reduceCtorEq, Nat.reduceEqDiff, Nat.reduceAdd, Nat.reduceSub, Nat.reduceLT, Nat.reduceLeDiff, Nat.reduceBEq, Nat.reduceMul, Nat.reduceBNe, Int.reduceEq, Int.reduceLT, Int.reduceLE, Int.reduceNe, Int.reduceToNat, ir_usufructlaw13_DefKeys, DefT.cells, hw, h1, c, c1', ro_step]
  · simp only [DefT.cells] at h1
    simp only [go_sem, reduceIte, reduceCtorEq, Nat.reduceEqDiff, Nat.reduceAdd, Nat.reduceSub, Nat.reduceLT, Nat.reduceLeDiff, Nat.reduceBEq, Nat.reduceMul, Nat.reduceBNe, Int.reduceEq, Int.reduceLT, Int.reduceLE, Int.reduceNe, Int.reduceToNat, ir_usufructlaw13_DefKeys, DefT.cells, hw, h1, c, ro_step]
end Go.Proofs.YtlidkdhojblkiaaDoor.Ev
