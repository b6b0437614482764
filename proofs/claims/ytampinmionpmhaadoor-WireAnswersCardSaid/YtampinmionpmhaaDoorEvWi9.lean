/-
  Chapter 19: what the two laws compute.
-/
import Derived.Test.YtampinmionpmhaaDoorEvWi8
set_option linter.unusedVariables false
set_option linter.unusedSimpArgs false
namespace Go.Proofs.YtampinmionpmhaaDoor.Ev
attribute [local congr] bind_congr_head
attribute [local go_sem] opd_t opd_c opd_g opd_f opds_nil opds_cons get_cons put_some put_none keep_nil keepC_s keepC_n keep_cons runs_nil runs_cons run_op run_opr run_call run_gand run_gor run_gif seqK_norm seqK_exit seqK_ret blkK_norm blkK_exit blkK_ret runL_skip runL_exit runL_ret runL_items runL_seq runL_cond runL_block runL_loop fin_bind finK_norm finK_ret rvs_nil rvs_cons rv_tmp rv_cell tupOf_one tupOf_nil tupOf_two ev_mov ev_pick ev_alloc ev_box ev_build parts_nil parts_cons fills_nil fills_cons ev_bsl ev_bslo ev_load ev_store ev_nilck ev_bin ev_binb ev_aeq ev_un ev_i2i ev_i2t ev_isnilI nilIF ev_s2b ev_ext ev_fld ev_idxs ev_fa ev_ias ev_len ev_lens ev_s2s ev_mkf ev_rng ev_nxt ev_app bOf_s pvOf_s agOf_s tpOf_s iOf_s sOf_s ite_bind Option.bind_some Option.bind_none if_true if_false ite_true ite_false argEnv_nil argEnv_cons len_av elems_av ias_av cells_av tuple_av AV.tuple AV.cells faF ldAt liveRef aggOf nilckF binV binI binS binB unV Bool.not_true Bool.not_false List.length_nil List.length_cons List.nil_append List.cons_append List.append_nil List.getElem?_cons_zero List.getElem?_cons_succ List.drop_zero List.drop_succ_cons List.drop_nil List.take_zero List.take_succ_cons List.take_nil List.set_cons_zero List.set_cons_succ compact_same compact_new closedB nodupB envIds ids0 upto visit pos sel AV.ids idss idsss Ob.ids AV.ren rens renss Ob.ren renEnv AV.snap snaps stAt okSt putCells List.all_nil List.all_cons List.contains_nil List.contains_cons Bool.and_true Bool.true_and Bool.and_false Bool.false_and Bool.or_true Bool.true_or Bool.or_false Bool.false_or decide_eq_true_eq decide_true decide_false beq_iff_eq bne_iff_ne beq_self_eq_true Bool.not_eq_true' Bool.false_eq_true eq_self and_self and_true true_and and_false false_and or_true true_or or_false false_or not_true_eq_false not_false_eq_true ne_eq Nat.zero_add Nat.add_zero Nat.le_refl Nat.not_lt_zero Nat.lt_irrefl Nat.zero_le Int.toNat_natCast gt_iff_lt ge_iff_le Int.lt_irrefl Int.natCast_nonneg txt_eq get_nil appF elems belows AV.under AV.flat flats List.length_map List.map_append List.map_cons List.map_nil List.length_append take_map_all List.flatten_cons List.flatten_nil bld_nil imp_false false_imp_iff false_implies true_implies implies_true decide_eq_false_iff_not Nat.one_mul Nat.mul_one idsss_app renss_app belowss_app ev_mn ev_mx ev_isnils ev_sls ev_slx evo_none evo_some vals minV maxV minF maxF backId List.getElem?_nil putAll Option.all_none Option.all_some Option.isSome_some intOf aszI compactV_same compactV_new callP_any callQ_eq callN_any boxQ AV.id? ids_avR ren_av under_av snap_av renss_mapf belowss_mapf idsss_mapf isnilsF List.length_eq_zero_iff int_beq int_bne decide_not slx_av Int.toNat_zero
/-- What is read of a command's line, and of a reply's. -/
theorem rc_line {E : Prog} (hE : Std E fns) (hi : ITOK E) (hat : ATOK E) (hsp : SPB E) (hv : VOK E) (hss : SPS E) {c : CmdT} (h : goodC c = true) (hp : c.party.size ≤ 300) (hk : c.key.size ≤ 300) :
    callP E f_wire_ReadCommand [vs (BA (lineC c))] = some (.tup [.agg c.cells, vb true]) := by
  have hl := lineC_len h (by omega) (by omega)
  have := fn_readCommand hE hi hat hsp hv hss (lineC c) (by omega) (by rw [lineC_pcs h]; show c.key.data.toList.length ≤ 400; exact Nat.le_trans hk (by decide))
  rw [(cmd_back h).1, (cmd_back h).2, if_neg (by decide)] at this
  exact this
theorem rr_line {E : Prog} (hE : Std E fns) (hi : ITOK E) (hat : ATOK E) (hsp : SPB E) {r : RepT} (h : goodR r = true) :
    callP E f_wire_ReadReply [vs (BA (lineR r))] = some (.tup [.agg r.cells, vb true]) := by
  have hl := lineR_len h
  have := fn_readReply hE hi hat hsp (lineR r) (by omega)
  rw [(rep_back h).1, (rep_back h).2, if_neg (by decide)] at this
  exact this
theorem rr_cmd {E : Prog} (hE : Std E fns) (hi : ITOK E) (hat : ATOK E) (hsp : SPB E) {c : CmdT} (h : goodC c = true) (hp : c.party.size ≤ 300) (hk : c.key.size ≤ 300) :
    callP E f_wire_ReadReply [vs (BA (lineC c))] = some (.tup [.agg r0.cells, vb false]) := by
  have hl := lineC_len h (by omega) (by omega)
  have := fn_readReply hE hi hat hsp (lineC c) (by omega)
  rw [cmd_noR h, if_pos rfl] at this
  exact this
theorem rc_rep {E : Prog} (hE : Std E fns) (hi : ITOK E) (hat : ATOK E) (hsp : SPB E) (hv : VOK E) (hss : SPS E) {r : RepT} (h : goodR r = true) :
    callP E f_wire_ReadCommand [vs (BA (lineR r))] = some (.tup [.agg c0.cells, vb false]) := by
  have hl := lineR_len h
  have := fn_readCommand hE hi hat hsp hv hss (lineR r) (by omega) (by rw [lineR_pcs h]; show 0 ≤ 400; omega)
  rw [rep_noC h, if_pos rfl] at this
  exact this
theorem goodC_R {c : CmdT} (h : goodC c = true) (g : Bool) : goodR ⟨c.saga, c.step, c.undo, c.tr, g⟩ = true := by
  obtain ⟨f1, f2, f3, -⟩ := goodC_fit h
  unfold goodR
  rw [f1, f2, f3]; rfl
theorem eq5 (a b d : Int) (u g : Bool) : eqL [.i, .i, .b, .i, .b] [vi a, vi b, vb u, vi d, vb g] [vi a, vi b, vb u, vi d, vb g] = some true := by
  simp only [eqL, eqV, if_true, txt_eq, int_beq, decide_true, Bool.and_true, Bool.true_and, beq_self_eq_true]
theorem eq6 (a b d : Int) (u : Bool) (p k : ByteArray) : eqL [.i, .i, .b, .i, .s, .s] [vi a, vi b, vb u, vi d, vs p, vs k] [vi a, vi b, vb u, vi d, vs p, vs k] = some true := by
  simp only [eqL, eqV, if_true, txt_eq, int_beq, decide_true, Bool.and_true, Bool.true_and, beq_self_eq_true]
theorem fn_lawAnswers {E : Prog} (hE : Std E fns) (hi : ITOK E) (hat : ATOK E) (hsp : SPB E) (hv : VOK E) (hss : SPS E) (hj : JOK E) (hw : callP E f_usufructlaw19_awake [] = some (vb true)) (c : CmdT) (g : Bool) : callP E f_usufructlaw19_WireAnswers [.agg c.cells, vb g] = some (vb true) := by
  by_cases s1 : 300 < c.party.size
  · have s1' : ((300 : Int) < ((c.party.size : Nat) : Int)) = True := eq_true (by omega)
    rw [hE.run rfl rfl]
    simp -implicitDefEqProofs only [go_sem, reduceIte, reduceCtorEq, Nat.reduceEqDiff, Nat.reduceAdd, Nat.reduceSub, Nat.reduceLT, Nat.reduceLeDiff, Nat.reduceBEq, Nat.reduceMul, Nat.reduceBNe, Int.reduceEq, Int.reduceLT, Int.reduceLE, Int.reduceNe, Int.reduceToNat, ir_usufructlaw19_WireAnswers, CmdT.cells, hw, s1']
  · have s1' : ((300 : Int) < ((c.party.size : Nat) : Int)) = False := eq_false (by omega)
    by_cases s2 : 300 < c.key.size
    · have s2' : ((300 : Int) < ((c.key.size : Nat) : Int)) = True := eq_true (by omega)
      rw [hE.run rfl rfl]
      simp -implicitDefEqProofs only [go_sem, reduceIte, reduceCtorEq, Nat.reduceEqDiff, Nat.reduceAdd, Nat.reduceSub, Nat.reduceLT, Nat.reduceLeDiff, Nat.reduceBEq, Nat.reduceMul, Nat.reduceBNe, Int.reduceEq, Int.reduceLT, Int.reduceLE, Int.reduceNe, Int.reduceToNat, ir_usufructlaw19_WireAnswers, CmdT.cells, hw, s1', s2']
    · have s2' : ((300 : Int) < ((c.key.size : Nat) : Int)) = False := eq_false (by omega)
      have h1 := fn_refCommand hE c (by omega) (by omega)
      cases hg : goodC c
      · rw [hg] at h1
        simp only [CmdT.cells] at h1
        rw [hE.run rfl rfl]
        simp -implicitDefEqProofs only [go_sem, reduceIte, reduceCtorEq, Nat.reduceEqDiff, Nat.reduceAdd, Nat.reduceSub, Nat.reduceLT, Nat.reduceLeDiff, Nat.reduceBEq, Nat.reduceMul, Nat.reduceBNe, Int.reduceEq, Int.reduceLT, Int.reduceLE, Int.reduceNe, Int.reduceToNat, ir_usufructlaw19_WireAnswers, CmdT.cells, hw, s1', s2', h1]
      · rw [hg] at h1
        have h2 := fn_answer hE c g
        have hgr := goodC_R hg g
        have h3 := fn_replyLine hE hi hj ⟨c.saga, c.step, c.undo, c.tr, g⟩
        rw [hgr, if_pos rfl] at h3
        have h4 := rr_line hE hi hat hsp hgr
        have h5 := fn_commandLine hE hi hv hss hj c (by omega) (by omega)
        rw [hg, if_pos rfl] at h5
        have h6 := rr_cmd hE hi hat hsp hg (by omega) (by omega)
        have h7 := rc_rep hE hi hat hsp hv hss hgr
        have h8 := fn_goodR hE ⟨c.saga, c.step, c.undo, c.tr, g⟩
        rw [hgr] at h8
        simp only [CmdT.cells, RepT.cells, r0, c0] at h1 h2 h3 h4 h5 h6 h7 h8
        generalize lineR ⟨c.saga, c.step, c.undo, c.tr, g⟩ = lr at *
        generalize lineC c = lc at *
        rw [hE.run rfl rfl]
        simp -implicitDefEqProofs only [go_sem, reduceIte, reduceCtorEq, Nat.reduceEqDiff, Nat.reduceAdd, Nat.reduceSub, Nat.reduceLT, Nat.reduceLeDiff, Nat.reduceBEq, Nat.reduceMul, Nat.reduceBNe, Int.reduceEq, Int.reduceLT, Int.reduceLE, Int.reduceNe, Int.reduceToNat, ir_usufructlaw19_WireAnswers, CmdT.cells, hw, s1', s2', h1, h2, h3, h4, h5, h6, h7, h8, eq5]
set_option maxHeartbeats 8000000 in
theorem fn_lawLines {E : Prog} (hE : Std E fns) (hi : ITOK E) (hat : ATOK E) (hsp : SPB E) (hv : VOK E) (hss : SPS E) (hj : JOK E) (hw : callP E f_usufructlaw19_awake [] = some (vb true)) (c : CmdT) (r : RepT) (s : ByteArray) (g : Bool) : callP E f_usufructlaw19_WireLines [.agg c.cells, .agg r.cells, vs s, vb g] = some (vb true) := by
  by_cases s1 : 300 < c.party.size
  · have s1' : ((300 : Int) < ((c.party.size : Nat) : Int)) = True := eq_true (by omega)
    rw [hE.run rfl rfl]
    simp -implicitDefEqProofs only [go_sem, reduceIte, reduceCtorEq, Nat.reduceEqDiff, Nat.reduceAdd, Nat.reduceSub, Nat.reduceLT, Nat.reduceLeDiff, Nat.reduceBEq, Nat.reduceMul, Nat.reduceBNe, Int.reduceEq, Int.reduceLT, Int.reduceLE, Int.reduceNe, Int.reduceToNat, ir_usufructlaw19_WireLines, CmdT.cells, RepT.cells, hw, s1']
  · have s1' : ((300 : Int) < ((c.party.size : Nat) : Int)) = False := eq_false (by omega)
    by_cases s2 : 300 < c.key.size
    · have s2' : ((300 : Int) < ((c.key.size : Nat) : Int)) = True := eq_true (by omega)
      rw [hE.run rfl rfl]
      simp -implicitDefEqProofs only [go_sem, reduceIte, reduceCtorEq, Nat.reduceEqDiff, Nat.reduceAdd, Nat.reduceSub, Nat.reduceLT, Nat.reduceLeDiff, Nat.reduceBEq, Nat.reduceMul, Nat.reduceBNe, Int.reduceEq, Int.reduceLT, Int.reduceLE, Int.reduceNe, Int.reduceToNat, ir_usufructlaw19_WireLines, CmdT.cells, RepT.cells, hw, s1', s2']
    · have s2' : ((300 : Int) < ((c.key.size : Nat) : Int)) = False := eq_false (by omega)
      by_cases s3 : 300 < s.size
      · have s3' : ((300 : Int) < ((s.size : Nat) : Int)) = True := eq_true (by omega)
        rw [hE.run rfl rfl]
        simp -implicitDefEqProofs only [go_sem, reduceIte, reduceCtorEq, Nat.reduceEqDiff, Nat.reduceAdd, Nat.reduceSub, Nat.reduceLT, Nat.reduceLeDiff, Nat.reduceBEq, Nat.reduceMul, Nat.reduceBNe, Int.reduceEq, Int.reduceLT, Int.reduceLE, Int.reduceNe, Int.reduceToNat, ir_usufructlaw19_WireLines, CmdT.cells, RepT.cells, hw, s1', s2', s3']
      · have s3' : ((300 : Int) < ((s.size : Nat) : Int)) = False := eq_false (by omega)
        have h1 := fn_refCommand hE c (by omega) (by omega)
        have h2 := fn_goodC hE hv hss c (by omega) (by omega)
        have h3 := fn_refReply hE r
        have h4 := fn_goodR hE r
        have h5 := fn_commandLine hE hi hv hss hj c (by omega) (by omega)
        have h6 := fn_replyLine hE hi hj r
        -- what is read of a right command's line
        have a1 : goodC c = true → callP E f_wire_ReadCommand [vs (BA (lineC c))] = some (.tup [.agg c.cells, vb true]) ∧ callP E f_usufructref19_CommandLine [.agg c.cells] = some (vs (BA (lineC c))) := fun h => ⟨rc_line hE hi hat hsp hv hss h (by omega) (by omega), fn_refCommandLine hE c h (by omega) (by omega)⟩
        have a2 : goodR r = true → callP E f_wire_ReadReply [vs (BA (lineR r))] = some (.tup [.agg r.cells, vb true]) ∧ callP E f_usufructref19_ReplyLine [.agg r.cells] = some (vs (BA (lineR r))) := fun h => ⟨rr_line hE hi hat hsp h, fn_refReplyLine hE r h⟩
        -- what is read of the text
        have hsl : s.data.toList.length ≤ 300 := by show s.size ≤ 300; omega
        have h7 := fn_readCommand hE hi hat hsp hv hss s.data.toList (by omega) (by
          have := pcs_le s.data.toList
          rw [List.getD_eq_getElem?_getD]
          by_cases c : 6 < (pcs s.data.toList).length
          · rw [List.getElem?_eq_getElem c]; exact Nat.le_trans (this _ (List.getElem_mem c)) (by omega)
          · rw [List.getElem?_eq_none (by omega)]; simp)
        have h8 := fn_readReply hE hi hat hsp s.data.toList (by omega)
        rw [ba_of] at h7 h8
        have b1 : badC (pcs s.data.toList) = false → callP E f_usufructref19_Command [.agg (cmdW (pcs s.data.toList)).cells] = some (vb true) ∧ callP E f_usufructref19_CommandLine [.agg (cmdW (pcs s.data.toList)).cells] = some (vs s) := fun h => by
          obtain ⟨q1, q2⟩ := cmd_to h
          have hl : ∀ i, ((pcs s.data.toList).getD i []).length ≤ 300 := fun i => by
            rw [List.getD_eq_getElem?_getD]
            by_cases c : i < (pcs s.data.toList).length
            · rw [List.getElem?_eq_getElem c]; exact Nat.le_trans (pcs_le s.data.toList _ (List.getElem_mem c)) (by omega)
            · rw [List.getElem?_eq_none (by omega)]; simp
          have hkk : (cmdW (pcs s.data.toList)).key.size ≤ 300 := hl 6
          have hpp : (cmdW (pcs s.data.toList)).party.size ≤ 300 := hl 5
          have k1 := fn_refCommand hE (cmdW (pcs s.data.toList)) (by omega) (by omega)
          have k2 := fn_refCommandLine hE (cmdW (pcs s.data.toList)) q1 (by omega) (by omega)
          rw [q1] at k1
          rw [q2, ba_of] at k2
          exact ⟨k1, k2⟩
        have b2 : badR (pcs s.data.toList) = false → callP E f_usufructref19_Reply [.agg (repW (pcs s.data.toList)).cells] = some (vb true) ∧ callP E f_usufructref19_ReplyLine [.agg (repW (pcs s.data.toList)).cells] = some (vs s) := fun h => by
          obtain ⟨q1, q2⟩ := rep_to h
          have k1 := fn_refReply hE (repW (pcs s.data.toList))
          have k2 := fn_refReplyLine hE (repW (pcs s.data.toList)) q1
          rw [q1] at k1
          rw [q2, ba_of] at k2
          exact ⟨k1, k2⟩
        have h9 := fn_answer hE c g
        generalize badC (pcs s.data.toList) = x1 at *
        generalize badR (pcs s.data.toList) = x2 at *
        generalize cmdW (pcs s.data.toList) = d at *
        generalize repW (pcs s.data.toList) = e at *
        have e0 : BA [] = ⟨#[]⟩ := rfl
        generalize lineC c = lc at *
        generalize lineR r = lr at *
        generalize goodC c = gc at *
        generalize goodR r = gr at *
        have tt : (true = true) = True := eq_self _
        have ft : (false = true) = False := by decide
        cases gc <;> cases gr <;> cases x1 <;> cases x2 <;>
          (first | obtain ⟨a1, a3⟩ := a1 rfl | (clear a1; have a1 := hw; have a3 := hw)) <;> (first | obtain ⟨a2, a4⟩ := a2 rfl | (clear a2; have a2 := hw; have a4 := hw)) <;> (first | obtain ⟨b1, b3⟩ := b1 rfl | (clear b1; have b1 := hw; have b3 := hw)) <;> (first | obtain ⟨b2, b4⟩ := b2 rfl | (clear b2; have b2 := hw; have b4 := hw)) <;>
          (simp only [tt, ft, if_true, if_false, e0, CmdT.cells, RepT.cells, r0, c0, Bool.not_true, Bool.not_false] at *
           rw [hE.run rfl rfl]
           simp -implicitDefEqProofs only [go_sem, reduceIte, reduceCtorEq, Nat.reduceEqDiff, Nat.reduceAdd, Nat.reduceSub, Nat.reduceLT, Nat.reduceLeDiff, Nat.reduceBEq, Nat.reduceMul, Nat.reduceBNe, Int.reduceEq, Int.reduceLT, Int.reduceLE, Int.reduceNe, Int.reduceToNat, ir_usufructlaw19_WireLines, CmdT.cells, RepT.cells, hw, s1', s2', s3', h1, h2, h3, h4, h5, h6, h7, h8, h9, a1, a2, a3, a4, b1, b2, b3, b4, eq5, eq6])
end Go.Proofs.YtampinmionpmhaaDoor.Ev
