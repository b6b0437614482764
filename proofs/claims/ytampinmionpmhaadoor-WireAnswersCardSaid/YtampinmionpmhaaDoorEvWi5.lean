/-
  Lines of commands and replies: the lines, by the code and by the document.
-/
import Derived.Test.YtampinmionpmhaaDoorEvWi4
set_option linter.unusedVariables false
set_option linter.unusedSimpArgs false
namespace Go.Proofs.YtampinmionpmhaaDoor.Ev
attribute [local congr] bind_congr_head
attribute [local go_sem] opd_t opd_c opd_g opd_f opds_nil opds_cons get_cons put_some put_none keep_nil keepC_s keepC_n keep_cons runs_nil runs_cons run_op run_opr run_call run_gand run_gor run_gif seqK_norm seqK_exit seqK_ret blkK_norm blkK_exit blkK_ret runL_skip runL_exit runL_ret runL_items runL_seq runL_cond runL_block runL_loop fin_bind finK_norm finK_ret rvs_nil rvs_cons rv_tmp rv_cell tupOf_one tupOf_nil tupOf_two ev_mov ev_pick ev_alloc ev_box ev_build parts_nil parts_cons fills_nil fills_cons ev_bsl ev_bslo ev_load ev_store ev_nilck ev_bin ev_binb ev_aeq ev_un ev_i2i ev_i2t ev_isnilI nilIF ev_s2b ev_ext ev_fld ev_idxs ev_fa ev_ias ev_len ev_lens ev_s2s ev_mkf ev_rng ev_nxt ev_app bOf_s pvOf_s agOf_s tpOf_s iOf_s sOf_s ite_bind Option.bind_some Option.bind_none if_true if_false ite_true ite_false argEnv_nil argEnv_cons len_av elems_av ias_av cells_av tuple_av AV.tuple AV.cells faF ldAt liveRef aggOf nilckF binV binI binS binB unV Bool.not_true Bool.not_false List.length_nil List.length_cons List.nil_append List.cons_append List.append_nil List.getElem?_cons_zero List.getElem?_cons_succ List.drop_zero List.drop_succ_cons List.drop_nil List.take_zero List.take_succ_cons List.take_nil List.set_cons_zero List.set_cons_succ compact_same compact_new closedB nodupB envIds ids0 upto visit pos sel AV.ids idss idsss Ob.ids AV.ren rens renss Ob.ren renEnv AV.snap snaps stAt okSt putCells List.all_nil List.all_cons List.contains_nil List.contains_cons Bool.and_true Bool.true_and Bool.and_false Bool.false_and Bool.or_true Bool.true_or Bool.or_false Bool.false_or decide_eq_true_eq decide_true decide_false beq_iff_eq bne_iff_ne beq_self_eq_true Bool.not_eq_true' Bool.false_eq_true eq_self and_self and_true true_and and_false false_and or_true true_or or_false false_or not_true_eq_false not_false_eq_true ne_eq Nat.zero_add Nat.add_zero Nat.le_refl Nat.not_lt_zero Nat.lt_irrefl Nat.zero_le Int.toNat_natCast gt_iff_lt ge_iff_le Int.lt_irrefl Int.natCast_nonneg txt_eq get_nil appF elems belows AV.under AV.flat flats List.length_map List.map_append List.map_cons List.map_nil List.length_append take_map_all List.flatten_cons List.flatten_nil bld_nil imp_false false_imp_iff false_implies true_implies implies_true decide_eq_false_iff_not Nat.one_mul Nat.mul_one idsss_app renss_app belowss_app ev_mn ev_mx ev_isnils ev_sls ev_slx evo_none evo_some vals minV maxV minF maxF backId List.getElem?_nil putAll Option.all_none Option.all_some Option.isSome_some intOf aszI compactV_same compactV_new callP_any callQ_eq callN_any boxQ AV.id? ids_avR ren_av under_av snap_av renss_mapf belowss_mapf idsss_mapf isnilsF List.length_eq_zero_iff int_beq int_bne decide_not slx_av Int.toNat_zero
theorem sz {a b : List UInt8} (h : a.length + b.length ≤ 9223372036854775807) : ¬ (9223372036854775807 : Int) < (((BA a).size + (BA b).size : Nat) : Int) := by rw [ba_size, ba_size]; omega
abbrev JOK (E : Prog) : Prop := ∀ ts : List (List UInt8), ts.length ≤ 1000 → (∀ p, p ∈ ts → p.length ≤ 2000000) → callP E f_strings_Join [(Sl.mk ts).av 1 strL, vs ⟨#[32]⟩] = some (vs (BA (joinB ts)))
def lineC (c : CmdT) : List UInt8 := joinB [wSend, Lib.itoa c.saga, Lib.itoa c.step, wayL c.undo, Lib.itoa c.tr, c.party.data.toList, c.key.data.toList]
def lineR (r : RepT) : List UInt8 := joinB [wReply, Lib.itoa r.saga, Lib.itoa r.step, wayL r.undo, Lib.itoa r.tr, if r.good = true then wGood else wBad]
theorem fit_of {n : Int} (h : fitI n = true) : 0 ≤ n ∧ n ≤ 999999999999999999 := by simpa [fitI] using h
theorem fn_line {E : Prog} (hE : Std E fns) (hj : JOK E) (ts : List (List UInt8)) (h1 : ts.length ≤ 1000) (h2 : ∀ p, p ∈ ts → p.length ≤ 2000000) : callP E f_wire_line [(Sl.mk ts).av 1 strL] = some (vs (BA (joinB ts))) := by
  have h := hj ts h1 h2
  rw [hE.run rfl rfl]
  simp -implicitDefEqProofs only [go_sem, reduceIte, reduceCtorEq, Nat.reduceEqDiff, Nat.reduceAdd, Nat.reduceSub, Nat.reduceLT, Nat.reduceLeDiff, Nat.reduceBEq, Nat.reduceMul, Nat.reduceBNe, Int.reduceEq, Int.reduceLT, Int.reduceLE, Int.reduceNe, Int.reduceToNat, ir_wire_line, h, ro_strL]
theorem goodC_fit {c : CmdT} (h : goodC c = true) : fitI c.saga = true ∧ fitI c.step = true ∧ fitI c.tr = true ∧ labelGood c.party = true ∧ ∃ nm, cutS c.key.data.toList = some (c.saga, nm, c.undo) := by
  unfold goodC at h
  simp only [Bool.and_eq_true] at h
  obtain ⟨⟨⟨h1, h2, h3⟩, h4⟩, h5⟩ := h
  refine ⟨h1, h2, h3, h4, ?_⟩
  split at h5
  · rename_i n nm u hc
    simp only [Bool.and_eq_true, decide_eq_true_eq] at h5
    exact ⟨nm, by rw [hc, h5.1, h5.2]⟩
  · cases h5
theorem q7r (a b c d e f g : Value) : ross [[.v a], [.v b], [.v c], [.v d], [.v e], [.v f], [.v g]] = true := rfl
theorem q7b (a b c d e f g : Value) (n : Nat) : belowss n [[.v a], [.v b], [.v c], [.v d], [.v e], [.v f], [.v g]] = true := rfl
theorem q7i (a b c d e f g : Value) : idsss [[.v a], [.v b], [.v c], [.v d], [.v e], [.v f], [.v g]] = [] := rfl
theorem q6r (a b c d e f : Value) : ross [[.v a], [.v b], [.v c], [.v d], [.v e], [.v f]] = true := rfl
theorem q6b (a b c d e f : Value) (n : Nat) : belowss n [[.v a], [.v b], [.v c], [.v d], [.v e], [.v f]] = true := rfl
theorem q6i (a b c d e f : Value) : idsss [[.v a], [.v b], [.v c], [.v d], [.v e], [.v f]] = [] := rfl
theorem fn_commandLine {E : Prog} (hE : Std E fns) (hi : ITOK E) (hv : VOK E) (hss : SPS E) (hj : JOK E) (c : CmdT) (hk : c.key.size ≤ 400) (hp : c.party.size ≤ 1000000) :
    callP E f_wire_CommandLine [.agg c.cells] = some (vs (BA (if goodC c = true then lineC c else []))) := by
  have hg := fn_goodC hE hv hss c hk (by omega)
  have hc0 := fn_choice hE c.undo ⟨#[117, 110, 100, 111]⟩ ⟨#[100, 111]⟩
  have hw : (if c.undo = true then (⟨#[117, 110, 100, 111]⟩ : ByteArray) else ⟨#[100, 111]⟩) = BA (wayL c.undo) := by cases c.undo <;> rfl
  have e0 : (⟨#[115, 101, 110, 100]⟩ : ByteArray) = BA wSend := rfl
  rw [hw] at hc0
  rw [hE.run rfl rfl]
  cases hgc : goodC c
  · rw [hgc] at hg
    simp only [CmdT.cells] at hg
    simp -implicitDefEqProofs only [go_sem, reduceIte, reduceCtorEq, Nat.reduceEqDiff, Nat.reduceAdd, Nat.reduceSub, Nat.reduceLT, Nat.reduceLeDiff, Nat.reduceBEq, Nat.reduceMul, Nat.reduceBNe, Int.reduceEq, Int.reduceLT, Int.reduceLE, Int.reduceNe, Int.reduceToNat, ir_wire_CommandLine, CmdT.cells, hg]
    rfl
  · rw [hgc] at hg
    obtain ⟨f1, f2, f3, f4, nm, f5⟩ := goodC_fit hgc
    have g1 := fit_of f1
    have g2 := fit_of f2
    have g3 := fit_of f3
    have i1 := hi c.saga (by omega) (by omega)
    have i2 := hi c.step (by omega) (by omega)
    have i3 := hi c.tr (by omega) (by omega)
    have l1 := itoa_len g1.1 (by omega)
    have l2 := itoa_len g2.1 (by omega)
    have l3 := itoa_len g3.1 (by omega)
    have l4 := way_len c.undo
    have hl := fn_line hE hj [wSend, Lib.itoa c.saga, Lib.itoa c.step, wayL c.undo, Lib.itoa c.tr, c.party.data.toList, c.key.data.toList] (by simp) (by
      intro p hp'
      simp only [List.mem_cons, List.not_mem_nil, or_false] at hp'
      rcases hp' with rfl | rfl | rfl | rfl | rfl | rfl | rfl
      · show 4 ≤ 2000000; omega
      · omega
      · omega
      · omega
      · omega
      · have : c.party.data.toList.length = c.party.size := rfl
        omega
      · have : c.key.data.toList.length = c.key.size := rfl
        omega)
    simp only [av_mk, List.map_cons, List.map_nil, strL, ba_of] at hl
    simp only [CmdT.cells] at hg
    rw [if_pos rfl]
    unfold lineC
    simp -implicitDefEqProofs only [go_sem, reduceIte, reduceCtorEq, Nat.reduceEqDiff, Nat.reduceAdd, Nat.reduceSub, Nat.reduceLT, Nat.reduceLeDiff, Nat.reduceBEq, Nat.reduceMul, Nat.reduceBNe, Int.reduceEq, Int.reduceLT, Int.reduceLE, Int.reduceNe, Int.reduceToNat, ir_wire_CommandLine, CmdT.cells, hg, hc0, i1, i2, i3, e0, hl, q7r, q7b, q7i]
theorem fn_replyLine {E : Prog} (hE : Std E fns) (hi : ITOK E) (hj : JOK E) (r : RepT) :
    callP E f_wire_ReplyLine [.agg r.cells] = some (vs (BA (if goodR r = true then lineR r else []))) := by
  have hg := fn_goodR hE r
  have hc0 := fn_choice hE r.undo ⟨#[117, 110, 100, 111]⟩ ⟨#[100, 111]⟩
  have hw : (if r.undo = true then (⟨#[117, 110, 100, 111]⟩ : ByteArray) else ⟨#[100, 111]⟩) = BA (wayL r.undo) := by cases r.undo <;> rfl
  have hc1 := fn_choice hE r.good ⟨#[103, 111, 111, 100]⟩ ⟨#[98, 97, 100]⟩
  have hw1 : (if r.good = true then (⟨#[103, 111, 111, 100]⟩ : ByteArray) else ⟨#[98, 97, 100]⟩) = BA (if r.good = true then wGood else wBad) := by cases r.good <;> rfl
  have e0 : (⟨#[114, 101, 112, 108, 121]⟩ : ByteArray) = BA wReply := rfl
  rw [hw] at hc0
  rw [hw1] at hc1
  rw [hE.run rfl rfl]
  cases hgc : goodR r
  · rw [hgc] at hg
    simp only [RepT.cells] at hg
    simp -implicitDefEqProofs only [go_sem, reduceIte, reduceCtorEq, Nat.reduceEqDiff, Nat.reduceAdd, Nat.reduceSub, Nat.reduceLT, Nat.reduceLeDiff, Nat.reduceBEq, Nat.reduceMul, Nat.reduceBNe, Int.reduceEq, Int.reduceLT, Int.reduceLE, Int.reduceNe, Int.reduceToNat, ir_wire_ReplyLine, RepT.cells, hg]
    rfl
  · rw [hgc] at hg
    have hf := hgc
    unfold goodR at hf
    simp only [Bool.and_eq_true] at hf
    obtain ⟨f1, f2, f3⟩ := hf
    have g1 := fit_of f1
    have g2 := fit_of f2
    have g3 := fit_of f3
    have i1 := hi r.saga (by omega) (by omega)
    have i2 := hi r.step (by omega) (by omega)
    have i3 := hi r.tr (by omega) (by omega)
    have l1 := itoa_len g1.1 (by omega)
    have l2 := itoa_len g2.1 (by omega)
    have l3 := itoa_len g3.1 (by omega)
    have l4 := way_len r.undo
    have l5 : (if r.good = true then wGood else wBad).length ≤ 4 := by cases r.good <;> decide
    have hl := fn_line hE hj [wReply, Lib.itoa r.saga, Lib.itoa r.step, wayL r.undo, Lib.itoa r.tr, if r.good = true then wGood else wBad] (by simp) (by
      intro p hp'
      simp only [List.mem_cons, List.not_mem_nil, or_false] at hp'
      rcases hp' with rfl | rfl | rfl | rfl | rfl | rfl
      · show 5 ≤ 2000000; omega
      · omega
      · omega
      · omega
      · omega
      · omega)
    simp only [av_mk, List.map_cons, List.map_nil, strL, ba_of] at hl
    simp only [RepT.cells] at hg
    rw [if_pos rfl]
    unfold lineR
    generalize (if r.good = true then wGood else wBad) = wg at *
    simp -implicitDefEqProofs only [go_sem, reduceIte, reduceCtorEq, Nat.reduceEqDiff, Nat.reduceAdd, Nat.reduceSub, Nat.reduceLT, Nat.reduceLeDiff, Nat.reduceBEq, Nat.reduceMul, Nat.reduceBNe, Int.reduceEq, Int.reduceLT, Int.reduceLE, Int.reduceNe, Int.reduceToNat, ir_wire_ReplyLine, RepT.cells, hg, hc0, hc1, i1, i2, i3, e0, hl, q6r, q6b, q6i]
theorem fn_answer {E : Prog} (hE : Std E fns) (c : CmdT) (g : Bool) : callP E f_wire_Answer [.agg c.cells, vb g] = some (.agg (RepT.cells ⟨c.saga, c.step, c.undo, c.tr, g⟩)) := by
  rw [hE.run rfl rfl]
  simp -implicitDefEqProofs only [go_sem, reduceIte, reduceCtorEq, Nat.reduceEqDiff, Nat.reduceAdd, Nat.reduceSub, Nat.reduceLT, Nat.reduceLeDiff, Nat.reduceBEq, Nat.reduceMul, Nat.reduceBNe, Int.reduceEq, Int.reduceLT, Int.reduceLE, Int.reduceNe, Int.reduceToNat, ir_wire_Answer, CmdT.cells, RepT.cells]
theorem fn_rfits {E : Prog} (hE : Std E fns) (n : Int) : callP E f_usufructref19_fits [vi n] = some (vb (fitI n)) := by
  rw [hE.run rfl rfl]
  unfold fitI
  by_cases c1 : 0 ≤ n
  · simp -implicitDefEqProofs only [go_sem, reduceIte, reduceCtorEq, Nat.reduceEqDiff, Nat.reduceAdd, Nat.reduceSub, Nat.reduceLT, Nat.reduceLeDiff, Nat.reduceBEq, Nat.reduceMul, Nat.reduceBNe, Int.reduceEq, Int.reduceLT, Int.reduceLE, Int.reduceNe, Int.reduceToNat, ir_usufructref19_fits, c1]
    try simp
  · simp -implicitDefEqProofs only [go_sem, reduceIte, reduceCtorEq, Nat.reduceEqDiff, Nat.reduceAdd, Nat.reduceSub, Nat.reduceLT, Nat.reduceLeDiff, Nat.reduceBEq, Nat.reduceMul, Nat.reduceBNe, Int.reduceEq, Int.reduceLT, Int.reduceLE, Int.reduceNe, Int.reduceToNat, ir_usufructref19_fits, c1]
    try simp
end Go.Proofs.YtampinmionpmhaaDoor.Ev
