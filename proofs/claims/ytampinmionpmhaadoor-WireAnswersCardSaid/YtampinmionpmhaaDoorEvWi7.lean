/-
  Lines of commands and replies: the document's lines.
-/
import Derived.Test.YtampinmionpmhaaDoorEvWi6
set_option linter.unusedVariables false
set_option linter.unusedSimpArgs false
namespace Go.Proofs.YtampinmionpmhaaDoor.Ev
attribute [local congr] bind_congr_head
attribute [local go_sem] opd_t opd_c opd_g opd_f opds_nil opds_cons get_cons put_some put_none keep_nil keepC_s keepC_n keep_cons runs_nil runs_cons run_op run_opr run_call run_gand run_gor run_gif seqK_norm seqK_exit seqK_ret blkK_norm blkK_exit blkK_ret runL_skip runL_exit runL_ret runL_items runL_seq runL_cond runL_block runL_loop fin_bind finK_norm finK_ret rvs_nil rvs_cons rv_tmp rv_cell tupOf_one tupOf_nil tupOf_two ev_mov ev_pick ev_alloc ev_box ev_build parts_nil parts_cons fills_nil fills_cons ev_bsl ev_bslo ev_load ev_store ev_nilck ev_bin ev_binb ev_aeq ev_un ev_i2i ev_i2t ev_isnilI nilIF ev_s2b ev_ext ev_fld ev_idxs ev_fa ev_ias ev_len ev_lens ev_s2s ev_mkf ev_rng ev_nxt ev_app bOf_s pvOf_s agOf_s tpOf_s iOf_s sOf_s ite_bind Option.bind_some Option.bind_none if_true if_false ite_true ite_false argEnv_nil argEnv_cons len_av elems_av ias_av cells_av tuple_av AV.tuple AV.cells faF ldAt liveRef aggOf nilckF binV binI binS binB unV Bool.not_true Bool.not_false List.length_nil List.length_cons List.nil_append List.cons_append List.append_nil List.getElem?_cons_zero List.getElem?_cons_succ List.drop_zero List.drop_succ_cons List.drop_nil List.take_zero List.take_succ_cons List.take_nil List.set_cons_zero List.set_cons_succ compact_same compact_new closedB nodupB envIds ids0 upto visit pos sel AV.ids idss idsss Ob.ids AV.ren rens renss Ob.ren renEnv AV.snap snaps stAt okSt putCells List.all_nil List.all_cons List.contains_nil List.contains_cons Bool.and_true Bool.true_and Bool.and_false Bool.false_and Bool.or_true Bool.true_or Bool.or_false Bool.false_or decide_eq_true_eq decide_true decide_false beq_iff_eq bne_iff_ne beq_self_eq_true Bool.not_eq_true' Bool.false_eq_true eq_self and_self and_true true_and and_false false_and or_true true_or or_false false_or not_true_eq_false not_false_eq_true ne_eq Nat.zero_add Nat.add_zero Nat.le_refl Nat.not_lt_zero Nat.lt_irrefl Nat.zero_le Int.toNat_natCast gt_iff_lt ge_iff_le Int.lt_irrefl Int.natCast_nonneg txt_eq get_nil appF elems belows AV.under AV.flat flats List.length_map List.map_append List.map_cons List.map_nil List.length_append take_map_all List.flatten_cons List.flatten_nil bld_nil imp_false false_imp_iff false_implies true_implies implies_true decide_eq_false_iff_not Nat.one_mul Nat.mul_one idsss_app renss_app belowss_app ev_mn ev_mx ev_isnils ev_sls ev_slx evo_none evo_some vals minV maxV minF maxF backId List.getElem?_nil putAll Option.all_none Option.all_some Option.isSome_some intOf aszI compactV_same compactV_new callP_any callQ_eq callN_any boxQ AV.id? ids_avR ren_av under_av snap_av renss_mapf belowss_mapf idsss_mapf isnilsF List.length_eq_zero_iff int_beq int_bne decide_not slx_av Int.toNat_zero
theorem line7 (a b c w d p k : List UInt8) {S Z W : List UInt8} (hS : S = a ++ [32]) (hZ : Z = [32]) (hW : W = 32 :: (w ++ [32])) : S ++ b ++ Z ++ c ++ W ++ d ++ Z ++ p ++ Z ++ k = joinB [a, b, c, w, d, p, k] := by
  subst hS; subst hZ; subst hW
  simp [joinB]
theorem line6 (a b c w d g : List UInt8) {S Z W G : List UInt8} (hS : S = a ++ [32]) (hZ : Z = [32]) (hW : W = 32 :: (w ++ [32])) (hG : G = 32 :: g) : S ++ b ++ Z ++ c ++ W ++ d ++ G = joinB [a, b, c, w, d, g] := by
  subst hS; subst hZ; subst hW; subst hG
  simp [joinB]
theorem fn_refCommandLine {E : Prog} (hE : Std E fns) (c : CmdT) (hg : goodC c = true) (hk : c.key.size ≤ 1000000) (hp : c.party.size ≤ 1000000) :
    callP E f_usufructref19_CommandLine [.agg c.cells] = some (vs (BA (lineC c))) := by
  obtain ⟨f1, f2, f3, -⟩ := goodC_fit hg
  have g1 := fit_of f1
  have g2 := fit_of f2
  have g3 := fit_of f3
  have i1 := fn_decimal hE c.saga (by omega) (by omega)
  have i2 := fn_decimal hE c.step (by omega) (by omega)
  have i3 := fn_decimal hE c.tr (by omega) (by omega)
  have i4 := fn_rway hE c.undo
  have l1 := itoa_len g1.1 (by omega)
  have l2 := itoa_len g2.1 (by omega)
  have l3 := itoa_len g3.1 (by omega)
  have l4 := way_len c.undo
  obtain ⟨S, e5, hS⟩ : ∃ S, (⟨#[115, 101, 110, 100, 32]⟩ : ByteArray) = BA S ∧ S = wSend ++ [32] := ⟨_, rfl, rfl⟩
  obtain ⟨Z, e1, hZ⟩ : ∃ Z, (⟨#[32]⟩ : ByteArray) = BA Z ∧ Z = [32] := ⟨_, rfl, rfl⟩
  obtain ⟨W, i5, hW⟩ : ∃ W, callP E f_usufructref19_way [vb c.undo] = some (vs (BA W)) ∧ W = 32 :: (wayL c.undo ++ [32]) := ⟨_, i4, rfl⟩
  have hl := line7 wSend (Lib.itoa c.saga) (Lib.itoa c.step) (wayL c.undo) (Lib.itoa c.tr) c.party.data.toList c.key.data.toList hS hZ hW
  have ep : vs c.party = vs (BA c.party.data.toList) := by rw [ba_of]
  have ek : vs c.key = vs (BA c.key.data.toList) := by rw [ba_of]
  have hp' : c.party.data.toList.length ≤ 1000000 := hp
  have hk' : c.key.data.toList.length ≤ 1000000 := hk
  have l5 : S.length = 5 := by rw [hS]; rfl
  have l6 : Z.length = 1 := by rw [hZ]; rfl
  have l7 : W.length ≤ 6 := by rw [hW]; simp; omega
  unfold lineC
  rw [← hl]
  rw [hE.run rfl rfl]
  clear hl hS hZ hW i4
  simp only [CmdT.cells, ep, ek]
  generalize c.party.data.toList = P at *
  generalize c.key.data.toList = K at *
  generalize Lib.itoa c.saga = A at *
  generalize Lib.itoa c.step = B at *
  generalize Lib.itoa c.tr = D at *
  have q1 := sz (a := S) (b := A) (by omega)
  have q2 := sz (a := S ++ A) (b := Z) (by simp only [List.length_append]; omega)
  have q3 := sz (a := S ++ A ++ Z) (b := B) (by simp only [List.length_append]; omega)
  have q4 := sz (a := S ++ A ++ Z ++ B) (b := W) (by simp only [List.length_append]; omega)
  have q5 := sz (a := S ++ A ++ Z ++ B ++ W) (b := D) (by simp only [List.length_append]; omega)
  have q6 := sz (a := S ++ A ++ Z ++ B ++ W ++ D) (b := Z) (by simp only [List.length_append]; omega)
  have q7 := sz (a := S ++ A ++ Z ++ B ++ W ++ D ++ Z) (b := P) (by simp only [List.length_append]; omega)
  have q8 := sz (a := S ++ A ++ Z ++ B ++ W ++ D ++ Z ++ P) (b := Z) (by simp only [List.length_append]; omega)
  have q9 := sz (a := S ++ A ++ Z ++ B ++ W ++ D ++ Z ++ P ++ Z) (b := K) (by simp only [List.length_append]; omega)
  simp -implicitDefEqProofs only [go_sem, reduceIte, reduceCtorEq, Nat.reduceEqDiff, Nat.reduceAdd, Nat.reduceSub, Nat.reduceLT, Nat.reduceLeDiff, Nat.reduceBEq, Nat.reduceMul, Nat.reduceBNe, Int.reduceEq, Int.reduceLT, Int.reduceLE, Int.reduceNe, Int.reduceToNat, ir_usufructref19_CommandLine, i1, i2, i3, i5, e5, e1, ba_app, q1, q2, q3, q4, q5, q6, q7, q8, q9]
theorem fn_refReplyLine {E : Prog} (hE : Std E fns) (c : RepT) (hg : goodR c = true) :
    callP E f_usufructref19_ReplyLine [.agg c.cells] = some (vs (BA (lineR c))) := by
  unfold goodR at hg
  simp only [Bool.and_eq_true] at hg
  obtain ⟨f1, f2, f3⟩ := hg
  have g1 := fit_of f1
  have g2 := fit_of f2
  have g3 := fit_of f3
  have i1 := fn_decimal hE c.saga (by omega) (by omega)
  have i2 := fn_decimal hE c.step (by omega) (by omega)
  have i3 := fn_decimal hE c.tr (by omega) (by omega)
  have i4 := fn_rway hE c.undo
  have l1 := itoa_len g1.1 (by omega)
  have l2 := itoa_len g2.1 (by omega)
  have l3 := itoa_len g3.1 (by omega)
  have l4 := way_len c.undo
  obtain ⟨S, e5, hS⟩ : ∃ S, (⟨#[114, 101, 112, 108, 121, 32]⟩ : ByteArray) = BA S ∧ S = wReply ++ [32] := ⟨_, rfl, rfl⟩
  obtain ⟨Z, e1, hZ⟩ : ∃ Z, (⟨#[32]⟩ : ByteArray) = BA Z ∧ Z = [32] := ⟨_, rfl, rfl⟩
  obtain ⟨W, i5, hW⟩ : ∃ W, callP E f_usufructref19_way [vb c.undo] = some (vs (BA W)) ∧ W = 32 :: (wayL c.undo ++ [32]) := ⟨_, i4, rfl⟩
  obtain ⟨G, e6, hG⟩ : ∃ G, (⟨#[32, 103, 111, 111, 100]⟩ : ByteArray) = BA G ∧ G = 32 :: wGood := ⟨_, rfl, rfl⟩
  obtain ⟨F, e7, hF⟩ : ∃ F, (⟨#[32, 98, 97, 100]⟩ : ByteArray) = BA F ∧ F = 32 :: wBad := ⟨_, rfl, rfl⟩
  have l5 : S.length = 6 := by rw [hS]; rfl
  have l6 : Z.length = 1 := by rw [hZ]; rfl
  have l7 : W.length ≤ 6 := by rw [hW]; simp; omega
  have l8 : G.length = 5 := by rw [hG]; rfl
  have l9 : F.length = 4 := by rw [hF]; rfl
  unfold lineR
  cases hgd : c.good
  · rw [if_neg (by decide), ← line6 wReply (Lib.itoa c.saga) (Lib.itoa c.step) (wayL c.undo) (Lib.itoa c.tr) wBad hS hZ hW hF]
    rw [hE.run rfl rfl]
    clear hS hZ hW hG hF i4
    simp only [RepT.cells]
    generalize Lib.itoa c.saga = A at *
    generalize Lib.itoa c.step = B at *
    generalize Lib.itoa c.tr = D at *
    have q1 := sz (a := S) (b := A) (by omega)
    have q2 := sz (a := S ++ A) (b := Z) (by simp only [List.length_append]; omega)
    have q3 := sz (a := S ++ A ++ Z) (b := B) (by simp only [List.length_append]; omega)
    have q4 := sz (a := S ++ A ++ Z ++ B) (b := W) (by simp only [List.length_append]; omega)
    have q5 := sz (a := S ++ A ++ Z ++ B ++ W) (b := D) (by simp only [List.length_append]; omega)
    have q6 := sz (a := S ++ A ++ Z ++ B ++ W ++ D) (b := F) (by simp only [List.length_append]; omega)
    simp -implicitDefEqProofs only [go_sem, reduceIte, reduceCtorEq, Nat.reduceEqDiff, Nat.reduceAdd, Nat.reduceSub, Nat.reduceLT, Nat.reduceLeDiff, Nat.reduceBEq, Nat.reduceMul, Nat.reduceBNe, Int.reduceEq, Int.reduceLT, Int.reduceLE, Int.reduceNe, Int.reduceToNat, ir_usufructref19_ReplyLine, hgd, i1, i2, i3, i5, e5, e1, e6, e7, ba_app, q1, q2, q3, q4, q5, q6]
  · rw [if_pos rfl, ← line6 wReply (Lib.itoa c.saga) (Lib.itoa c.step) (wayL c.undo) (Lib.itoa c.tr) wGood hS hZ hW hG]
    rw [hE.run rfl rfl]
    clear hS hZ hW hG hF i4
    simp only [RepT.cells]
    generalize Lib.itoa c.saga = A at *
    generalize Lib.itoa c.step = B at *
    generalize Lib.itoa c.tr = D at *
    have q1 := sz (a := S) (b := A) (by omega)
    have q2 := sz (a := S ++ A) (b := Z) (by simp only [List.length_append]; omega)
    have q3 := sz (a := S ++ A ++ Z) (b := B) (by simp only [List.length_append]; omega)
    have q4 := sz (a := S ++ A ++ Z ++ B) (b := W) (by simp only [List.length_append]; omega)
    have q5 := sz (a := S ++ A ++ Z ++ B ++ W) (b := D) (by simp only [List.length_append]; omega)
    have q6 := sz (a := S ++ A ++ Z ++ B ++ W ++ D) (b := G) (by simp only [List.length_append]; omega)
    simp -implicitDefEqProofs only [go_sem, reduceIte, reduceCtorEq, Nat.reduceEqDiff, Nat.reduceAdd, Nat.reduceSub, Nat.reduceLT, Nat.reduceLeDiff, Nat.reduceBEq, Nat.reduceMul, Nat.reduceBNe, Int.reduceEq, Int.reduceLT, Int.reduceLE, Int.reduceNe, Int.reduceToNat, ir_usufructref19_ReplyLine, hgd, i1, i2, i3, i5, e5, e1, e6, e7, ba_app, q1, q2, q3, q4, q5, q6]
end Go.Proofs.YtampinmionpmhaaDoor.Ev
