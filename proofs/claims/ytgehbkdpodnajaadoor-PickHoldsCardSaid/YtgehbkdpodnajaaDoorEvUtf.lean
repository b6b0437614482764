/-
  Names: label.Good, and the document's: what they answer.
-/
import Derived.Test.YtgehbkdpodnajaaDoorEvSl
import Derived.Test.YtgehbkdpodnajaaDoorEvIR
import Derived.Lib.RuneCount
import Derived.Lib.ValidLaws
import Derived.Lib.DecodeN
set_option linter.unusedVariables false
set_option linter.unusedSimpArgs false
namespace Go.Proofs.YtgehbkdpodnajaaDoor.Ev
attribute [local congr] bind_congr_head
attribute [local go_sem] opd_t opd_c opd_g opd_f opds_nil opds_cons get_cons put_some put_none keep_nil keepC_s keepC_n keep_cons runs_nil runs_cons run_op run_opr run_call run_gand run_gor run_gif seqK_norm seqK_exit seqK_ret blkK_norm blkK_exit blkK_ret runL_skip runL_exit runL_ret runL_items runL_seq runL_cond runL_block runL_loop fin_bind finK_norm finK_ret rvs_nil rvs_cons rv_tmp rv_cell tupOf_one tupOf_nil tupOf_two ev_mov ev_pick ev_alloc ev_box ev_build parts_nil parts_cons fills_nil fills_cons ev_bsl ev_bslo ev_load ev_store ev_nilck ev_bin ev_binb ev_aeq ev_un ev_i2i ev_i2t ev_s2b ev_ext ev_fld ev_idxs ev_fa ev_ias ev_len ev_lens ev_s2s ev_mkf ev_rng ev_nxt ev_app bOf_s pvOf_s agOf_s tpOf_s iOf_s sOf_s ite_bind Option.bind_some Option.bind_none if_true if_false ite_true ite_false argEnv_nil argEnv_cons len_av elems_av ias_av cells_av tuple_av AV.tuple AV.cells faF ldAt liveRef aggOf nilckF binV binI binS binB unV Bool.not_true Bool.not_false List.length_nil List.length_cons List.nil_append List.cons_append List.append_nil List.getElem?_cons_zero List.getElem?_cons_succ List.drop_zero List.drop_succ_cons List.drop_nil List.take_zero List.take_succ_cons List.take_nil List.set_cons_zero List.set_cons_succ compact_same compact_new closedB nodupB envIds ids0 upto visit pos sel AV.ids idss idsss Ob.ids AV.ren rens renss Ob.ren renEnv AV.snap snaps stAt okSt putCells List.all_nil List.all_cons List.contains_nil List.contains_cons Bool.and_true Bool.true_and Bool.and_false Bool.false_and Bool.or_true Bool.true_or Bool.or_false Bool.false_or decide_eq_true_eq decide_true decide_false beq_iff_eq bne_iff_ne beq_self_eq_true Bool.not_eq_true' Bool.false_eq_true eq_self and_self and_true true_and and_false false_and or_true true_or or_false false_or not_true_eq_false not_false_eq_true ne_eq Nat.zero_add Nat.add_zero Nat.le_refl Nat.not_lt_zero Nat.lt_irrefl Nat.zero_le Int.toNat_natCast gt_iff_lt ge_iff_le Int.lt_irrefl Int.natCast_nonneg txt_eq get_nil appF elems belows AV.under AV.flat flats List.length_map List.map_append List.map_cons List.map_nil List.length_append take_map_all List.flatten_cons List.flatten_nil bld_nil imp_false false_imp_iff false_implies true_implies implies_true decide_eq_false_iff_not Nat.one_mul Nat.mul_one idsss_app renss_app belowss_app ev_mn ev_mx ev_isnils ev_sls ev_slx evo_none evo_some vals minV maxV minF maxF backId List.getElem?_nil putAll Option.all_none Option.all_some Option.isSome_some intOf aszI compactV_same compactV_new callP_any callQ_eq callN_any boxQ AV.id? ids_avR ren_av under_av snap_av renss_mapf belowss_mapf idsss_mapf isnilsF List.length_eq_zero_iff int_beq int_bne decide_not slx_av Int.toNat_zero

/-! ### letters -/
def letterS (c : Int) : Bool := decide (97 ≤ c) && decide (c ≤ 122) || decide (65 ≤ c) && decide (c ≤ 90) || decide (128 ≤ c)
def mayS (c : Int) : Bool := letterS c || decide (48 ≤ c) && decide (c ≤ 57) || decide (c = 45) || decide (c = 95)
theorem fn_letter {E : Prog} (hE : Std E fns) (c : Int) : callP E f_label_letter [.v (.int .i32 c)] = some (vb (letterS c)) := by
  rw [hE.run rfl rfl]
  simp only [go_sem, reduceIte, reduceCtorEq, Nat.reduceEqDiff, Nat.reduceAdd, Nat.reduceSub, Nat.reduceLT, Nat.reduceLeDiff, Nat.reduceBEq, Nat.reduceMul, Nat.reduceBNe, Int.reduceEq, Int.reduceLT, Int.reduceLE, Int.reduceNe, Int.reduceToNat, ir_label_letter, letterS]
  by_cases h1 : 97 ≤ c <;> by_cases h2 : c ≤ 122 <;> by_cases h3 : 65 ≤ c <;> by_cases h4 : c ≤ 90 <;> simp [h1, h2, h3, h4]
theorem fn_letterRef {E : Prog} (hE : Std E fns) (c : Int) : callP E f_usufructref02_letter [.v (.int .i32 c)] = some (vb (letterS c)) := by
  rw [hE.run rfl rfl]
  simp only [go_sem, reduceIte, reduceCtorEq, Nat.reduceEqDiff, Nat.reduceAdd, Nat.reduceSub, Nat.reduceLT, Nat.reduceLeDiff, Nat.reduceBEq, Nat.reduceMul, Nat.reduceBNe, Int.reduceEq, Int.reduceLT, Int.reduceLE, Int.reduceNe, Int.reduceToNat, ir_usufructref02_letter, letterS]
  by_cases h1 : 97 ≤ c <;> by_cases h2 : c ≤ 122 <;> by_cases h3 : 65 ≤ c <;> by_cases h4 : c ≤ 90 <;> simp [h1, h2, h3, h4]
theorem fn_may {E : Prog} (hE : Std E fns) (c : Int) : callP E f_label_may [.v (.int .i32 c)] = some (vb (mayS c)) := by
  rw [hE.run rfl rfl]
  simp only [go_sem, reduceIte, reduceCtorEq, Nat.reduceEqDiff, Nat.reduceAdd, Nat.reduceSub, Nat.reduceLT, Nat.reduceLeDiff, Nat.reduceBEq, Nat.reduceMul, Nat.reduceBNe, Int.reduceEq, Int.reduceLT, Int.reduceLE, Int.reduceNe, Int.reduceToNat, ir_label_may, fn_letter hE, mayS]
  cases letterS c <;> by_cases h1 : 48 ≤ c <;> by_cases h2 : c ≤ 57 <;> by_cases h3 : c = 45 <;> simp [h1, h2, h3]
theorem fn_mayRef {E : Prog} (hE : Std E fns) (c : Int) : callP E f_usufructref02_may [.v (.int .i32 c)] = some (vb (mayS c)) := by
  rw [hE.run rfl rfl]
  simp only [go_sem, reduceIte, reduceCtorEq, Nat.reduceEqDiff, Nat.reduceAdd, Nat.reduceSub, Nat.reduceLT, Nat.reduceLeDiff, Nat.reduceBEq, Nat.reduceMul, Nat.reduceBNe, Int.reduceEq, Int.reduceLT, Int.reduceLE, Int.reduceNe, Int.reduceToNat, ir_usufructref02_may, fn_letterRef hE, mayS]
  cases letterS c <;> by_cases h1 : 48 ≤ c <;> by_cases h2 : c ≤ 57 <;> by_cases h3 : c = 45 <;> simp [h1, h2, h3]

/-! ### the program's way -/
def mayF (s : ByteArray) : Nat → Nat → Bool
  | 0, _ => true
  | n + 1, i => if i < s.size then mayS (Utf8.decode s i).1 && (decide (i ≠ 0) || letterS (Utf8.decode s i).1) && mayF s n (i + (Utf8.decode s i).2) else true
def validF (s : ByteArray) : Nat → Nat → Bool
  | 0, _ => true
  | n + 1, i => if i < s.size then decide (Utf8.decode s i ≠ (65533, 1)) && validF s n (i + (Utf8.decode s i).2) else true
theorem runes_loop {G : Nat → Option (List AV)} {raw : Raw} {L : Env × Store → Option (Sig × Env × Store)} (s : ByteArray)
    (hL : ∀ e st, L (e, st) = (IR.runL G raw [] ir_label_Runes_L0 e st).bind (seqK fun e st => L (compact [] 1 [3, 5] e st))) :
    ∀ (f pp n : Nat), s.size - pp ≤ f → n + f < 9223372036854775807 →
    ∃ q, L ([(3, vi n), (5, .it 0)], [.sit s pp]) = some (.exit 0, [(3, vi (n + Lib.runeCountFrom s f pp : Nat))], [.sit s q])
  | 0, pp, n, h, hn => by
    refine ⟨pp, ?_⟩
    have hp : ¬ pp < s.size := by omega
    rw [hL]
    simp only [go_sem, reduceIte, reduceCtorEq, Nat.reduceEqDiff, Nat.reduceAdd, Nat.reduceSub, Nat.reduceLT, Nat.reduceLeDiff, Nat.reduceBEq, Nat.reduceMul, Nat.reduceBNe, Int.reduceEq, Int.reduceLT, Int.reduceLE, Int.reduceNe, Int.reduceToNat, ir_label_Runes_L0, nxtF, hp, Lib.runeCountFrom]
  | f + 1, pp, n, h, hn => by
    by_cases hp : pp < s.size
    · have hw := Lib.decode_width_pos s pp hp
      obtain ⟨q, ih⟩ := runes_loop s hL f (pp + (Utf8.decode s pp).2) (n + 1) (by omega) (by omega)
      refine ⟨q, ?_⟩
      have h6 := wrap_succ (i := n) (by omega)
      rw [hL]
      simp only [go_sem, reduceIte, reduceCtorEq, Nat.reduceEqDiff, Nat.reduceAdd, Nat.reduceSub, Nat.reduceLT, Nat.reduceLeDiff, Nat.reduceBEq, Nat.reduceMul, Nat.reduceBNe, Int.reduceEq, Int.reduceLT, Int.reduceLE, Int.reduceNe, Int.reduceToNat, ir_label_Runes_L0, nxtF, hp, h6, ih, Lib.runeCountFrom]
      congr 6
      omega
    · refine ⟨pp, ?_⟩
      rw [hL]
      simp only [go_sem, reduceIte, reduceCtorEq, Nat.reduceEqDiff, Nat.reduceAdd, Nat.reduceSub, Nat.reduceLT, Nat.reduceLeDiff, Nat.reduceBEq, Nat.reduceMul, Nat.reduceBNe, Int.reduceEq, Int.reduceLT, Int.reduceLE, Int.reduceNe, Int.reduceToNat, ir_label_Runes_L0, nxtF, hp, Lib.runeCountFrom]
theorem fn_runes {E : Prog} (hE : Std E fns) (s : ByteArray) (hs : s.size < 9223372036854775807) : callP E f_label_Runes [vs s] = some (vi (Lib.runeCount s)) := by
  obtain ⟨q, h⟩ := runes_loop s (loopL_eq (IR.runL E.glob (callL E) [] ir_label_Runes_L0) (compact [] 1 [3, 5])) s.size 0 0 (by omega) (by omega)
  simp only [Int.natCast_zero, Nat.zero_add] at h
  rw [hE.run rfl rfl]
  simp only [go_sem, reduceIte, reduceCtorEq, Nat.reduceEqDiff, Nat.reduceAdd, Nat.reduceSub, Nat.reduceLT, Nat.reduceLeDiff, Nat.reduceBEq, Nat.reduceMul, Nat.reduceBNe, Int.reduceEq, Int.reduceLT, Int.reduceLE, Int.reduceNe, Int.reduceToNat, ir_label_Runes, h, Lib.runeCount]
theorem good_loop {E : Prog} (hE : Std E fns) {L : Env × Store → Option (Sig × Env × Store)} (s : ByteArray)
    (hL : ∀ e st, L (e, st) = (IR.runL E.glob (callL E) [] ir_label_Good_L0 e st).bind (seqK fun e st => L (compact [] 1 [18] e st))) :
    ∀ (f pp : Nat), s.size - pp ≤ f → ∃ q, L ([(18, .it 0)], [.sit s pp]) = if mayF s f pp = true then some (.exit 0, [], [.sit s q]) else some (.ret, [(2, vb false)], [.sit s q])
  | 0, pp, h => by
    refine ⟨pp, ?_⟩
    have hp : ¬ pp < s.size := by omega
    rw [hL]
    simp only [go_sem, reduceIte, reduceCtorEq, Nat.reduceEqDiff, Nat.reduceAdd, Nat.reduceSub, Nat.reduceLT, Nat.reduceLeDiff, Nat.reduceBEq, Nat.reduceMul, Nat.reduceBNe, Int.reduceEq, Int.reduceLT, Int.reduceLE, Int.reduceNe, Int.reduceToNat, ir_label_Good_L0, nxtF, hp, mayF]
  | f + 1, pp, h => by
    by_cases hp : pp < s.size
    · have hw := Lib.decode_width_pos s pp hp
      obtain ⟨q, ih⟩ := good_loop hE s hL f (pp + (Utf8.decode s pp).2) (by omega)
      have e0 : ((pp : Int) = 0) = (pp = 0) := by simp
      rw [hL]
      simp only [go_sem, reduceIte, reduceCtorEq, Nat.reduceEqDiff, Nat.reduceAdd, Nat.reduceSub, Nat.reduceLT, Nat.reduceLeDiff, Nat.reduceBEq, Nat.reduceMul, Nat.reduceBNe, Int.reduceEq, Int.reduceLT, Int.reduceLE, Int.reduceNe, Int.reduceToNat, ir_label_Good_L0, nxtF, hp, ih, mayF, fn_may hE, fn_letter hE, e0]
      cases c1 : mayS (Utf8.decode s pp).1
      · exact ⟨_, by simp [c1]; rfl⟩
      · by_cases c2 : pp = 0
        · subst c2
          cases c3 : letterS (Utf8.decode s 0).1
          · exact ⟨0 + (Utf8.decode s 0).2, by simp [c3, c1]⟩
          · refine ⟨q, ?_⟩
            simp [c3, c1]
        · exact ⟨q, by simp [c1, c2]⟩
    · refine ⟨pp, ?_⟩
      rw [hL]
      simp only [go_sem, reduceIte, reduceCtorEq, Nat.reduceEqDiff, Nat.reduceAdd, Nat.reduceSub, Nat.reduceLT, Nat.reduceLeDiff, Nat.reduceBEq, Nat.reduceMul, Nat.reduceBNe, Int.reduceEq, Int.reduceLT, Int.reduceLE, Int.reduceNe, Int.reduceToNat, ir_label_Good_L0, nxtF, hp, mayF]
def labelGood (s : ByteArray) : Bool := Lib.validD s.data.toList && decide (s ≠ ⟨#[]⟩) && decide (Lib.runeCount s ≤ 64) && mayF s s.size 0
theorem fn_labelGood {E : Prog} (hE : Std E fns) (hv : ∀ s : ByteArray, s.size < 9223372036854775807 → callP E f_utf8_ValidString [vs s] = some (vb (Lib.validD s.data.toList))) (s : ByteArray) (hs : s.size < 9223372036854775807) :
    callP E f_label_Good [vs s] = some (vb (labelGood s)) := by
  obtain ⟨q, h⟩ := good_loop hE s (loopL_eq (IR.runL E.glob (callL E) [] ir_label_Good_L0) (compact [] 1 [18])) s.size 0 (by omega)
  have h2 := hv s hs
  have h3 := fn_runes hE s hs
  have e1 : ((64 : Int) < (Lib.runeCount s : Int)) = ¬ (Lib.runeCount s ≤ 64) := by simp; omega
  rw [hE.run rfl rfl]
  simp only [go_sem, reduceIte, reduceCtorEq, Nat.reduceEqDiff, Nat.reduceAdd, Nat.reduceSub, Nat.reduceLT, Nat.reduceLeDiff, Nat.reduceBEq, Nat.reduceMul, Nat.reduceBNe, Int.reduceEq, Int.reduceLT, Int.reduceLE, Int.reduceNe, Int.reduceToNat, ir_label_Good, h2, h3, h, e1, labelGood]
  cases Lib.validD s.data.toList
  · simp
  · by_cases c1 : s = ⟨#[]⟩
    · simp [c1]
    · by_cases c2 : Lib.runeCount s ≤ 64
      · cases c3 : mayF s s.size 0 <;> simp only [go_sem, reduceIte, reduceCtorEq, Nat.reduceEqDiff, Nat.reduceAdd, Nat.reduceSub, Nat.reduceLT, Nat.reduceLeDiff, Nat.reduceBEq, Nat.reduceMul, Nat.reduceBNe, Int.reduceEq, Int.reduceLT, Int.reduceLE, Int.reduceNe, Int.reduceToNat, c1, c2, c3]
      · simp [c1, c2]
end Go.Proofs.YtgehbkdpodnajaaDoor.Ev
