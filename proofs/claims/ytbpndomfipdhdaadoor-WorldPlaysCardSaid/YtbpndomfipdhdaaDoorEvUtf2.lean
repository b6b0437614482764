/-
  Names: the document's way; both are the same.
-/
import Derived.Test.YtbpndomfipdhdaaDoorEvSl
import Derived.Test.YtbpndomfipdhdaaDoorEvIR
import Derived.Lib.RuneCount
import Derived.Lib.ValidLaws
import Derived.Lib.DecodeN
set_option linter.unusedVariables false
set_option linter.unusedSimpArgs false
namespace Go.Proofs.YtbpndomfipdhdaaDoor.Ev
attribute [local congr] bind_congr_head
attribute [local go_sem] opd_t opd_c opd_g opd_f opds_nil opds_cons get_cons put_some put_none keep_nil keepC_s keepC_n keep_cons runs_nil runs_cons run_op run_opr run_call run_gand run_gor run_gif seqK_norm seqK_exit seqK_ret blkK_norm blkK_exit blkK_ret runL_skip runL_exit runL_ret runL_items runL_seq runL_cond runL_block runL_loop fin_bind finK_norm finK_ret rvs_nil rvs_cons rv_tmp rv_cell tupOf_one tupOf_nil tupOf_two ev_mov ev_pick ev_alloc ev_box ev_build parts_nil parts_cons fills_nil fills_cons ev_bsl ev_bslo ev_load ev_store ev_nilck ev_bin ev_binb ev_aeq ev_un ev_i2i ev_i2t ev_isnilI nilIF ev_s2b ev_ext ev_fld ev_idxs ev_fa ev_ias ev_len ev_lens ev_s2s ev_mkf ev_rng ev_nxt ev_app bOf_s pvOf_s agOf_s tpOf_s iOf_s sOf_s ite_bind Option.bind_some Option.bind_none if_true if_false ite_true ite_false argEnv_nil argEnv_cons len_av elems_av ias_av cells_av tuple_av AV.tuple AV.cells faF ldAt liveRef aggOf nilckF binV binI binS binB unV Bool.not_true Bool.not_false List.length_nil List.length_cons List.nil_append List.cons_append List.append_nil List.getElem?_cons_zero List.getElem?_cons_succ List.drop_zero List.drop_succ_cons List.drop_nil List.take_zero List.take_succ_cons List.take_nil List.set_cons_zero List.set_cons_succ compact_same compact_new closedB nodupB envIds ids0 upto visit pos sel AV.ids idss idsss Ob.ids AV.ren rens renss Ob.ren renEnv AV.snap snaps stAt okSt putCells List.all_nil List.all_cons List.contains_nil List.contains_cons Bool.and_true Bool.true_and Bool.and_false Bool.false_and Bool.or_true Bool.true_or Bool.or_false Bool.false_or decide_eq_true_eq decide_true decide_false beq_iff_eq bne_iff_ne beq_self_eq_true Bool.not_eq_true' Bool.false_eq_true eq_self and_self and_true true_and and_false false_and or_true true_or or_false false_or not_true_eq_false not_false_eq_true ne_eq Nat.zero_add Nat.add_zero Nat.le_refl Nat.not_lt_zero Nat.lt_irrefl Nat.zero_le Int.toNat_natCast gt_iff_lt ge_iff_le Int.lt_irrefl Int.natCast_nonneg txt_eq get_nil appF elems belows AV.under AV.flat flats List.length_map List.map_append List.map_cons List.map_nil List.length_append take_map_all List.flatten_cons List.flatten_nil bld_nil imp_false false_imp_iff false_implies true_implies implies_true decide_eq_false_iff_not Nat.one_mul Nat.mul_one idsss_app renss_app belowss_app ev_mn ev_mx ev_isnils ev_sls ev_slx evo_none evo_some vals minV maxV minF maxF backId List.getElem?_nil putAll Option.all_none Option.all_some Option.isSome_some intOf aszI compactV_same compactV_new callP_any callQ_eq callN_any boxQ AV.id? ids_avR ren_av under_av snap_av renss_mapf belowss_mapf idsss_mapf isnilsF List.length_eq_zero_iff int_beq int_bne decide_not slx_av Int.toNat_zero ev_mkm ev_lk ev_mup ev_mdl ev_lenm ev_isnilm mpOf_s mapAt_s mapOf_nil mapOf_mp isnilm_nil isnilm_mp lkR Option.getD_some Option.getD_none Option.isSome_none Prim.rdo ev_snp snp_own snp_v exQ_nil exQ_cons exA_ref same_nil same_box same_row same_map sameL_nil sameL_cons sameA_int sameA_bool sameA_str sameA_slice sameA_map sameA_ptr sameA_own sameA_ref sameA_mp callB_eq

/-! ### letters -/
def letterS (c : Int) : Bool := decide (97 ≤ c) && decide (c ≤ 122) || decide (65 ≤ c) && decide (c ≤ 90) || decide (128 ≤ c)
def mayS (c : Int) : Bool := letterS c || decide (48 ≤ c) && decide (c ≤ 57) || decide (c = 45) || decide (c = 95)
theorem fn_letter {E : Prog} (hE : Std E fns) (c : Int) : callP E f_label_letter [.v (.int .i32 c)] = some (vb (letterS c)) := by
  rw [hE.run rfl rfl]
  simp -implicitDefEqProofs only [go_sem, reduceIte, reduceCtorEq, Nat.reduceEqDiff, Nat.reduceAdd, Nat.reduceSub, Nat.reduceLT, Nat.reduceLeDiff, Nat.reduceBEq, Nat.reduceMul, Nat.reduceBNe, Int.reduceEq, Int.reduceLT, Int.reduceLE, Int.reduceNe, Int.reduceToNat, ir_label_letter, letterS]
  by_cases h1 : 97 ≤ c <;> by_cases h2 : c ≤ 122 <;> by_cases h3 : 65 ≤ c <;> by_cases h4 : c ≤ 90 <;> simp [h1, h2, h3, h4]
theorem fn_letterRef {E : Prog} (hE : Std E fns) (c : Int) : callP E f_usufructref02_letter [.v (.int .i32 c)] = some (vb (letterS c)) := by
  rw [hE.run rfl rfl]
  simp -implicitDefEqProofs only [go_sem, reduceIte, reduceCtorEq, Nat.reduceEqDiff, Nat.reduceAdd, Nat.reduceSub, Nat.reduceLT, Nat.reduceLeDiff, Nat.reduceBEq, Nat.reduceMul, Nat.reduceBNe, Int.reduceEq, Int.reduceLT, Int.reduceLE, Int.reduceNe, Int.reduceToNat, ir_usufructref02_letter, letterS]
  by_cases h1 : 97 ≤ c <;> by_cases h2 : c ≤ 122 <;> by_cases h3 : 65 ≤ c <;> by_cases h4 : c ≤ 90 <;> simp [h1, h2, h3, h4]
theorem fn_may {E : Prog} (hE : Std E fns) (c : Int) : callP E f_label_may [.v (.int .i32 c)] = some (vb (mayS c)) := by
  rw [hE.run rfl rfl]
  simp -implicitDefEqProofs only [go_sem, reduceIte, reduceCtorEq, Nat.reduceEqDiff, Nat.reduceAdd, Nat.reduceSub, Nat.reduceLT, Nat.reduceLeDiff, Nat.reduceBEq, Nat.reduceMul, Nat.reduceBNe, Int.reduceEq, Int.reduceLT, Int.reduceLE, Int.reduceNe, Int.reduceToNat, ir_label_may, fn_letter hE, mayS]
  cases letterS c <;> by_cases h1 : 48 ≤ c <;> by_cases h2 : c ≤ 57 <;> by_cases h3 : c = 45 <;> simp [h1, h2, h3]
theorem fn_mayRef {E : Prog} (hE : Std E fns) (c : Int) : callP E f_usufructref02_may [.v (.int .i32 c)] = some (vb (mayS c)) := by
  rw [hE.run rfl rfl]
  simp -implicitDefEqProofs only [go_sem, reduceIte, reduceCtorEq, Nat.reduceEqDiff, Nat.reduceAdd, Nat.reduceSub, Nat.reduceLT, Nat.reduceLeDiff, Nat.reduceBEq, Nat.reduceMul, Nat.reduceBNe, Int.reduceEq, Int.reduceLT, Int.reduceLE, Int.reduceNe, Int.reduceToNat, ir_usufructref02_may, fn_letterRef hE, mayS]
  cases letterS c <;> by_cases h1 : 48 ≤ c <;> by_cases h2 : c ≤ 57 <;> by_cases h3 : c = 45 <;> simp [h1, h2, h3]

/-! ### the program's way -/
def mayF (s : ByteArray) : Nat → Nat → Bool
  | 0, _ => true
  | n + 1, i => if i < s.size then mayS (Utf8.decode s i).1 && (decide (i ≠ 0) || letterS (Utf8.decode s i).1) && mayF s n (i + (Utf8.decode s i).2) else true
def validF (s : ByteArray) : Nat → Nat → Bool
  | 0, _ => true
  | n + 1, i => if i < s.size then decide (Utf8.decode s i ≠ (65533, 1)) && validF s n (i + (Utf8.decode s i).2) else true
theorem runes_loop {G : Nat → Option (List AV)} {raw : Raw} {L : Env × Store → Option (Sig × Env × Store)} (s : ByteArray)
    (hL : ∀ e st, L (e, st) = (IR.runL G raw [] ir_label_Runes_L0 e st).bind (seqK fun e st => L (compact [] 1 [3, 5] e st))) :
    ∀ (f pp n : Nat), s.size - pp ≤ f → n + f < 9223372036854775807 →
    ∃ q, L ([(3, vi n), (5, .it 0)], [.sit s pp]) = some (.exit 0, [(3, vi (n + Lib.runeCountFrom s f pp : Nat))], [.sit s q])
  | 0, pp, n, h, hn => by
    refine ⟨pp, ?_⟩
    have hp : ¬ pp < s.size := by omega
    rw [hL]
    simp -implicitDefEqProofs only [go_sem, reduceIte, reduceCtorEq, Nat.reduceEqDiff, Nat.reduceAdd, Nat.reduceSub, Nat.reduceLT, Nat.reduceLeDiff, Nat.reduceBEq, Nat.reduceMul, Nat.reduceBNe, Int.reduceEq, Int.reduceLT, Int.reduceLE, Int.reduceNe, Int.reduceToNat, ir_label_Runes_L0, nxtF, hp, Lib.runeCountFrom]
  | f + 1, pp, n, h, hn => by
    by_cases hp : pp < s.size
    · have hw := Lib.decode_width_pos s pp hp
      obtain ⟨q, ih⟩ := runes_loop s hL f (pp + (Utf8.decode s pp).2) (n + 1) (by omega) (by omega)
      refine ⟨q, ?_⟩
      have h6 := wrap_succ (i := n) (by omega)
      rw [hL]
      simp -implicitDefEqProofs only [go_sem, reduceIte, reduceCtorEq, Nat.reduceEqDiff, Nat.reduceAdd, Nat.reduceSub, Nat.reduceLT, Nat.reduceLeDiff, Nat.reduceBEq, Nat.reduceMul, Nat.reduceBNe, Int.reduceEq, Int.reduceLT, Int.reduceLE, Int.reduceNe, Int.reduceToNat, ir_label_Runes_L0, nxtF, hp, h6, ih, Lib.runeCountFrom]
      congr 6
      omega
    · refine ⟨pp, ?_⟩
      rw [hL]
      simp -implicitDefEqProofs only [go_sem, reduceIte, reduceCtorEq, Nat.reduceEqDiff, Nat.reduceAdd, Nat.reduceSub, Nat.reduceLT, Nat.reduceLeDiff, Nat.reduceBEq, Nat.reduceMul, Nat.reduceBNe, Int.reduceEq, Int.reduceLT, Int.reduceLE, Int.reduceNe, Int.reduceToNat, ir_label_Runes_L0, nxtF, hp, Lib.runeCountFrom]
theorem fn_runes {E : Prog} (hE : Std E fns) (s : ByteArray) (hs : s.size < 9223372036854775807) : callP E f_label_Runes [vs s] = some (vi (Lib.runeCount s)) := by
  obtain ⟨q, h⟩ := runes_loop s (loopL_eq (IR.runL E.glob (callL E) [] ir_label_Runes_L0) (compact [] 1 [3, 5])) s.size 0 0 (by omega) (by omega)
  simp only [Int.natCast_zero, Nat.zero_add] at h
  rw [hE.run rfl rfl]
  simp -implicitDefEqProofs only [go_sem, reduceIte, reduceCtorEq, Nat.reduceEqDiff, Nat.reduceAdd, Nat.reduceSub, Nat.reduceLT, Nat.reduceLeDiff, Nat.reduceBEq, Nat.reduceMul, Nat.reduceBNe, Int.reduceEq, Int.reduceLT, Int.reduceLE, Int.reduceNe, Int.reduceToNat, ir_label_Runes, h, Lib.runeCount]
theorem good_loop {E : Prog} (hE : Std E fns) {L : Env × Store → Option (Sig × Env × Store)} (s : ByteArray)
    (hL : ∀ e st, L (e, st) = (IR.runL E.glob (callL E) [] ir_label_Good_L0 e st).bind (seqK fun e st => L (compact [] 1 [18] e st))) :
    ∀ (f pp : Nat), s.size - pp ≤ f → ∃ q, L ([(18, .it 0)], [.sit s pp]) = if mayF s f pp = true then some (.exit 0, [], [.sit s q]) else some (.ret, [(2, vb false)], [.sit s q])
  | 0, pp, h => by
    refine ⟨pp, ?_⟩
    have hp : ¬ pp < s.size := by omega
    rw [hL]
    simp -implicitDefEqProofs only [go_sem, reduceIte, reduceCtorEq, Nat.reduceEqDiff, Nat.reduceAdd, Nat.reduceSub, Nat.reduceLT, Nat.reduceLeDiff, Nat.reduceBEq, Nat.reduceMul, Nat.reduceBNe, Int.reduceEq, Int.reduceLT, Int.reduceLE, Int.reduceNe, Int.reduceToNat, ir_label_Good_L0, nxtF, hp, mayF]
  | f + 1, pp, h => by
    by_cases hp : pp < s.size
    · have hw := Lib.decode_width_pos s pp hp
      obtain ⟨q, ih⟩ := good_loop hE s hL f (pp + (Utf8.decode s pp).2) (by omega)
      have e0 : ((pp : Int) = 0) = (pp = 0) := by simp
      rw [hL]
      simp -implicitDefEqProofs only [go_sem, reduceIte, reduceCtorEq, Nat.reduceEqDiff, Nat.reduceAdd, Nat.reduceSub, Nat.reduceLT, Nat.reduceLeDiff, Nat.reduceBEq, Nat.reduceMul, Nat.reduceBNe, Int.reduceEq, Int.reduceLT, Int.reduceLE, Int.reduceNe, Int.reduceToNat, ir_label_Good_L0, nxtF, hp, ih, mayF, fn_may hE, fn_letter hE, e0]
      cases c1 : mayS (Utf8.decode s pp).1
      · exact ⟨_, by simp [c1]; rfl⟩
      · by_cases c2 : pp = 0
        · subst c2
          cases c3 : letterS (Utf8.decode s 0).1
          · exact ⟨0 + (Utf8.decode s 0).2, by simp [c3, c1]⟩
          · refine ⟨q, ?_⟩
            simp [c3, c1]
        · exact ⟨q, by simp [c1, c2]⟩
    · refine ⟨pp, ?_⟩
      rw [hL]
      simp -implicitDefEqProofs only [go_sem, reduceIte, reduceCtorEq, Nat.reduceEqDiff, Nat.reduceAdd, Nat.reduceSub, Nat.reduceLT, Nat.reduceLeDiff, Nat.reduceBEq, Nat.reduceMul, Nat.reduceBNe, Int.reduceEq, Int.reduceLT, Int.reduceLE, Int.reduceNe, Int.reduceToNat, ir_label_Good_L0, nxtF, hp, mayF]
def labelGood (s : ByteArray) : Bool := Lib.validD s.data.toList && decide (s ≠ ⟨#[]⟩) && decide (Lib.runeCount s ≤ 64) && mayF s s.size 0
theorem fn_labelGood {E : Prog} (hE : Std E fns) (hv : ∀ s : ByteArray, s.size < 9223372036854775807 → callP E f_utf8_ValidString [vs s] = some (vb (Lib.validD s.data.toList))) (s : ByteArray) (hs : s.size < 9223372036854775807) :
    callP E f_label_Good [vs s] = some (vb (labelGood s)) := by
  obtain ⟨q, h⟩ := good_loop hE s (loopL_eq (IR.runL E.glob (callL E) [] ir_label_Good_L0) (compact [] 1 [18])) s.size 0 (by omega)
  have h2 := hv s hs
  have h3 := fn_runes hE s hs
  have e1 : ((64 : Int) < (Lib.runeCount s : Int)) = ¬ (Lib.runeCount s ≤ 64) := by simp; omega
  rw [hE.run rfl rfl]
  simp -implicitDefEqProofs only [go_sem, reduceIte, reduceCtorEq, Nat.reduceEqDiff, Nat.reduceAdd, Nat.reduceSub, Nat.reduceLT, Nat.reduceLeDiff, Nat.reduceBEq, Nat.reduceMul, Nat.reduceBNe, Int.reduceEq, Int.reduceLT, Int.reduceLE, Int.reduceNe, Int.reduceToNat, ir_label_Good, h2, h3, h, e1, labelGood]
  cases Lib.validD s.data.toList
  · simp
  · by_cases c1 : s = ⟨#[]⟩
    · simp [c1]
    · by_cases c2 : Lib.runeCount s ≤ 64
      · cases c3 : mayF s s.size 0 <;> simp -implicitDefEqProofs only [go_sem, reduceIte, reduceCtorEq, Nat.reduceEqDiff, Nat.reduceAdd, Nat.reduceSub, Nat.reduceLT, Nat.reduceLeDiff, Nat.reduceBEq, Nat.reduceMul, Nat.reduceBNe, Int.reduceEq, Int.reduceLT, Int.reduceLE, Int.reduceNe, Int.reduceToNat, c1, c2, c3]
      · simp [c1, c2]
end Go.Proofs.YtbpndomfipdhdaaDoor.Ev
set_option linter.unusedVariables false
set_option linter.unusedSimpArgs false
namespace Go.Proofs.YtbpndomfipdhdaaDoor.Ev
attribute [local congr] bind_congr_head
attribute [local go_sem] opd_t opd_c opd_g opd_f opds_nil opds_cons get_cons put_some put_none keep_nil keepC_s keepC_n keep_cons runs_nil runs_cons run_op run_opr run_call run_gand run_gor run_gif seqK_norm seqK_exit seqK_ret blkK_norm blkK_exit blkK_ret runL_skip runL_exit runL_ret runL_items runL_seq runL_cond runL_block runL_loop fin_bind finK_norm finK_ret rvs_nil rvs_cons rv_tmp rv_cell tupOf_one tupOf_nil tupOf_two ev_mov ev_pick ev_alloc ev_box ev_build parts_nil parts_cons fills_nil fills_cons ev_bsl ev_bslo ev_load ev_store ev_nilck ev_bin ev_binb ev_aeq ev_un ev_i2i ev_i2t ev_isnilI nilIF ev_s2b ev_ext ev_fld ev_idxs ev_fa ev_ias ev_len ev_lens ev_s2s ev_mkf ev_rng ev_nxt ev_app bOf_s pvOf_s agOf_s tpOf_s iOf_s sOf_s ite_bind Option.bind_some Option.bind_none if_true if_false ite_true ite_false argEnv_nil argEnv_cons len_av elems_av ias_av cells_av tuple_av AV.tuple AV.cells faF ldAt liveRef aggOf nilckF binV binI binS binB unV Bool.not_true Bool.not_false List.length_nil List.length_cons List.nil_append List.cons_append List.append_nil List.getElem?_cons_zero List.getElem?_cons_succ List.drop_zero List.drop_succ_cons List.drop_nil List.take_zero List.take_succ_cons List.take_nil List.set_cons_zero List.set_cons_succ compact_same compact_new closedB nodupB envIds ids0 upto visit pos sel AV.ids idss idsss Ob.ids AV.ren rens renss Ob.ren renEnv AV.snap snaps stAt okSt putCells List.all_nil List.all_cons List.contains_nil List.contains_cons Bool.and_true Bool.true_and Bool.and_false Bool.false_and Bool.or_true Bool.true_or Bool.or_false Bool.false_or decide_eq_true_eq decide_true decide_false beq_iff_eq bne_iff_ne beq_self_eq_true Bool.not_eq_true' Bool.false_eq_true eq_self and_self and_true true_and and_false false_and or_true true_or or_false false_or not_true_eq_false not_false_eq_true ne_eq Nat.zero_add Nat.add_zero Nat.le_refl Nat.not_lt_zero Nat.lt_irrefl Nat.zero_le Int.toNat_natCast gt_iff_lt ge_iff_le Int.lt_irrefl Int.natCast_nonneg txt_eq get_nil appF elems belows AV.under AV.flat flats List.length_map List.map_append List.map_cons List.map_nil List.length_append take_map_all List.flatten_cons List.flatten_nil bld_nil imp_false false_imp_iff false_implies true_implies implies_true decide_eq_false_iff_not Nat.one_mul Nat.mul_one idsss_app renss_app belowss_app ev_mn ev_mx ev_isnils ev_sls ev_slx evo_none evo_some vals minV maxV minF maxF backId List.getElem?_nil putAll Option.all_none Option.all_some Option.isSome_some intOf aszI compactV_same compactV_new callP_any callQ_eq callN_any boxQ AV.id? ids_avR ren_av under_av snap_av renss_mapf belowss_mapf idsss_mapf isnilsF List.length_eq_zero_iff int_beq int_bne decide_not slx_av Int.toNat_zero ev_mkm ev_lk ev_mup ev_mdl ev_lenm ev_isnilm mpOf_s mapAt_s mapOf_nil mapOf_mp isnilm_nil isnilm_mp lkR Option.getD_some Option.getD_none Option.isSome_none Prim.rdo ev_snp snp_own snp_v exQ_nil exQ_cons exA_ref same_nil same_box same_row same_map sameL_nil sameL_cons sameA_int sameA_bool sameA_str sameA_slice sameA_map sameA_ptr sameA_own sameA_ref sameA_mp callB_eq

theorem byteAt_nat {s : ByteArray} {i : Nat} (h : i < s.size) : byteAt s (i : Int) = some ((s.get! i).toNat : Int) := by
  unfold byteAt
  rw [dif_pos ⟨by omega, by simpa using h⟩]
  congr 3
  have : s.get! i = s[i] := by
    cases s with
    | mk d => show d[i]! = d[i]; rw [getElem!_pos d i h]
  rw [this]
  congr 1
/-- The bytes behind the first one. -/
def contS (s : ByteArray) : Nat → Nat → Int → Option Int
  | _, 0, v => some v
  | p, m + 1, v => if (s.get! p).toNat < 128 ∨ (s.get! p).toNat > 191 then none else contS s (p + 1) m (64 * v + (s.get! p).toNat - 128)
theorem i32_in {n : Int} (h : -2147483648 ≤ n ∧ n ≤ 2147483647) : IntKind.i32.wrap n = n := by rw [IntKind.wrap_i32]; omega
theorem at_loop {G : Nat → Option (List AV)} {raw : Raw} {L : Env × Store → Option (Sig × Env × Store)} (s : ByteArray) (i n : Nat) (least : Int) (hn : i + n ≤ s.size) (hn4 : n ≤ 4) (hi : s.size < 9223372036854775807)
    (hL : ∀ e st, L (e, st) = (IR.runL G raw [] ir_usufructref02_At_L0 e st).bind (seqK fun e st => L (compact [] 0 [0, 1, 7, 8, 9, 10] e st))) :
    ∀ (m k : Nat) (v : Int), k + m = n → 1 ≤ k → 0 ≤ v → v < 64 ^ (4 - m) →
    L ([(0, vs s), (1, vi i), (7, vi n), (8, .v (.int .i32 v)), (9, .v (.int .i32 least)), (10, vi k)], []) = match contS s (i + k) m v with
      | some v' => some (.exit 0, [(7, vi n), (8, .v (.int .i32 v')), (9, .v (.int .i32 least))], [])
      | none => some (.ret, [(4, .v (.int .i32 0)), (5, vi 0)], [])
  | 0, k, v, h, hk, h0, hv => by
    have e : ¬ ((k : Int) < (n : Int)) := by omega
    rw [hL]
    simp -implicitDefEqProofs only [go_sem, reduceIte, reduceCtorEq, Nat.reduceEqDiff, Nat.reduceAdd, Nat.reduceSub, Nat.reduceLT, Nat.reduceLeDiff, Nat.reduceBEq, Nat.reduceMul, Nat.reduceBNe, Int.reduceEq, Int.reduceLT, Int.reduceLE, Int.reduceNe, Int.reduceToNat, ir_usufructref02_At_L0, e, contS]
  | m + 1, k, v, h, hk, h0, hv => by
    have e : (k : Int) < (n : Int) := by omega
    have hlt : i + k < s.size := by omega
    have hb := byteAt_nat hlt
    have hw : IntKind.i64.wrap ((i : Int) + (k : Int)) = ((i + k : Nat) : Int) := by rw [IntWalk.i64_in _ (by omega)]; omega
    have h6 := wrap_succ (i := k) (by omega)
    have hbyte : (s.get! (i + k)).toNat < 256 := UInt8.toNat_lt _
    have h64 : v < 262144 := by
      have : (64 : Int) ^ (4 - (m + 1)) ≤ 64 ^ 3 := by
        have h1 : 4 - (m + 1) = 3 ∨ 4 - (m + 1) = 2 ∨ 4 - (m + 1) = 1 ∨ 4 - (m + 1) = 0 := by omega
        rcases h1 with h1 | h1 | h1 | h1 <;> rw [h1] <;> decide
      have h2 : (64 : Int) ^ 3 = 262144 := by decide
      omega
    rw [hL]
    by_cases c : (s.get! (i + k)).toNat < 128
    · have c1 : ((s.get! (i + k)).toNat : Int) < 128 := by omega
      simp -implicitDefEqProofs only [go_sem, reduceIte, reduceCtorEq, Nat.reduceEqDiff, Nat.reduceAdd, Nat.reduceSub, Nat.reduceLT, Nat.reduceLeDiff, Nat.reduceBEq, Nat.reduceMul, Nat.reduceBNe, Int.reduceEq, Int.reduceLT, Int.reduceLE, Int.reduceNe, Int.reduceToNat, ir_usufructref02_At_L0, e, contS, hb, hw, c1, c]
    · by_cases d : (s.get! (i + k)).toNat > 191
      · have c1 : ¬ ((s.get! (i + k)).toNat : Int) < 128 := by omega
        have d1 : (191 : Int) < ((s.get! (i + k)).toNat : Int) := by omega
        simp only [gt_iff_lt] at d
        simp -implicitDefEqProofs only [go_sem, reduceIte, reduceCtorEq, Nat.reduceEqDiff, Nat.reduceAdd, Nat.reduceSub, Nat.reduceLT, Nat.reduceLeDiff, Nat.reduceBEq, Nat.reduceMul, Nat.reduceBNe, Int.reduceEq, Int.reduceLT, Int.reduceLE, Int.reduceNe, Int.reduceToNat, ir_usufructref02_At_L0, e, contS, hb, hw, c1, c, d, d1]
      · have c1 : ¬ ((s.get! (i + k)).toNat : Int) < 128 := by omega
        have d1 : ¬ (191 : Int) < ((s.get! (i + k)).toNat : Int) := by omega
        have w1 : IntKind.i32.wrap (64 * v) = 64 * v := i32_in (by omega)
        have w2 : IntKind.i32.wrap ((s.get! (i + k)).toNat : Int) = ((s.get! (i + k)).toNat : Int) := i32_in (by omega)
        have w3 : IntKind.i32.wrap (64 * v + ((s.get! (i + k)).toNat : Int)) = 64 * v + ((s.get! (i + k)).toNat : Int) := i32_in (by omega)
        have w4 : IntKind.i32.wrap (64 * v + ((s.get! (i + k)).toNat : Int) - 128) = 64 * v + ((s.get! (i + k)).toNat : Int) - 128 := i32_in (by omega)
        have hv2 : 64 * v + ((s.get! (i + k)).toNat : Int) - 128 < 64 ^ (4 - m) := by
          have h1 : (4 - (m + 1) = 3 ∧ 4 - m = 4) ∨ (4 - (m + 1) = 2 ∧ 4 - m = 3) ∨ (4 - (m + 1) = 1 ∧ 4 - m = 2) ∨ (4 - (m + 1) = 0 ∧ 4 - m = 1) := by omega
          rcases h1 with ⟨a1, a2⟩ | ⟨a1, a2⟩ | ⟨a1, a2⟩ | ⟨a1, a2⟩ <;> rw [a1] at hv <;> rw [a2] <;> simp only [Int.reducePow] at hv ⊢ <;> omega
        have ih := at_loop s i n least hn hn4 hi hL m (k + 1) (64 * v + ((s.get! (i + k)).toNat : Int) - 128) (by omega) (by omega) (by omega) hv2
        rw [← Nat.add_assoc] at ih
        simp only [gt_iff_lt] at d
        simp -implicitDefEqProofs only [go_sem, reduceIte, reduceCtorEq, Nat.reduceEqDiff, Nat.reduceAdd, Nat.reduceSub, Nat.reduceLT, Nat.reduceLeDiff, Nat.reduceBEq, Nat.reduceMul, Nat.reduceBNe, Int.reduceEq, Int.reduceLT, Int.reduceLE, Int.reduceNe, Int.reduceToNat, ir_usufructref02_At_L0, e, contS, hb, hw, c1, c, d, d1, w1, w2, w3, w4, h6, ih]
/-- What the document's At answers. -/
def atS (s : ByteArray) (i : Nat) : Int × Int := if Utf8.decode s i = (65533, 1) then (0, 0) else ((Utf8.decode s i).1, (Utf8.decode s i).2)
/-- The document's At, in plain words. -/
def atGo (s : ByteArray) (i : Nat) : Int × Int :=
  if (s.get! i).toNat < 128 then ((s.get! i).toNat, 1)
  else if 194 ≤ (s.get! i).toNat ∧ (s.get! i).toNat ≤ 223 then (if i + 2 > s.size then (0, 0) else match contS s (i + 1) 1 ((s.get! i).toNat - 192) with
    | none => (0, 0)
    | some v => if v < 128 ∨ v > 1114111 ∨ (55296 ≤ v ∧ v ≤ 57343) then (0, 0) else (v, 2))
  else if 224 ≤ (s.get! i).toNat ∧ (s.get! i).toNat ≤ 239 then (if i + 3 > s.size then (0, 0) else match contS s (i + 1) 2 ((s.get! i).toNat - 224) with
    | none => (0, 0)
    | some v => if v < 2048 ∨ v > 1114111 ∨ (55296 ≤ v ∧ v ≤ 57343) then (0, 0) else (v, 3))
  else if 240 ≤ (s.get! i).toNat ∧ (s.get! i).toNat ≤ 244 then (if i + 4 > s.size then (0, 0) else match contS s (i + 1) 3 ((s.get! i).toNat - 240) with
    | none => (0, 0)
    | some v => if v < 65536 ∨ v > 1114111 ∨ (55296 ≤ v ∧ v ≤ 57343) then (0, 0) else (v, 4))
  else (0, 0)
set_option maxHeartbeats 4000000 in
theorem atGo_eq (s : ByteArray) (i : Nat) (h : i < s.size) : atGo s i = atS s i := by
  have b0 : (s.get! i).toNat < 256 := UInt8.toNat_lt _
  have b1 : (s.get! (i + 1)).toNat < 256 := UInt8.toNat_lt _
  have b2 : (s.get! (i + 2)).toNat < 256 := UInt8.toNat_lt _
  have b3 : (s.get! (i + 3)).toNat < 256 := UInt8.toNat_lt _
  unfold atS atGo
  rw [Lib.decode_at]
  simp only [contS, show i + 1 + 1 = i + 2 from rfl, show i + 2 + 1 = i + 3 from rfl, Lib.decodeN]
  generalize (s.get! i).toNat = x0 at *
  generalize (s.get! (i + 1)).toNat = x1 at *
  generalize (s.get! (i + 2)).toNat = x2 at *
  generalize (s.get! (i + 3)).toNat = x3 at *
  by_cases c0 : x0 < 128
  · have : ¬ (x0 = 65533) := by omega
    simp [c0, this]
  · by_cases c1 : 194 ≤ x0 ∧ x0 ≤ 223
    · have e1 : x0 / 32 = 6 := by omega
      simp only [c0, c1, e1, if_true, if_false, true_and, and_self]
      by_cases d : i + 2 > s.size
      · have : ¬ (1 < s.size - i) := by omega
        have q1 : ¬ x0 / 16 = 14 := by omega
        have q2 : ¬ x0 / 8 = 30 := by omega
        simp [d, this, q1, q2]
      · have d1 : 1 < s.size - i := by omega
        by_cases f : x1 < 128 ∨ x1 > 191
        · have f1 : ¬ x1 / 64 = 2 := by omega
          have q1 : ¬ x0 / 16 = 14 := by omega
          have q2 : ¬ x0 / 8 = 30 := by omega
          simp [d, f, f1, q1, q2]
        · have f1 : x1 / 64 = 2 := by omega
          have g1 : x0 % 32 * 64 + x1 % 64 ≥ 128 := by omega
          have g2 : ¬ ((64 * ((x0 : Int) - 192) + x1 - 128 < 128) ∨ (64 * ((x0 : Int) - 192) + x1 - 128 > 1114111) ∨ (55296 ≤ 64 * ((x0 : Int) - 192) + x1 - 128 ∧ 64 * ((x0 : Int) - 192) + x1 - 128 ≤ 57343)) := by omega
          have g3 : ¬ ((x0 % 32 * 64 + x1 % 64, 2) = ((65533, 1) : Nat × Nat)) := by simp
          simp only [d, f, f1, d1, g1, g2, g3, if_true, if_false, and_self]
          congr 1
          omega
    · simp only [c0, c1, if_false]
      by_cases c2 : 224 ≤ x0 ∧ x0 ≤ 239
      · have e1 : ¬ x0 / 32 = 6 := by omega
        have e2 : x0 / 16 = 14 := by omega
        have q2 : ¬ x0 / 8 = 30 := by omega
        simp only [c2, e1, e2, q2, if_true, if_false, true_and, and_self, false_and]
        by_cases d : i + 3 > s.size
        · have : ¬ (2 < s.size - i) := by omega
          simp [d, this]
        · have d1 : 1 < s.size - i := by omega
          have d2 : 2 < s.size - i := by omega
          by_cases f : x1 < 128 ∨ x1 > 191
          · have f1 : ¬ x1 / 64 = 2 := by omega
            simp [d, f, f1]
          · have f1 : x1 / 64 = 2 := by omega
            by_cases f2 : x2 < 128 ∨ x2 > 191
            · have f3 : ¬ x2 / 64 = 2 := by omega
              simp [d, f, f1, f2, f3]
            · have f3 : x2 / 64 = 2 := by omega
              by_cases g : x0 % 16 * 4096 + x1 % 64 * 64 + x2 % 64 ≥ 2048 ∧ (x0 % 16 * 4096 + x1 % 64 * 64 + x2 % 64 < 55296 ∨ (57344 ≤ x0 % 16 * 4096 + x1 % 64 * 64 + x2 % 64 ∧ x0 % 16 * 4096 + x1 % 64 * 64 + x2 % 64 ≤ 1114111))
              · have g2 : ¬ ((64 * (64 * ((x0 : Int) - 224) + x1 - 128) + x2 - 128 < 2048) ∨ (64 * (64 * ((x0 : Int) - 224) + x1 - 128) + x2 - 128 > 1114111) ∨ (55296 ≤ 64 * (64 * ((x0 : Int) - 224) + x1 - 128) + x2 - 128 ∧ 64 * (64 * ((x0 : Int) - 224) + x1 - 128) + x2 - 128 ≤ 57343)) := by omega
                have g3 : ¬ ((x0 % 16 * 4096 + x1 % 64 * 64 + x2 % 64, 3) = ((65533, 1) : Nat × Nat)) := by simp
                simp only [d, f, f1, f2, f3, d1, d2, g, g2, g3, if_true, if_false, and_self]
                congr 1
                omega
              · have g2 : ((64 * (64 * ((x0 : Int) - 224) + x1 - 128) + x2 - 128 < 2048) ∨ (64 * (64 * ((x0 : Int) - 224) + x1 - 128) + x2 - 128 > 1114111) ∨ (55296 ≤ 64 * (64 * ((x0 : Int) - 224) + x1 - 128) + x2 - 128 ∧ 64 * (64 * ((x0 : Int) - 224) + x1 - 128) + x2 - 128 ≤ 57343)) := by omega
                simp only [d, f, f1, f2, f3, d1, d2, g, g2, if_true, if_false, and_self]
      · simp only [c2, if_false]
        by_cases c3 : 240 ≤ x0 ∧ x0 ≤ 244
        · have e1 : ¬ x0 / 32 = 6 := by omega
          have e2 : ¬ x0 / 16 = 14 := by omega
          have q2 : x0 / 8 = 30 := by omega
          simp only [c3, e1, e2, q2, if_true, if_false, true_and, and_self, false_and]
          by_cases d : i + 4 > s.size
          · have : ¬ (3 < s.size - i) := by omega
            simp [d, this]
          · have d1 : 1 < s.size - i := by omega
            have d2 : 2 < s.size - i := by omega
            have d3 : 3 < s.size - i := by omega
            by_cases f : x1 < 128 ∨ x1 > 191
            · have f1 : ¬ x1 / 64 = 2 := by omega
              simp [d, f, f1]
            · have f1 : x1 / 64 = 2 := by omega
              by_cases f2 : x2 < 128 ∨ x2 > 191
              · have f3 : ¬ x2 / 64 = 2 := by omega
                simp [d, f, f1, f2, f3]
              · have f3 : x2 / 64 = 2 := by omega
                by_cases f4 : x3 < 128 ∨ x3 > 191
                · have f5 : ¬ x3 / 64 = 2 := by omega
                  simp [d, f, f1, f2, f3, f4, f5]
                · have f5 : x3 / 64 = 2 := by omega
                  by_cases g : x0 % 8 * 262144 + x1 % 64 * 4096 + x2 % 64 * 64 + x3 % 64 ≥ 65536 ∧ (x0 % 8 * 262144 + x1 % 64 * 4096 + x2 % 64 * 64 + x3 % 64 < 55296 ∨ (57344 ≤ x0 % 8 * 262144 + x1 % 64 * 4096 + x2 % 64 * 64 + x3 % 64 ∧ x0 % 8 * 262144 + x1 % 64 * 4096 + x2 % 64 * 64 + x3 % 64 ≤ 1114111))
                  · have g2 : ¬ ((64 * (64 * (64 * ((x0 : Int) - 240) + x1 - 128) + x2 - 128) + x3 - 128 < 65536) ∨ (64 * (64 * (64 * ((x0 : Int) - 240) + x1 - 128) + x2 - 128) + x3 - 128 > 1114111) ∨ (55296 ≤ 64 * (64 * (64 * ((x0 : Int) - 240) + x1 - 128) + x2 - 128) + x3 - 128 ∧ 64 * (64 * (64 * ((x0 : Int) - 240) + x1 - 128) + x2 - 128) + x3 - 128 ≤ 57343)) := by omega
                    have g3 : ¬ ((x0 % 8 * 262144 + x1 % 64 * 4096 + x2 % 64 * 64 + x3 % 64, 4) = ((65533, 1) : Nat × Nat)) := by simp
                    simp only [d, f, f1, f2, f3, f4, f5, d1, d2, d3, g, g2, g3, if_true, if_false, and_self]
                    congr 1
                    omega
                  · have g2 : ((64 * (64 * (64 * ((x0 : Int) - 240) + x1 - 128) + x2 - 128) + x3 - 128 < 65536) ∨ (64 * (64 * (64 * ((x0 : Int) - 240) + x1 - 128) + x2 - 128) + x3 - 128 > 1114111) ∨ (55296 ≤ 64 * (64 * (64 * ((x0 : Int) - 240) + x1 - 128) + x2 - 128) + x3 - 128 ∧ 64 * (64 * (64 * ((x0 : Int) - 240) + x1 - 128) + x2 - 128) + x3 - 128 ≤ 57343)) := by omega
                    simp only [d, f, f1, f2, f3, f4, f5, d1, d2, d3, g, g2, if_true, if_false, and_self]
        · simp only [c3, if_false]
          by_cases e1 : x0 / 32 = 6
          · have k1 : x0 = 192 ∨ x0 = 193 := by omega
            have k2 : ¬ (x0 % 32 * 64 + x1 % 64 ≥ 128) := by omega
            have e2 : ¬ x0 / 16 = 14 := by omega
            have q2 : ¬ x0 / 8 = 30 := by omega
            simp only [e1, e2, q2, k2, if_false, true_and, false_and]
            split <;> rfl
          · have e2 : ¬ x0 / 16 = 14 := by omega
            by_cases q2 : x0 / 8 = 30
            · have k2 : ¬ (x0 % 8 * 262144 + x1 % 64 * 4096 + x2 % 64 * 64 + x3 % 64 ≥ 65536 ∧ (x0 % 8 * 262144 + x1 % 64 * 4096 + x2 % 64 * 64 + x3 % 64 < 55296 ∨ (57344 ≤ x0 % 8 * 262144 + x1 % 64 * 4096 + x2 % 64 * 64 + x3 % 64 ∧ x0 % 8 * 262144 + x1 % 64 * 4096 + x2 % 64 * 64 + x3 % 64 ≤ 1114111))) := by omega
              simp only [e1, e2, q2, k2, if_false, true_and, false_and]
              split <;> rfl
            · simp only [e1, e2, q2, if_false, false_and]
              rfl
end Go.Proofs.YtbpndomfipdhdaaDoor.Ev
