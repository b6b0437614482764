/-
  Names: the document's Good is the program's.
-/
import Derived.Test.YtbpndomfipdhdaaDoorEvUtf2
set_option linter.unusedVariables false
set_option linter.unusedSimpArgs false
namespace Go.Proofs.YtbpndomfipdhdaaDoor.Ev
attribute [local congr] bind_congr_head
attribute [local go_sem] opd_t opd_c opd_g opd_f opds_nil opds_cons get_cons put_some put_none keep_nil keepC_s keepC_n keep_cons runs_nil runs_cons run_op run_opr run_call run_gand run_gor run_gif seqK_norm seqK_exit seqK_ret blkK_norm blkK_exit blkK_ret runL_skip runL_exit runL_ret runL_items runL_seq runL_cond runL_block runL_loop fin_bind finK_norm finK_ret rvs_nil rvs_cons rv_tmp rv_cell tupOf_one tupOf_nil tupOf_two ev_mov ev_pick ev_alloc ev_box ev_build parts_nil parts_cons fills_nil fills_cons ev_bsl ev_bslo ev_load ev_store ev_nilck ev_bin ev_binb ev_aeq ev_un ev_i2i ev_i2t ev_isnilI nilIF ev_s2b ev_ext ev_fld ev_idxs ev_fa ev_ias ev_len ev_lens ev_s2s ev_mkf ev_rng ev_nxt ev_app bOf_s pvOf_s agOf_s tpOf_s iOf_s sOf_s ite_bind Option.bind_some Option.bind_none if_true if_false ite_true ite_false argEnv_nil argEnv_cons len_av elems_av ias_av cells_av tuple_av AV.tuple AV.cells faF ldAt liveRef aggOf nilckF binV binI binS binB unV Bool.not_true Bool.not_false List.length_nil List.length_cons List.nil_append List.cons_append List.append_nil List.getElem?_cons_zero List.getElem?_cons_succ List.drop_zero List.drop_succ_cons List.drop_nil List.take_zero List.take_succ_cons List.take_nil List.set_cons_zero List.set_cons_succ compact_same compact_new closedB nodupB envIds ids0 upto visit pos sel AV.ids idss idsss Ob.ids AV.ren rens renss Ob.ren renEnv AV.snap snaps stAt okSt putCells List.all_nil List.all_cons List.contains_nil List.contains_cons Bool.and_true Bool.true_and Bool.and_false Bool.false_and Bool.or_true Bool.true_or Bool.or_false Bool.false_or decide_eq_true_eq decide_true decide_false beq_iff_eq bne_iff_ne beq_self_eq_true Bool.not_eq_true' Bool.false_eq_true eq_self and_self and_true true_and and_false false_and or_true true_or or_false false_or not_true_eq_false not_false_eq_true ne_eq Nat.zero_add Nat.add_zero Nat.le_refl Nat.not_lt_zero Nat.lt_irrefl Nat.zero_le Int.toNat_natCast gt_iff_lt ge_iff_le Int.lt_irrefl Int.natCast_nonneg txt_eq get_nil appF elems belows AV.under AV.flat flats List.length_map List.map_append List.map_cons List.map_nil List.length_append take_map_all List.flatten_cons List.flatten_nil bld_nil imp_false false_imp_iff false_implies true_implies implies_true decide_eq_false_iff_not Nat.one_mul Nat.mul_one idsss_app renss_app belowss_app ev_mn ev_mx ev_isnils ev_sls ev_slx evo_none evo_some vals minV maxV minF maxF backId List.getElem?_nil putAll Option.all_none Option.all_some Option.isSome_some intOf aszI compactV_same compactV_new callP_any callQ_eq callN_any boxQ AV.id? ids_avR ren_av under_av snap_av renss_mapf belowss_mapf idsss_mapf isnilsF List.length_eq_zero_iff int_beq int_bne decide_not slx_av Int.toNat_zero ev_mkm ev_lk ev_mup ev_mdl ev_lenm ev_isnilm mpOf_s mapAt_s mapOf_nil mapOf_mp isnilm_nil isnilm_mp lkR Option.getD_some Option.getD_none Option.isSome_none Prim.rdo ev_snp snp_own snp_v exQ_nil exQ_cons exA_ref same_nil same_box same_row same_map sameL_nil sameL_cons sameA_int sameA_bool sameA_str sameA_slice sameA_map sameA_ptr sameA_own sameA_ref sameA_mp callB_eq

/-- What the last lines of At answer. -/
def atEnd (v least : Int) (n : Int) : AV := if v < least ∨ v > 1114111 ∨ (55296 ≤ v ∧ v ≤ 57343) then .tup [.v (.int .i32 0), vi 0] else .tup [.v (.int .i32 v), vi n]
set_option maxHeartbeats 4000000 in
theorem fn_atGo {E : Prog} (hE : Std E fns) (s : ByteArray) (i : Nat) (h : i < s.size) (hs : s.size < 4611686018427387904) :
    callP E f_usufructref02_At [vs s, vi i] = some (.tup [.v (.int .i32 (atGo s i).1), vi (atGo s i).2]) := by
  have hb := byteAt_nat h
  have x256 : (s.get! i).toNat < 256 := UInt8.toNat_lt _
  have loop := fun (n : Nat) (least : Int) (h1 : i + n ≤ s.size) (h2 : n ≤ 4) => at_loop s i n least h1 h2 (by omega) (loopL_eq (IR.runL E.glob (callL E) [] ir_usufructref02_At_L0) (compact [] 0 [0, 1, 7, 8, 9, 10]))
  rw [hE.run rfl rfl]
  unfold atGo
  generalize hx : (s.get! i).toNat = x at *
  have w0 : IntKind.i32.wrap (x : Int) = x := i32_in (by omega)
  by_cases c0 : x < 128
  · have c0' : (x : Int) < 128 := by omega
    simp -implicitDefEqProofs only [go_sem, reduceIte, reduceCtorEq, Nat.reduceEqDiff, Nat.reduceAdd, Nat.reduceSub, Nat.reduceLT, Nat.reduceLeDiff, Nat.reduceBEq, Nat.reduceMul, Nat.reduceBNe, Int.reduceEq, Int.reduceLT, Int.reduceLE, Int.reduceNe, Int.reduceToNat, ir_usufructref02_At, hb, c0, c0', w0]
  · have c0' : ¬ (x : Int) < 128 := by omega
    by_cases c1 : 194 ≤ x ∧ x ≤ 223
    · have a1 : (194 : Int) ≤ x := by omega
      have a2 : (x : Int) ≤ 223 := by omega
      have a3 : ¬ (224 : Int) ≤ x := by omega
      have a4 : ¬ (240 : Int) ≤ x := by omega
      have w1 : IntKind.i32.wrap ((x : Int) - 192) = (x : Int) - 192 := i32_in (by omega)
      have w2 : IntKind.i64.wrap ((i : Int) + 2) = (i : Int) + 2 := IntWalk.i64_in _ (by omega)
      by_cases d : i + 2 > s.size
      · have d1 : (s.size : Int) < (i : Int) + 2 := by omega
        simp -implicitDefEqProofs only [go_sem, reduceIte, reduceCtorEq, Nat.reduceEqDiff, Nat.reduceAdd, Nat.reduceSub, Nat.reduceLT, Nat.reduceLeDiff, Nat.reduceBEq, Nat.reduceMul, Nat.reduceBNe, Int.reduceEq, Int.reduceLT, Int.reduceLE, Int.reduceNe, Int.reduceToNat, ir_usufructref02_At, hb, c0, c0', w0, c1, a1, a2, a3, a4, w1, w2, d1, show s.size < i + 2 from d]
      · have d1 : ¬ (s.size : Int) < (i : Int) + 2 := by omega
        have l := loop 2 128 (by omega) (by omega) 1 1 ((x : Int) - 192) rfl (by omega) (by omega) (by simp only [Int.reducePow, Nat.reduceSub]; omega)
        simp only [show ((2 : Nat) : Int) = 2 from rfl, show ((3 : Nat) : Int) = 3 from rfl, show ((4 : Nat) : Int) = 4 from rfl, show ((1 : Nat) : Int) = 1 from rfl] at l
        simp -implicitDefEqProofs only [go_sem, reduceIte, reduceCtorEq, Nat.reduceEqDiff, Nat.reduceAdd, Nat.reduceSub, Nat.reduceLT, Nat.reduceLeDiff, Nat.reduceBEq, Nat.reduceMul, Nat.reduceBNe, Int.reduceEq, Int.reduceLT, Int.reduceLE, Int.reduceNe, Int.reduceToNat, ir_usufructref02_At, hb, c0, c0', w0, c1, a1, a2, a3, a4, w1, w2, d1, show ¬ s.size < i + 2 from d, l]
        cases contS s (i + 1) 1 ((x : Int) - 192) with
        | none => simp -implicitDefEqProofs only [go_sem, reduceIte, reduceCtorEq, Nat.reduceEqDiff, Nat.reduceAdd, Nat.reduceSub, Nat.reduceLT, Nat.reduceLeDiff, Nat.reduceBEq, Nat.reduceMul, Nat.reduceBNe, Int.reduceEq, Int.reduceLT, Int.reduceLE, Int.reduceNe, Int.reduceToNat]
        | some v =>
          by_cases q1 : v < 128 <;> by_cases q2 : 1114111 < v <;> by_cases q3 : 55296 ≤ v <;> by_cases q4 : v ≤ 57343 <;> simp -implicitDefEqProofs only [go_sem, reduceIte, reduceCtorEq, Nat.reduceEqDiff, Nat.reduceAdd, Nat.reduceSub, Nat.reduceLT, Nat.reduceLeDiff, Nat.reduceBEq, Nat.reduceMul, Nat.reduceBNe, Int.reduceEq, Int.reduceLT, Int.reduceLE, Int.reduceNe, Int.reduceToNat, q1, q2, q3, q4]
    · by_cases c2 : 224 ≤ x ∧ x ≤ 239
      · have a1 : (194 : Int) ≤ x := by omega
        have a2 : ¬ (x : Int) ≤ 223 := by omega
        have a3 : (224 : Int) ≤ x := by omega
        have a3' : (x : Int) ≤ 239 := by omega
        have a4 : ¬ (240 : Int) ≤ x := by omega
        have w1 : IntKind.i32.wrap ((x : Int) - 224) = (x : Int) - 224 := i32_in (by omega)
        have w2 : IntKind.i64.wrap ((i : Int) + 3) = (i : Int) + 3 := IntWalk.i64_in _ (by omega)
        by_cases d : i + 3 > s.size
        · have d1 : (s.size : Int) < (i : Int) + 3 := by omega
          simp -implicitDefEqProofs only [go_sem, reduceIte, reduceCtorEq, Nat.reduceEqDiff, Nat.reduceAdd, Nat.reduceSub, Nat.reduceLT, Nat.reduceLeDiff, Nat.reduceBEq, Nat.reduceMul, Nat.reduceBNe, Int.reduceEq, Int.reduceLT, Int.reduceLE, Int.reduceNe, Int.reduceToNat, ir_usufructref02_At, hb, c0, c0', w0, c1, c2, a1, a2, a3, a3', a4, w1, w2, d1, show s.size < i + 3 from d]
        · have d1 : ¬ (s.size : Int) < (i : Int) + 3 := by omega
          have l := loop 3 2048 (by omega) (by omega) 2 1 ((x : Int) - 224) rfl (by omega) (by omega) (by simp only [Int.reducePow, Nat.reduceSub]; omega)
          simp only [show ((2 : Nat) : Int) = 2 from rfl, show ((3 : Nat) : Int) = 3 from rfl, show ((4 : Nat) : Int) = 4 from rfl, show ((1 : Nat) : Int) = 1 from rfl] at l
          simp -implicitDefEqProofs only [go_sem, reduceIte, reduceCtorEq, Nat.reduceEqDiff, Nat.reduceAdd, Nat.reduceSub, Nat.reduceLT, Nat.reduceLeDiff, Nat.reduceBEq, Nat.reduceMul, Nat.reduceBNe, Int.reduceEq, Int.reduceLT, Int.reduceLE, Int.reduceNe, Int.reduceToNat, ir_usufructref02_At, hb, c0, c0', w0, c1, c2, a1, a2, a3, a3', a4, w1, w2, d1, show ¬ s.size < i + 3 from d, l]
          cases contS s (i + 1) 2 ((x : Int) - 224) with
          | none => simp -implicitDefEqProofs only [go_sem, reduceIte, reduceCtorEq, Nat.reduceEqDiff, Nat.reduceAdd, Nat.reduceSub, Nat.reduceLT, Nat.reduceLeDiff, Nat.reduceBEq, Nat.reduceMul, Nat.reduceBNe, Int.reduceEq, Int.reduceLT, Int.reduceLE, Int.reduceNe, Int.reduceToNat]
          | some v =>
            by_cases q1 : v < 2048 <;> by_cases q2 : 1114111 < v <;> by_cases q3 : 55296 ≤ v <;> by_cases q4 : v ≤ 57343 <;> simp -implicitDefEqProofs only [go_sem, reduceIte, reduceCtorEq, Nat.reduceEqDiff, Nat.reduceAdd, Nat.reduceSub, Nat.reduceLT, Nat.reduceLeDiff, Nat.reduceBEq, Nat.reduceMul, Nat.reduceBNe, Int.reduceEq, Int.reduceLT, Int.reduceLE, Int.reduceNe, Int.reduceToNat, q1, q2, q3, q4]
      · by_cases c3 : 240 ≤ x ∧ x ≤ 244
        · have a1 : (194 : Int) ≤ x := by omega
          have a2 : ¬ (x : Int) ≤ 223 := by omega
          have a3 : (224 : Int) ≤ x := by omega
          have a3' : ¬ (x : Int) ≤ 239 := by omega
          have a4 : (240 : Int) ≤ x := by omega
          have a4' : (x : Int) ≤ 244 := by omega
          have w1 : IntKind.i32.wrap ((x : Int) - 240) = (x : Int) - 240 := i32_in (by omega)
          have w2 : IntKind.i64.wrap ((i : Int) + 4) = (i : Int) + 4 := IntWalk.i64_in _ (by omega)
          by_cases d : i + 4 > s.size
          · have d1 : (s.size : Int) < (i : Int) + 4 := by omega
            simp -implicitDefEqProofs only [go_sem, reduceIte, reduceCtorEq, Nat.reduceEqDiff, Nat.reduceAdd, Nat.reduceSub, Nat.reduceLT, Nat.reduceLeDiff, Nat.reduceBEq, Nat.reduceMul, Nat.reduceBNe, Int.reduceEq, Int.reduceLT, Int.reduceLE, Int.reduceNe, Int.reduceToNat, ir_usufructref02_At, hb, c0, c0', w0, c1, c2, c3, a1, a2, a3, a3', a4, a4', w1, w2, d1, show s.size < i + 4 from d]
          · have d1 : ¬ (s.size : Int) < (i : Int) + 4 := by omega
            have l := loop 4 65536 (by omega) (by omega) 3 1 ((x : Int) - 240) rfl (by omega) (by omega) (by simp only [Int.reducePow, Nat.reduceSub]; omega)
            simp only [show ((2 : Nat) : Int) = 2 from rfl, show ((3 : Nat) : Int) = 3 from rfl, show ((4 : Nat) : Int) = 4 from rfl, show ((1 : Nat) : Int) = 1 from rfl] at l
            simp -implicitDefEqProofs only [go_sem, reduceIte, reduceCtorEq, Nat.reduceEqDiff, Nat.reduceAdd, Nat.reduceSub, Nat.reduceLT, Nat.reduceLeDiff, Nat.reduceBEq, Nat.reduceMul, Nat.reduceBNe, Int.reduceEq, Int.reduceLT, Int.reduceLE, Int.reduceNe, Int.reduceToNat, ir_usufructref02_At, hb, c0, c0', w0, c1, c2, c3, a1, a2, a3, a3', a4, a4', w1, w2, d1, show ¬ s.size < i + 4 from d, l]
            cases contS s (i + 1) 3 ((x : Int) - 240) with
            | none => simp -implicitDefEqProofs only [go_sem, reduceIte, reduceCtorEq, Nat.reduceEqDiff, Nat.reduceAdd, Nat.reduceSub, Nat.reduceLT, Nat.reduceLeDiff, Nat.reduceBEq, Nat.reduceMul, Nat.reduceBNe, Int.reduceEq, Int.reduceLT, Int.reduceLE, Int.reduceNe, Int.reduceToNat]
            | some v =>
              by_cases q1 : v < 65536 <;> by_cases q2 : 1114111 < v <;> by_cases q3 : 55296 ≤ v <;> by_cases q4 : v ≤ 57343 <;> simp -implicitDefEqProofs only [go_sem, reduceIte, reduceCtorEq, Nat.reduceEqDiff, Nat.reduceAdd, Nat.reduceSub, Nat.reduceLT, Nat.reduceLeDiff, Nat.reduceBEq, Nat.reduceMul, Nat.reduceBNe, Int.reduceEq, Int.reduceLT, Int.reduceLE, Int.reduceNe, Int.reduceToNat, q1, q2, q3, q4]
        · simp only [c0, c1, c2, c3, if_false]
          rcases Nat.lt_or_ge x 194 with a | a
          · have a1 : ¬ (194 : Int) ≤ x := by omega
            have a3 : ¬ (224 : Int) ≤ x := by omega
            have a4 : ¬ (240 : Int) ≤ x := by omega
            simp -implicitDefEqProofs only [go_sem, reduceIte, reduceCtorEq, Nat.reduceEqDiff, Nat.reduceAdd, Nat.reduceSub, Nat.reduceLT, Nat.reduceLeDiff, Nat.reduceBEq, Nat.reduceMul, Nat.reduceBNe, Int.reduceEq, Int.reduceLT, Int.reduceLE, Int.reduceNe, Int.reduceToNat, ir_usufructref02_At, hb, c0', w0, a1, a3, a4]
          · have a1 : (194 : Int) ≤ x := by omega
            have a2 : ¬ (x : Int) ≤ 223 := by omega
            have a3 : (224 : Int) ≤ x := by omega
            have a3' : ¬ (x : Int) ≤ 239 := by omega
            have a4 : (240 : Int) ≤ x := by omega
            have a4' : ¬ (x : Int) ≤ 244 := by omega
            simp -implicitDefEqProofs only [go_sem, reduceIte, reduceCtorEq, Nat.reduceEqDiff, Nat.reduceAdd, Nat.reduceSub, Nat.reduceLT, Nat.reduceLeDiff, Nat.reduceBEq, Nat.reduceMul, Nat.reduceBNe, Int.reduceEq, Int.reduceLT, Int.reduceLE, Int.reduceNe, Int.reduceToNat, ir_usufructref02_At, hb, c0', w0, a1, a2, a3, a3', a4, a4']
theorem fn_at {E : Prog} (hE : Std E fns) (s : ByteArray) (i : Nat) (h : i < s.size) (hs : s.size < 4611686018427387904) :
    callP E f_usufructref02_At [vs s, vi i] = some (.tup [.v (.int .i32 (atS s i).1), vi (atS s i).2]) := by
  rw [fn_atGo hE s i h hs, atGo_eq s i h]

/-! ### Runes, Good -/
theorem atS_bad {s : ByteArray} {i : Nat} (h : Utf8.decode s i = (65533, 1)) : atS s i = (0, 0) := by unfold atS; rw [if_pos h]
theorem atS_ok {s : ByteArray} {i : Nat} (h : ¬ Utf8.decode s i = (65533, 1)) : atS s i = (((Utf8.decode s i).1 : Int), ((Utf8.decode s i).2 : Int)) := by unfold atS; rw [if_neg h]
theorem width_le (s : ByteArray) (i : Nat) (h : i < s.size) : i + (Utf8.decode s i).2 ≤ s.size := by
  have h1 : s.data.toList.drop i ≠ [] := by
    intro e
    have := congrArg List.length e
    simp at this
    have : s.data.size = s.size := rfl
    omega
  have h2 := Lib.decodeL_le _ h1
  rw [Lib.decodeL_drop] at h2
  simp at h2
  have : s.data.size = s.size := rfl
  omega
theorem runesRef_loop {E : Prog} (hE : Std E fns) {L : Env × Store → Option (Sig × Env × Store)} (s : ByteArray) (hs : s.size < 4611686018427387904)
    (hL : ∀ e st, L (e, st) = (IR.runL E.glob (callL E) [] ir_usufructref02_Runes_L0 e st).bind (seqK fun e st => L (compact [] 0 [0, 3, 4] e st))) :
    ∀ (f pp n : Nat), s.size - pp ≤ f → n + f < 4611686018427387904 → pp ≤ s.size →
    L ([(0, vs s), (3, vi n), (4, vi pp)], []) = some (.exit 0, [(3, vi (n + Lib.runeCountFrom s f pp : Nat))], [])
  | 0, pp, n, h, hn, hp => by
    have hp : ¬ (pp : Int) < (s.size : Int) := by omega
    rw [hL]
    simp -implicitDefEqProofs only [go_sem, reduceIte, reduceCtorEq, Nat.reduceEqDiff, Nat.reduceAdd, Nat.reduceSub, Nat.reduceLT, Nat.reduceLeDiff, Nat.reduceBEq, Nat.reduceMul, Nat.reduceBNe, Int.reduceEq, Int.reduceLT, Int.reduceLE, Int.reduceNe, Int.reduceToNat, ir_usufructref02_Runes_L0, hp, Lib.runeCountFrom]
  | f + 1, pp, n, h, hn, hps => by
    by_cases hp : pp < s.size
    · have hw := Lib.decode_width_pos s pp hp
      have hwl := width_le s pp hp
      have ih := runesRef_loop hE s hs hL f (pp + (Utf8.decode s pp).2) (n + 1) (by omega) (by omega) hwl
      have h6 := wrap_succ (i := n) (by omega)
      have hp' : (pp : Int) < (s.size : Int) := by omega
      have ha := fn_at hE s pp hp (by omega)
      have en : n + (1 + Lib.runeCountFrom s f (pp + (Utf8.decode s pp).2)) = n + 1 + Lib.runeCountFrom s f (pp + (Utf8.decode s pp).2) := by omega
      rw [hL]
      by_cases c : Utf8.decode s pp = (65533, 1)
      · rw [atS_bad c] at ha
        have h7 := wrap_succ (i := pp) (by omega)
        have e2 : (Utf8.decode s pp).2 = 1 := by rw [c]
        rw [e2] at ih en
        simp -implicitDefEqProofs only [go_sem, reduceIte, reduceCtorEq, Nat.reduceEqDiff, Nat.reduceAdd, Nat.reduceSub, Nat.reduceLT, Nat.reduceLeDiff, Nat.reduceBEq, Nat.reduceMul, Nat.reduceBNe, Int.reduceEq, Int.reduceLT, Int.reduceLE, Int.reduceNe, Int.reduceToNat, ir_usufructref02_Runes_L0, hp', ha, h6, h7, ih, Lib.runeCountFrom, hp, e2, en]
      · rw [atS_ok c] at ha
        have h7 : IntKind.i64.wrap ((pp : Int) + ((Utf8.decode s pp).2 : Int)) = ((pp + (Utf8.decode s pp).2 : Nat) : Int) := by rw [IntWalk.i64_in _ (by omega)]; omega
        have e0 : ¬ ((Utf8.decode s pp).2 : Int) = 0 := by omega
        simp -implicitDefEqProofs only [go_sem, reduceIte, reduceCtorEq, Nat.reduceEqDiff, Nat.reduceAdd, Nat.reduceSub, Nat.reduceLT, Nat.reduceLeDiff, Nat.reduceBEq, Nat.reduceMul, Nat.reduceBNe, Int.reduceEq, Int.reduceLT, Int.reduceLE, Int.reduceNe, Int.reduceToNat, ir_usufructref02_Runes_L0, hp', ha, h6, h7, ih, Lib.runeCountFrom, hp, e0, en]
    · have hp' : ¬ (pp : Int) < (s.size : Int) := by omega
      rw [hL]
      simp -implicitDefEqProofs only [go_sem, reduceIte, reduceCtorEq, Nat.reduceEqDiff, Nat.reduceAdd, Nat.reduceSub, Nat.reduceLT, Nat.reduceLeDiff, Nat.reduceBEq, Nat.reduceMul, Nat.reduceBNe, Int.reduceEq, Int.reduceLT, Int.reduceLE, Int.reduceNe, Int.reduceToNat, ir_usufructref02_Runes_L0, hp', Lib.runeCountFrom, hp]
theorem fn_runesRef {E : Prog} (hE : Std E fns) (s : ByteArray) (hs : s.size < 2305843009213693952) : callP E f_usufructref02_Runes [vs s] = some (vi (Lib.runeCount s)) := by
  have h := runesRef_loop hE s (by omega) (loopL_eq (IR.runL E.glob (callL E) [] ir_usufructref02_Runes_L0) (compact [] 0 [0, 3, 4])) s.size 0 0 (by omega) (by omega) (by omega)
  simp only [Int.natCast_zero, Nat.zero_add] at h
  rw [hE.run rfl rfl]
  simp -implicitDefEqProofs only [go_sem, reduceIte, reduceCtorEq, Nat.reduceEqDiff, Nat.reduceAdd, Nat.reduceSub, Nat.reduceLT, Nat.reduceLeDiff, Nat.reduceBEq, Nat.reduceMul, Nat.reduceBNe, Int.reduceEq, Int.reduceLT, Int.reduceLE, Int.reduceNe, Int.reduceToNat, ir_usufructref02_Runes, h, Lib.runeCount]
def goodF (s : ByteArray) : Nat → Nat → Bool
  | 0, _ => true
  | n + 1, i => if i < s.size then decide (Utf8.decode s i ≠ (65533, 1)) && (mayS (Utf8.decode s i).1 && (decide (i ≠ 0) || letterS (Utf8.decode s i).1)) && goodF s n (i + (Utf8.decode s i).2) else true
theorem goodRef_loop {E : Prog} (hE : Std E fns) {L : Env × Store → Option (Sig × Env × Store)} (s : ByteArray) (hs : s.size < 4611686018427387904)
    (hL : ∀ e st, L (e, st) = (IR.runL E.glob (callL E) [] ir_usufructref02_Good_L0 e st).bind (seqK fun e st => L (compact [] 0 [0, 3] e st))) :
    ∀ (f pp : Nat), s.size - pp ≤ f → pp ≤ s.size → L ([(0, vs s), (3, vi pp)], []) = if goodF s f pp = true then some (.exit 0, [(0, vs s)], []) else some (.ret, [(2, vb false)], [])
  | 0, pp, h, hps => by
    have hp : ¬ (pp : Int) < (s.size : Int) := by omega
    rw [hL]
    simp -implicitDefEqProofs only [go_sem, reduceIte, reduceCtorEq, Nat.reduceEqDiff, Nat.reduceAdd, Nat.reduceSub, Nat.reduceLT, Nat.reduceLeDiff, Nat.reduceBEq, Nat.reduceMul, Nat.reduceBNe, Int.reduceEq, Int.reduceLT, Int.reduceLE, Int.reduceNe, Int.reduceToNat, ir_usufructref02_Good_L0, hp, goodF]
  | f + 1, pp, h, hps => by
    by_cases hp : pp < s.size
    · have hw := Lib.decode_width_pos s pp hp
      have hwl := width_le s pp hp
      have ih := goodRef_loop hE s hs hL f (pp + (Utf8.decode s pp).2) (by omega) hwl
      have hp' : (pp : Int) < (s.size : Int) := by omega
      have ha := fn_at hE s pp hp (by omega)
      have e0 : ((pp : Int) = 0) = (pp = 0) := by simp
      rw [hL]
      by_cases c : Utf8.decode s pp = (65533, 1)
      · rw [atS_bad c] at ha
        simp -implicitDefEqProofs only [go_sem, reduceIte, reduceCtorEq, Nat.reduceEqDiff, Nat.reduceAdd, Nat.reduceSub, Nat.reduceLT, Nat.reduceLeDiff, Nat.reduceBEq, Nat.reduceMul, Nat.reduceBNe, Int.reduceEq, Int.reduceLT, Int.reduceLE, Int.reduceNe, Int.reduceToNat, ir_usufructref02_Good_L0, hp', ha, goodF, hp, c]
      · rw [atS_ok c] at ha
        have h7 : IntKind.i64.wrap ((pp : Int) + ((Utf8.decode s pp).2 : Int)) = ((pp + (Utf8.decode s pp).2 : Nat) : Int) := by rw [IntWalk.i64_in _ (by omega)]; omega
        have e1 : ¬ ((Utf8.decode s pp).2 : Int) = 0 := by omega
        simp -implicitDefEqProofs only [go_sem, reduceIte, reduceCtorEq, Nat.reduceEqDiff, Nat.reduceAdd, Nat.reduceSub, Nat.reduceLT, Nat.reduceLeDiff, Nat.reduceBEq, Nat.reduceMul, Nat.reduceBNe, Int.reduceEq, Int.reduceLT, Int.reduceLE, Int.reduceNe, Int.reduceToNat, ir_usufructref02_Good_L0, hp', ha, h7, ih, goodF, hp, e0, e1, fn_mayRef hE, fn_letterRef hE, c]
        cases c1 : mayS (Utf8.decode s pp).1
        · simp [c1]
        · by_cases c2 : pp = 0
          · subst c2
            cases c3 : letterS (Utf8.decode s 0).1 <;> simp [c3, c1]
          · simp [c1, c2]
    · have hp' : ¬ (pp : Int) < (s.size : Int) := by omega
      rw [hL]
      simp -implicitDefEqProofs only [go_sem, reduceIte, reduceCtorEq, Nat.reduceEqDiff, Nat.reduceAdd, Nat.reduceSub, Nat.reduceLT, Nat.reduceLeDiff, Nat.reduceBEq, Nat.reduceMul, Nat.reduceBNe, Int.reduceEq, Int.reduceLT, Int.reduceLE, Int.reduceNe, Int.reduceToNat, ir_usufructref02_Good_L0, hp', goodF, hp]
def refGood (s : ByteArray) : Bool := goodF s s.size 0 && decide (s ≠ ⟨#[]⟩) && decide (Lib.runeCount s ≤ 64)
theorem fn_refGood' {E : Prog} (hE : Std E fns) (s : ByteArray) (hs : s.size < 2305843009213693952) : callP E f_usufructref02_Good [vs s] = some (vb (refGood s)) := by
  have h := goodRef_loop hE s (by omega) (loopL_eq (IR.runL E.glob (callL E) [] ir_usufructref02_Good_L0) (compact [] 0 [0, 3])) s.size 0 (by omega) (by omega)
  simp only [Int.natCast_zero] at h
  have h3 := fn_runesRef hE s hs
  have e1 : ((Lib.runeCount s : Int) ≤ (64 : Int)) = (Lib.runeCount s ≤ 64) := by simp; omega
  rw [hE.run rfl rfl]
  cases c : goodF s s.size 0
  · simp only [c, Bool.false_eq_true, if_false] at h
    simp -implicitDefEqProofs only [go_sem, reduceIte, reduceCtorEq, Nat.reduceEqDiff, Nat.reduceAdd, Nat.reduceSub, Nat.reduceLT, Nat.reduceLeDiff, Nat.reduceBEq, Nat.reduceMul, Nat.reduceBNe, Int.reduceEq, Int.reduceLT, Int.reduceLE, Int.reduceNe, Int.reduceToNat, ir_usufructref02_Good, h, refGood, c]
  · simp only [c, if_true] at h
    simp -implicitDefEqProofs only [go_sem, reduceIte, reduceCtorEq, Nat.reduceEqDiff, Nat.reduceAdd, Nat.reduceSub, Nat.reduceLT, Nat.reduceLeDiff, Nat.reduceBEq, Nat.reduceMul, Nat.reduceBNe, Int.reduceEq, Int.reduceLT, Int.reduceLE, Int.reduceNe, Int.reduceToNat, ir_usufructref02_Good, h, h3, refGood, c, e1]
    by_cases c1 : s = ⟨#[]⟩
    · simp [c1]
    · by_cases c2 : Lib.runeCount s ≤ 64 <;> simp [c1, c2]

/-! ### they are the same -/
theorem goodF_eq (s : ByteArray) : ∀ f pp, goodF s f pp = (validF s f pp && mayF s f pp)
  | 0, _ => rfl
  | f + 1, pp => by
    unfold goodF validF mayF
    split
    · rw [goodF_eq s f]
      cases decide (Utf8.decode s pp ≠ (65533, 1)) <;> cases validF s f (pp + (Utf8.decode s pp).2) <;> simp
    · rfl
theorem validF_eq (s : ByteArray) : ∀ f pp, s.size - pp ≤ f → validF s f pp = Lib.validD (s.data.toList.drop pp)
  | 0, pp, h => by
    have : s.data.toList.drop pp = [] := List.drop_of_length_le (by simp; have : s.data.size = s.size := rfl; omega)
    rw [this]; rfl
  | f + 1, pp, h => by
    unfold validF
    by_cases hp : pp < s.size
    · have hne : s.data.toList.drop pp ≠ [] := by
        intro e
        have := congrArg List.length e
        simp at this
        have : s.data.size = s.size := rfl
        omega
      have hw := Lib.decode_width_pos s pp hp
      rw [if_pos hp, Lib.validD_step _ hne, Lib.decodeL_drop, validF_eq s f _ (by omega), List.drop_drop]
      by_cases c : Utf8.decode s pp = (65533, 1)
      · rw [c]; simp
      · have : ¬ ((Utf8.decode s pp).1 = 65533 ∧ (Utf8.decode s pp).2 = 1) := fun q => c (Prod.ext q.1 q.2)
        rw [if_neg this]
        simp [c]
    · rw [if_neg hp]
      have : s.data.toList.drop pp = [] := List.drop_of_length_le (by simp; have : s.data.size = s.size := rfl; omega)
      rw [this]; rfl
theorem refGood_eq (s : ByteArray) : refGood s = labelGood s := by
  unfold refGood labelGood
  rw [goodF_eq, validF_eq s s.size 0 (by omega), List.drop_zero]
  cases Lib.validD s.data.toList <;> cases mayF s s.size 0 <;> simp
theorem fn_refGood {E : Prog} (hE : Std E fns) (s : ByteArray) (hs : s.size < 2305843009213693952) : callP E f_usufructref02_Good [vs s] = some (vb (labelGood s)) := by
  rw [fn_refGood' hE s hs, refGood_eq]
end Go.Proofs.YtbpndomfipdhdaaDoor.Ev
