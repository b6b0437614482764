/-
  Keys, cut and read: the numbers, the ways.
-/
import Derived.Test.YtbpndomfipdhdaaDoorEvKey1
set_option linter.unusedVariables false
set_option linter.unusedSimpArgs false
namespace Go.Proofs.YtbpndomfipdhdaaDoor.Ev
attribute [local congr] bind_congr_head
attribute [local go_sem] opd_t opd_c opd_g opd_f opds_nil opds_cons get_cons put_some put_none keep_nil keepC_s keepC_n keep_cons runs_nil runs_cons run_op run_opr run_call run_gand run_gor run_gif seqK_norm seqK_exit seqK_ret blkK_norm blkK_exit blkK_ret runL_skip runL_exit runL_ret runL_items runL_seq runL_cond runL_block runL_loop fin_bind finK_norm finK_ret rvs_nil rvs_cons rv_tmp rv_cell tupOf_one tupOf_nil tupOf_two ev_mov ev_pick ev_alloc ev_box ev_build parts_nil parts_cons fills_nil fills_cons ev_bsl ev_bslo ev_load ev_store ev_nilck ev_bin ev_binb ev_aeq ev_un ev_i2i ev_i2t ev_isnilI nilIF ev_s2b ev_ext ev_fld ev_idxs ev_fa ev_ias ev_len ev_lens ev_s2s ev_mkf ev_rng ev_nxt ev_app bOf_s pvOf_s agOf_s tpOf_s iOf_s sOf_s ite_bind Option.bind_some Option.bind_none if_true if_false ite_true ite_false argEnv_nil argEnv_cons len_av elems_av ias_av cells_av tuple_av AV.tuple AV.cells faF ldAt liveRef aggOf nilckF binV binI binS binB unV Bool.not_true Bool.not_false List.length_nil List.length_cons List.nil_append List.cons_append List.append_nil List.getElem?_cons_zero List.getElem?_cons_succ List.drop_zero List.drop_succ_cons List.drop_nil List.take_zero List.take_succ_cons List.take_nil List.set_cons_zero List.set_cons_succ compact_same compact_new closedB nodupB envIds ids0 upto visit pos sel AV.ids idss idsss Ob.ids AV.ren rens renss Ob.ren renEnv AV.snap snaps stAt okSt putCells List.all_nil List.all_cons List.contains_nil List.contains_cons Bool.and_true Bool.true_and Bool.and_false Bool.false_and Bool.or_true Bool.true_or Bool.or_false Bool.false_or decide_eq_true_eq decide_true decide_false beq_iff_eq bne_iff_ne beq_self_eq_true Bool.not_eq_true' Bool.false_eq_true eq_self and_self and_true true_and and_false false_and or_true true_or or_false false_or not_true_eq_false not_false_eq_true ne_eq Nat.zero_add Nat.add_zero Nat.le_refl Nat.not_lt_zero Nat.lt_irrefl Nat.zero_le Int.toNat_natCast gt_iff_lt ge_iff_le Int.lt_irrefl Int.natCast_nonneg txt_eq get_nil appF elems belows AV.under AV.flat flats List.length_map List.map_append List.map_cons List.map_nil List.length_append take_map_all List.flatten_cons List.flatten_nil bld_nil imp_false false_imp_iff false_implies true_implies implies_true decide_eq_false_iff_not Nat.one_mul Nat.mul_one idsss_app renss_app belowss_app ev_mn ev_mx ev_isnils ev_sls ev_slx evo_none evo_some vals minV maxV minF maxF backId List.getElem?_nil putAll Option.all_none Option.all_some Option.isSome_some intOf aszI compactV_same compactV_new callP_any callQ_eq callN_any boxQ AV.id? ids_avR ren_av under_av snap_av renss_mapf belowss_mapf idsss_mapf isnilsF List.length_eq_zero_iff int_beq int_bne decide_not slx_av Int.toNat_zero ev_mkm ev_lk ev_mup ev_mdl ev_lenm ev_isnilm mpOf_s mapAt_s mapOf_nil mapOf_mp isnilm_nil isnilm_mp lkR Option.getD_some Option.getD_none Option.isSome_none Prim.rdo ev_snp snp_own snp_v exQ_nil exQ_cons exA_ref same_nil same_box same_row same_map sameL_nil sameL_cons sameA_int sameA_bool sameA_str sameA_slice sameA_map sameA_ptr sameA_own sameA_ref sameA_mp callB_eq
theorem fn_way {E : Prog} (hE : Std E fns) (u : Bool) : callP E f_def_way [vb u] = some (vs (BA (wayL u))) := by
  rw [hE.run rfl rfl]
  cases u
  · simp -implicitDefEqProofs only [go_sem, reduceIte, reduceCtorEq, Nat.reduceEqDiff, Nat.reduceAdd, Nat.reduceSub, Nat.reduceLT, Nat.reduceLeDiff, Nat.reduceBEq, Nat.reduceMul, Nat.reduceBNe, Int.reduceEq, Int.reduceLT, Int.reduceLE, Int.reduceNe, Int.reduceToNat, ir_def_way]; rfl
  · simp -implicitDefEqProofs only [go_sem, reduceIte, reduceCtorEq, Nat.reduceEqDiff, Nat.reduceAdd, Nat.reduceSub, Nat.reduceLT, Nat.reduceLeDiff, Nat.reduceBEq, Nat.reduceMul, Nat.reduceBNe, Int.reduceEq, Int.reduceLT, Int.reduceLE, Int.reduceNe, Int.reduceToNat, ir_def_way]; rfl
theorem number_loop {G : Nat → Option (List AV)} {raw : Raw} {L : Env × Store → Option (Sig × Env × Store)} (l : List UInt8) (h18 : l.length ≤ 18)
    (hL : ∀ e st, L (e, st) = (IR.runL G raw [] ir_def_number_L0 e st).bind (seqK fun e st => L (compact [] 1 [2, 24] e st))) :
    ∀ (f pp : Nat) (n : Int), l.length - pp ≤ f → pp ≤ l.length → 0 ≤ n → n < ((10 ^ pp : Nat) : Int) → ∃ q, L ([(2, vi n), (24, .it 0)], [.sit (BA l) pp]) =
      if (l.drop pp).all isDig = true then some (.exit 0, [(2, vi (valD n (l.drop pp)))], [.sit (BA l) q]) else some (.ret, [(2, vi 0), (3, vb false)], [.sit (BA l) q])
  | 0, pp, n, h, hp, h0, hn => by
    refine ⟨pp, ?_⟩
    have hp : ¬ pp < (BA l).size := by rw [ba_size]; omega
    have hd : l.drop pp = [] := List.drop_of_length_le (by omega)
    rw [hL]
    simp -implicitDefEqProofs only [go_sem, reduceIte, reduceCtorEq, Nat.reduceEqDiff, Nat.reduceAdd, Nat.reduceSub, Nat.reduceLT, Nat.reduceLeDiff, Nat.reduceBEq, Nat.reduceMul, Nat.reduceBNe, Int.reduceEq, Int.reduceLT, Int.reduceLE, Int.reduceNe, Int.reduceToNat, ir_def_number_L0, nxtF, hp, hd]
    rfl
  | f + 1, pp, n, h, hp, h0, hn => by
    by_cases c : pp < l.length
    · have c' : pp < (BA l).size := by rw [ba_size]; exact c
      have hd : l.drop pp = l.getD pp 0 :: l.drop (pp + 1) := by
        rw [List.drop_eq_getElem_cons c, List.getD_eq_getElem?_getD, List.getElem?_eq_getElem c]; rfl
      have hg : (BA l).get! pp = l.getD pp 0 := ba_get l pp
      have h10 : 10 ^ pp ≤ 10 ^ 17 := Nat.pow_le_pow_right (by decide) (by omega)
      have h11 : 10 ^ 17 = 100000000000000000 := by decide
      by_cases cd : isDig (l.getD pp 0) = true
      · have e := dec_dig (BA l) pp (by rw [hg]; exact cd)
        rw [hg] at e
        have hb := dig_of cd
        obtain ⟨q, ih⟩ := number_loop l h18 hL f (pp + 1) (10 * n + (((l.getD pp 0).toNat : Int) - 48)) (by omega) (by omega) (by omega) (by rw [Nat.pow_succ]; omega)
        refine ⟨q, ?_⟩
        have e1 : ¬ ((l.getD pp 0).toNat : Int) < 48 := by omega
        have e2 : ¬ (57 : Int) < ((l.getD pp 0).toNat : Int) := by omega
        have w1 : IntKind.i64.wrap (10 * n) = 10 * n := IntWalk.i64_in _ (by omega)
        have w2 : IntKind.i32.wrap (((l.getD pp 0).toNat : Int) - 48) = ((l.getD pp 0).toNat : Int) - 48 := i32_in (by omega)
        have w3 : IntKind.i64.wrap (((l.getD pp 0).toNat : Int) - 48) = ((l.getD pp 0).toNat : Int) - 48 := IntWalk.i64_in _ (by omega)
        have w4 : IntKind.i64.wrap (10 * n + (((l.getD pp 0).toNat : Int) - 48)) = 10 * n + (((l.getD pp 0).toNat : Int) - 48) := IntWalk.i64_in _ (by omega)
        have hv : valD n (l.drop pp) = valD (10 * n + (((l.getD pp 0).toNat : Int) - 48)) (l.drop (pp + 1)) := by rw [hd]; rfl
        have ha : (l.drop pp).all isDig = (l.drop (pp + 1)).all isDig := by rw [hd, List.all_cons, cd, Bool.true_and]
        rw [hL, hv, ha]
        simp -implicitDefEqProofs only [go_sem, reduceIte, reduceCtorEq, Nat.reduceEqDiff, Nat.reduceAdd, Nat.reduceSub, Nat.reduceLT, Nat.reduceLeDiff, Nat.reduceBEq, Nat.reduceMul, Nat.reduceBNe, Int.reduceEq, Int.reduceLT, Int.reduceLE, Int.reduceNe, Int.reduceToNat, ir_def_number_L0, nxtF, c', e, e1, e2, w1, w2, w3, w4, ih]
      · have e := dec_not (BA l) pp (by rw [hg]; exact cd)
        have ha : (l.drop pp).all isDig = false := by rw [hd, List.all_cons, Bool.eq_false_iff.2 cd, Bool.false_and]
        refine ⟨pp + (Utf8.decode (BA l) pp).2, ?_⟩
        rw [hL, ha]
        by_cases e1 : ((Utf8.decode (BA l) pp).1 : Int) < 48
        · simp -implicitDefEqProofs only [go_sem, reduceIte, reduceCtorEq, Nat.reduceEqDiff, Nat.reduceAdd, Nat.reduceSub, Nat.reduceLT, Nat.reduceLeDiff, Nat.reduceBEq, Nat.reduceMul, Nat.reduceBNe, Int.reduceEq, Int.reduceLT, Int.reduceLE, Int.reduceNe, Int.reduceToNat, ir_def_number_L0, nxtF, c', e1]
        · have e2 : (57 : Int) < ((Utf8.decode (BA l) pp).1 : Int) := by omega
          simp -implicitDefEqProofs only [go_sem, reduceIte, reduceCtorEq, Nat.reduceEqDiff, Nat.reduceAdd, Nat.reduceSub, Nat.reduceLT, Nat.reduceLeDiff, Nat.reduceBEq, Nat.reduceMul, Nat.reduceBNe, Int.reduceEq, Int.reduceLT, Int.reduceLE, Int.reduceNe, Int.reduceToNat, ir_def_number_L0, nxtF, c', e1, e2]
    · refine ⟨pp, ?_⟩
      have hp : ¬ pp < (BA l).size := by rw [ba_size]; omega
      have hd : l.drop pp = [] := List.drop_of_length_le (by omega)
      rw [hL]
      simp -implicitDefEqProofs only [go_sem, reduceIte, reduceCtorEq, Nat.reduceEqDiff, Nat.reduceAdd, Nat.reduceSub, Nat.reduceLT, Nat.reduceLeDiff, Nat.reduceBEq, Nat.reduceMul, Nat.reduceBNe, Int.reduceEq, Int.reduceLT, Int.reduceLE, Int.reduceNe, Int.reduceToNat, ir_def_number_L0, nxtF, hp, hd]
      rfl
def numR (l : List UInt8) : AV := if numOK l = true then .tup [vi (valD 0 l), vb true] else .tup [vi 0, vb false]
theorem byteAt_ba {l : List UInt8} {i : Nat} (h : i < l.length) : byteAt (BA l) (i : Int) = some ((l.getD i 0).toNat : Int) := by
  rw [byteAt_nat (by rw [ba_size]; exact h), ba_get]
theorem ba_nil {l : List UInt8} : BA l = ⟨#[]⟩ ↔ l = [] := ba_inj (b := [])
theorem fn_number {E : Prog} (hE : Std E fns) (l : List UInt8) (hl : l.length < 9223372036854775807) : callP E f_def_number [vs (BA l)] = some (numR l) := by
  rw [hE.run rfl rfl]
  by_cases c1 : l = []
  · subst c1
    simp -implicitDefEqProofs only [go_sem, reduceIte, reduceCtorEq, Nat.reduceEqDiff, Nat.reduceAdd, Nat.reduceSub, Nat.reduceLT, Nat.reduceLeDiff, Nat.reduceBEq, Nat.reduceMul, Nat.reduceBNe, Int.reduceEq, Int.reduceLT, Int.reduceLE, Int.reduceNe, Int.reduceToNat, ir_def_number, ba_nil]; rfl
  · by_cases c2 : 18 < l.length
    · have c2' : (18 : Int) < (BA l).size := by rw [ba_size]; omega
      have : numOK l = false := by unfold numOK; rw [decide_eq_false (show ¬ l.length ≤ 18 by omega)]; simp
      simp -implicitDefEqProofs only [go_sem, reduceIte, reduceCtorEq, Nat.reduceEqDiff, Nat.reduceAdd, Nat.reduceSub, Nat.reduceLT, Nat.reduceLeDiff, Nat.reduceBEq, Nat.reduceMul, Nat.reduceBNe, Int.reduceEq, Int.reduceLT, Int.reduceLE, Int.reduceNe, Int.reduceToNat, ir_def_number, ba_nil, c1, c2', numR, this]
    · have c2' : ¬ (18 : Int) < (BA l).size := by rw [ba_size]; omega
      have hb := byteAt_ba (l := l) (i := 0) (List.length_pos_iff.2 c1)
      simp only [Int.natCast_zero] at hb
      have hn : ((l.getD 0 0).toNat : Int) = 48 ↔ l.getD 0 0 = 48 := by
        constructor
        · intro h
          have : (l.getD 0 0).toNat = (48 : UInt8).toNat := by show _ = 48; omega
          exact UInt8.toNat_inj.1 this
        · intro h; rw [h]; rfl
      have hb1 : ((1 : Int) < (BA l).size) ↔ 1 < l.length := by rw [ba_size]; omega
      have h48 : ((UInt8.toNat 48 : Nat) : Int) = 48 := rfl
      by_cases c3 : l.getD 0 0 = 48 ∧ 1 < l.length
      · have : numOK l = false := by unfold numOK; rw [decide_eq_true c3.1, decide_eq_true c3.2]; simp
        simp -implicitDefEqProofs only [go_sem, reduceIte, reduceCtorEq, Nat.reduceEqDiff, Nat.reduceAdd, Nat.reduceSub, Nat.reduceLT, Nat.reduceLeDiff, Nat.reduceBEq, Nat.reduceMul, Nat.reduceBNe, Int.reduceEq, Int.reduceLT, Int.reduceLE, Int.reduceNe, Int.reduceToNat, ir_def_number, ba_nil, c1, c2', hb, hn, hb1, c3, numR, this, h48]
      · obtain ⟨q, ih⟩ := number_loop l (by omega) (loopL_eq (IR.runL E.glob (callL E) [] ir_def_number_L0) (compact [] 1 [2, 24])) l.length 0 0 (by omega) (by omega) (by omega) (by decide)
        rw [List.drop_zero] at ih
        have hk : numOK l = l.all isDig := by
          unfold numOK
          rw [decide_eq_true c1, decide_eq_true (show l.length ≤ 18 by omega)]
          by_cases c4 : l.getD 0 0 = 48
          · rw [decide_eq_false fun h => c3 ⟨c4, h⟩]; simp
          · rw [decide_eq_false c4]; simp
        unfold numR
        rw [hk]
        by_cases c4 : l.getD 0 0 = 48
        · have c5 : ¬ 1 < l.length := fun h => c3 ⟨c4, h⟩
          cases c6 : l.all isDig
          · simp only [c6, Bool.false_eq_true, if_false] at ih
            simp -implicitDefEqProofs only [go_sem, reduceIte, reduceCtorEq, Nat.reduceEqDiff, Nat.reduceAdd, Nat.reduceSub, Nat.reduceLT, Nat.reduceLeDiff, Nat.reduceBEq, Nat.reduceMul, Nat.reduceBNe, Int.reduceEq, Int.reduceLT, Int.reduceLE, Int.reduceNe, Int.reduceToNat, ir_def_number, ba_nil, c1, c2', hb, hn, hb1, c4, c5, ih, h48]
          · simp only [c6, if_true] at ih
            simp -implicitDefEqProofs only [go_sem, reduceIte, reduceCtorEq, Nat.reduceEqDiff, Nat.reduceAdd, Nat.reduceSub, Nat.reduceLT, Nat.reduceLeDiff, Nat.reduceBEq, Nat.reduceMul, Nat.reduceBNe, Int.reduceEq, Int.reduceLT, Int.reduceLE, Int.reduceNe, Int.reduceToNat, ir_def_number, ba_nil, c1, c2', hb, hn, hb1, c4, c5, ih, h48]
        · cases c6 : l.all isDig
          · simp only [c6, Bool.false_eq_true, if_false] at ih
            simp -implicitDefEqProofs only [go_sem, reduceIte, reduceCtorEq, Nat.reduceEqDiff, Nat.reduceAdd, Nat.reduceSub, Nat.reduceLT, Nat.reduceLeDiff, Nat.reduceBEq, Nat.reduceMul, Nat.reduceBNe, Int.reduceEq, Int.reduceLT, Int.reduceLE, Int.reduceNe, Int.reduceToNat, ir_def_number, ba_nil, c1, c2', hb, hn, hb1, c4, ih]
          · simp only [c6, if_true] at ih
            simp -implicitDefEqProofs only [go_sem, reduceIte, reduceCtorEq, Nat.reduceEqDiff, Nat.reduceAdd, Nat.reduceSub, Nat.reduceLT, Nat.reduceLeDiff, Nat.reduceBEq, Nat.reduceMul, Nat.reduceBNe, Int.reduceEq, Int.reduceLT, Int.reduceLE, Int.reduceNe, Int.reduceToNat, ir_def_number, ba_nil, c1, c2', hb, hn, hb1, c4, ih]

theorem ba_app (a b : List UInt8) : BA a ++ BA b = BA (a ++ b) := by
  rw [← ba_of (BA a ++ BA b)]
  rw [ba_inj, ByteArray.data_append, Array.toList_append, ba_data, ba_data]
/-- Bytes to a text. -/
def b2sF (st : Store) (a : AV) : Option ByteArray :=
  match a with
  | .v (.string _) => none
  | a => match elems st a with
    | some xs => match vals xs.flatten with
      | some vs => if vs.length = xs.length ∧ vs.all (fun | .int .u8 _ => true | _ => false) = true then some ⟨(vs.map fun | .int _ n => UInt8.ofNat n.toNat | _ => 0).toArray⟩ else none
      | none => none
    | none => none
theorem ev_b2s {G : Nat → Option (List AV)} {bs : List Nat} {e : Env} {st : Store} (x : Opd) : Prim.ev G bs e st (.b2s x) = (x.ev G e).bind fun a => (b2sF st a).bind fun s => some (.v (.string s), st) := by
  simp only [Prim.ev]
  cases x.ev G e with
  | none => rfl
  | some a =>
    have aux : ∀ o : Option (List (List AV)), (match o with
      | some xs => match vals xs.flatten with
        | some vs => if vs.length = xs.length ∧ vs.all (fun | .int .u8 _ => true | _ => false) = true then some (AV.v (.string ⟨(vs.map fun | .int _ n => UInt8.ofNat n.toNat | _ => 0).toArray⟩), st) else none
        | none => none
      | none => none) = (match o with
      | some xs => match vals xs.flatten with
        | some vs => if vs.length = xs.length ∧ vs.all (fun | .int .u8 _ => true | _ => false) = true then some (⟨(vs.map fun | .int _ n => UInt8.ofNat n.toNat | _ => 0).toArray⟩ : ByteArray) else none
        | none => none
      | none => none : Option ByteArray).bind fun s => some (.v (.string s), st) := by
      intro o
      cases o with
      | none => rfl
      | some xs => dsimp only; cases vals xs.flatten with
        | none => rfl
        | some vs => dsimp only; split <;> rfl
    have aux' := aux (elems st a)
    cases a with
    | v p => cases p with
      | string s => rfl
      | _ => exact aux'
    | _ => exact aux'
theorem b2s_one (st : Store) (n : Int) : b2sF st (.sl 1 [[.v (.int .u8 n)]]) = some (BA [UInt8.ofNat n.toNat]) := rfl
theorem decimal_loop {G : Nat → Option (List AV)} {raw : Raw} {L : Env × Store → Option (Sig × Env × Store)}
    (hL : ∀ e st, L (e, st) = (IR.runL G raw [] ir_usufructref13_Decimal_L0 e st).bind (seqK fun e st => L (compact [] 0 [0, 3] e st))) :
    ∀ (u : Nat) (t : List UInt8), u ≤ 9223372036854775807 → t.length + Lib.nDigits u ≤ 1000 → L ([(0, vi u), (3, vs (BA t))], []) = some (.ret, [(2, vs (BA (Lib.decDigits u ++ t)))], []) := by
  intro u
  induction u using Nat.strongRecOn with
  | _ u ih =>
    intro t hu ht
    have hp := Lib.nDigits_pos u
    have r1 : Int.tmod (u : Int) 10 = ((u % 10 : Nat) : Int) := by rw [Int.tmod_eq_emod_of_nonneg (by omega)]; omega
    have r2 : Int.tdiv (u : Int) 10 = ((u / 10 : Nat) : Int) := by rw [Int.tdiv_eq_ediv_of_nonneg (by omega)]; omega
    have w1 : IntKind.i64.wrap (48 + ((u % 10 : Nat) : Int)) = ((48 + u % 10 : Nat) : Int) := by rw [IntWalk.i64_in _ (by omega)]; omega
    have w2 : IntKind.u8.wrap ((48 + u % 10 : Nat) : Int) = ((48 + u % 10 : Nat) : Int) := by rw [IntKind.wrap_u8]; omega
    have w3 : IntKind.i64.wrap ((u / 10 : Nat) : Int) = ((u / 10 : Nat) : Int) := IntWalk.i64_in _ (by omega)
    have hs : ¬ (9223372036854775807 : Int) < (((BA [UInt8.ofNat (48 + u % 10)]).size + (BA t).size : Nat) : Int) := by
      rw [ba_size, ba_size]; simp only [List.length_cons, List.length_nil]; omega
    have w0 : IntKind.i64.wrap 0 = 0 := rfl
    rw [hL]
    by_cases c : u < 10
    · have c1 : u / 10 = 0 := by omega
      have c2 : u % 10 = u := by omega
      have hd : Lib.decDigits u = [UInt8.ofNat (48 + u)] := by rw [Lib.decDigits, dif_pos c]
      rw [hd]
      simp only [c2, c1] at r1 r2 w1 w2 w3 hs
      simp -implicitDefEqProofs only [go_sem, reduceIte, reduceCtorEq, Nat.reduceEqDiff, Nat.reduceAdd, Nat.reduceSub, Nat.reduceLT, Nat.reduceLeDiff, Nat.reduceBEq, Nat.reduceMul, Nat.reduceBNe, Int.reduceEq, Int.reduceLT, Int.reduceLE, Int.reduceNe, Int.reduceToNat, ir_usufructref13_Decimal_L0, ev_b2s, b2s_one, r1, r2, w1, w2, w3, hs, ba_app, c1, c2, w0, Int.natCast_zero, List.singleton_append]
    · have c1 : ¬ ((u / 10 : Nat) : Int) = 0 := by omega
      have hd : Lib.decDigits u = Lib.decDigits (u / 10) ++ [UInt8.ofNat (48 + u % 10)] := by rw [Lib.decDigits, dif_neg c]
      have hn := Lib.nDigits_big c
      have ih' := ih (u / 10) (by omega) (UInt8.ofNat (48 + u % 10) :: t) (by omega) (by simp only [List.length_cons]; omega)
      rw [hd, List.append_assoc, List.singleton_append]
      simp -implicitDefEqProofs only [go_sem, reduceIte, reduceCtorEq, Nat.reduceEqDiff, Nat.reduceAdd, Nat.reduceSub, Nat.reduceLT, Nat.reduceLeDiff, Nat.reduceBEq, Nat.reduceMul, Nat.reduceBNe, Int.reduceEq, Int.reduceLT, Int.reduceLE, Int.reduceNe, Int.reduceToNat, ir_usufructref13_Decimal_L0, ev_b2s, b2s_one, r1, r2, w1, w2, w3, hs, ba_app, c1, List.singleton_append, ih']
theorem fn_decimal {E : Prog} (hE : Std E fns) (n : Int) (h0 : 0 ≤ n) (h1 : n ≤ 9223372036854775807) : callP E f_usufructref13_Decimal [vi n] = some (vs (BA (Lib.itoa n))) := by
  obtain ⟨u, rfl⟩ := Int.eq_ofNat_of_zero_le h0
  have hd := nDigits_le 18 u (by
    have : (10 : Nat) ^ (18 + 1) = 10000000000000000000 := by decide
    omega)
  have h := decimal_loop (loopL_eq (IR.runL E.glob (callL E) [] ir_usufructref13_Decimal_L0) (compact [] 0 [0, 3])) u [] (by omega) (by simp only [List.length_nil]; omega)
  have e : Lib.itoa (u : Int) = Lib.decDigits u := by unfold Lib.itoa; rw [if_neg (by omega), Int.toNat_natCast]
  rw [hE.run rfl rfl, e]
  rw [List.append_nil] at h
  have hb : BA [] = ⟨#[]⟩ := rfl
  rw [hb] at h
  simp -implicitDefEqProofs only [go_sem, reduceIte, reduceCtorEq, Nat.reduceEqDiff, Nat.reduceAdd, Nat.reduceSub, Nat.reduceLT, Nat.reduceLeDiff, Nat.reduceBEq, Nat.reduceMul, Nat.reduceBNe, Int.reduceEq, Int.reduceLT, Int.reduceLE, Int.reduceNe, Int.reduceToNat, ir_usufructref13_Decimal, h]
theorem itoa_len {n : Int} (h0 : 0 ≤ n) (h1 : n ≤ 9223372036854775807) : (Lib.itoa n).length ≤ 19 := by
  obtain ⟨u, rfl⟩ := Int.eq_ofNat_of_zero_le h0
  have e : Lib.itoa (u : Int) = Lib.decDigits u := by unfold Lib.itoa; rw [if_neg (by omega), Int.toNat_natCast]
  rw [e, Lib.decDigits_length]
  exact nDigits_le 18 u (by
    have : (10 : Nat) ^ (18 + 1) = 10000000000000000000 := by decide
    omega)
theorem way_len (u : Bool) : (wayL u).length ≤ 4 := by cases u <;> decide
theorem len_sl {st : Store} {k : Nat} {xs : List (List AV)} : lenAV st (.sl k xs) = some xs.length := rfl
theorem ias_sl {st : Store} {k : Nat} {j : Int} {xs : List (List AV)} : iasF st k j (.sl k xs) = if 0 ≤ j then (xs[j.toNat]?).bind fun c => some (.rop c) else none := by simp only [iasF, if_true]
theorem n3 : ((3 : Nat) : Int) = 3 := rfl
theorem int2 : (2 : Int).toNat = 2 := rfl
def cutC : Option (Int × List UInt8 × Bool) → List AV
  | some (n, nm, u) => [vi n, vs (BA nm), vb u, vb true]
  | none => [vi 0, vs ⟨#[]⟩, vb false, vb false]
theorem fn_cut {E : Prog} (hE : Std E fns) (hv : ∀ s : ByteArray, s.size < 9223372036854775807 → callP E f_utf8_ValidString [vs s] = some (vb (Lib.validD s.data.toList)))
    (hsp : ∀ s : ByteArray, s.size < 4294967281 → callP E f_strings_Split [vs s, vs ⟨#[47]⟩] = some (.sl 1 ((parts s.data.toList).map fun b => [vs (BA b)])))
    (L : List UInt8) (hl : L.length ≤ 400) : callP E f_def_Cut [vs (BA L)] = some (.tup (cutC (cutS L))) := by
  have h := hsp (BA L) (by rw [ba_size]; omega)
  rw [ba_data] at h
  have hw0 := fn_way hE false
  have hw1 := fn_way hE true
  rw [hE.run rfl rfl]
  cases hp : parts L with
  | nil => exact absurd hp (parts_ne L)
  | cons a p1 => cases p1 with
    | nil => simp only [hp, List.map_cons, List.map_nil] at h; simp -implicitDefEqProofs only [go_sem, reduceIte, reduceCtorEq, Nat.reduceEqDiff, Nat.reduceAdd, Nat.reduceSub, Nat.reduceLT, Nat.reduceLeDiff, Nat.reduceBEq, Nat.reduceMul, Nat.reduceBNe, Int.reduceEq, Int.reduceLT, Int.reduceLE, Int.reduceNe, Int.reduceToNat, ir_def_Cut, n3, len_sl, ias_sl, Int.toNat_one, int2, h, cutS, hp, cutC, Int.natCast_one]
    | cons b p2 => cases p2 with
      | nil => simp only [hp, List.map_cons, List.map_nil] at h; simp -implicitDefEqProofs only [go_sem, reduceIte, reduceCtorEq, Nat.reduceEqDiff, Nat.reduceAdd, Nat.reduceSub, Nat.reduceLT, Nat.reduceLeDiff, Nat.reduceBEq, Nat.reduceMul, Nat.reduceBNe, Int.reduceEq, Int.reduceLT, Int.reduceLE, Int.reduceNe, Int.reduceToNat, ir_def_Cut, n3, len_sl, ias_sl, Int.toNat_one, int2, h, cutS, hp, cutC]; rfl
      | cons c p3 => cases p3 with
        | cons d p4 =>
          have h3 : ¬ ((p4.length + 4 : Nat) : Int) = 3 := by omega
          simp only [hp, List.map_cons, List.map_nil] at h; simp -implicitDefEqProofs only [go_sem, reduceIte, reduceCtorEq, Nat.reduceEqDiff, Nat.reduceAdd, Nat.reduceSub, Nat.reduceLT, Nat.reduceLeDiff, Nat.reduceBEq, Nat.reduceMul, Nat.reduceBNe, Int.reduceEq, Int.reduceLT, Int.reduceLE, Int.reduceNe, Int.reduceToNat, ir_def_Cut, n3, len_sl, ias_sl, Int.toNat_one, int2, h, cutS, hp, cutC, h3]
        | nil =>
          have hL := congrArg List.length (parts_three hp)
          simp only [List.length_append, List.length_cons] at hL
          have hg := fn_labelGood hE hv (BA b) (by rw [ba_size]; omega)
          have hn := fn_number hE a (by omega)
          simp only [hp, List.map_cons, List.map_nil] at h
          cases c1 : labelGood (BA b)
          · rw [c1] at hg
            simp -implicitDefEqProofs only [go_sem, reduceIte, reduceCtorEq, Nat.reduceEqDiff, Nat.reduceAdd, Nat.reduceSub, Nat.reduceLT, Nat.reduceLeDiff, Nat.reduceBEq, Nat.reduceMul, Nat.reduceBNe, Int.reduceEq, Int.reduceLT, Int.reduceLE, Int.reduceNe, Int.reduceToNat, ir_def_Cut, n3, len_sl, ias_sl, Int.toNat_one, int2, h, hg, cutS, cut3, hp, cutC, c1]
          · rw [c1] at hg
            by_cases c2 : c = wayL false
            · subst c2
              cases c4 : numOK a
              · simp only [numR, c4, Bool.false_eq_true, if_false] at hn
                simp -implicitDefEqProofs only [go_sem, reduceIte, reduceCtorEq, Nat.reduceEqDiff, Nat.reduceAdd, Nat.reduceSub, Nat.reduceLT, Nat.reduceLeDiff, Nat.reduceBEq, Nat.reduceMul, Nat.reduceBNe, Int.reduceEq, Int.reduceLT, Int.reduceLE, Int.reduceNe, Int.reduceToNat, ir_def_Cut, n3, len_sl, ias_sl, Int.toNat_one, int2, h, hg, hw0, hw1, hn, ba_inj, wayL_inj, cutS, cut3, hp, cutC, c1, c4]
              · simp only [numR, c4, if_true] at hn
                simp -implicitDefEqProofs only [go_sem, reduceIte, reduceCtorEq, Nat.reduceEqDiff, Nat.reduceAdd, Nat.reduceSub, Nat.reduceLT, Nat.reduceLeDiff, Nat.reduceBEq, Nat.reduceMul, Nat.reduceBNe, Int.reduceEq, Int.reduceLT, Int.reduceLE, Int.reduceNe, Int.reduceToNat, ir_def_Cut, n3, len_sl, ias_sl, Int.toNat_one, int2, h, hg, hw0, hw1, hn, ba_inj, wayL_inj, cutS, cut3, hp, cutC, c1, c4]
            · by_cases c3 : c = wayL true
              · subst c3
                cases c4 : numOK a
                · simp only [numR, c4, Bool.false_eq_true, if_false] at hn
                  simp -implicitDefEqProofs only [go_sem, reduceIte, reduceCtorEq, Nat.reduceEqDiff, Nat.reduceAdd, Nat.reduceSub, Nat.reduceLT, Nat.reduceLeDiff, Nat.reduceBEq, Nat.reduceMul, Nat.reduceBNe, Int.reduceEq, Int.reduceLT, Int.reduceLE, Int.reduceNe, Int.reduceToNat, ir_def_Cut, n3, len_sl, ias_sl, Int.toNat_one, int2, h, hg, hw0, hw1, hn, ba_inj, wayL_inj, cutS, cut3, hp, cutC, c1, c4]
                · simp only [numR, c4, if_true] at hn
                  simp -implicitDefEqProofs only [go_sem, reduceIte, reduceCtorEq, Nat.reduceEqDiff, Nat.reduceAdd, Nat.reduceSub, Nat.reduceLT, Nat.reduceLeDiff, Nat.reduceBEq, Nat.reduceMul, Nat.reduceBNe, Int.reduceEq, Int.reduceLT, Int.reduceLE, Int.reduceNe, Int.reduceToNat, ir_def_Cut, n3, len_sl, ias_sl, Int.toNat_one, int2, h, hg, hw0, hw1, hn, ba_inj, wayL_inj, cutS, cut3, hp, cutC, c1, c4]
              · simp -implicitDefEqProofs only [go_sem, reduceIte, reduceCtorEq, Nat.reduceEqDiff, Nat.reduceAdd, Nat.reduceSub, Nat.reduceLT, Nat.reduceLeDiff, Nat.reduceBEq, Nat.reduceMul, Nat.reduceBNe, Int.reduceEq, Int.reduceLT, Int.reduceLE, Int.reduceNe, Int.reduceToNat, ir_def_Cut, n3, len_sl, ias_sl, Int.toNat_one, int2, h, hg, hw0, hw1, hn, ba_inj, wayL_inj, cutS, cut3, hp, cutC, c1, c2, c3]

/-! ### the document's -/
def st0 : Store := [.box [vi 0, vs ⟨#[]⟩, vb false, vb false]]
theorem ba_ext (L : List UInt8) (a b : Nat) : (BA L).extract a b = BA ((L.drop a).take (b - a)) := by
  rw [← ba_of ((BA L).extract a b), ba_inj, Lib.extract_data, ba_data]
theorem ba_end (L : List UInt8) (a : Nat) : (BA L).extract a (BA L).size = BA (L.drop a) := by
  rw [← ba_of ((BA L).extract a (BA L).size), ba_inj, Lib.extract_to_end, ba_data]
theorem byte_iff {x y : UInt8} : ((x.toNat : Nat) : Int) = ((y.toNat : Nat) : Int) ↔ x = y := by
  constructor
  · intro h; exact UInt8.toNat_inj.1 (by omega)
  · intro h; rw [h]
def endK (L : List UInt8) (n : Int) (i : Nat) : Option (List UInt8 × Bool) → Option (Sig × Env × Store)
  | some (nm, u) => some (.ret, [(2, .ref 0 0 0 0)], [.box [vi n, vs (BA nm), vb u, vb true]])
  | none => some (.exit 2, [(0, vs (BA L)), (2, .ref 0 0 0 0), (3, vi n), (4, vi i)], st0)
theorem readK_loop {E : Prog} (hE : Std E fns) {LL : Env × Store → Option (Sig × Env × Store)} (L : List UInt8) (hl : L.length ≤ 400) (i : Nat) (n : Int)
    (hL : ∀ e st, LL (e, st) = (IR.runL E.glob (callL E) [] ir_usufructref13_Read_L0 e st).bind (seqK fun e st => LL (compact [] 1 [0, 2, 3, 4, 5] e st))) :
    ∀ (f k : Nat), L.length - k ≤ f → i + 2 ≤ k → k ≤ L.length + 20 → LL ([(0, vs (BA L)), (2, .ref 0 0 0 0), (3, vi n), (4, vi i), (5, vi k)], st0) = endK L n i (readK L i f k)
  | 0, k, h, hk, hk2 => by
    have c : ¬ (k : Int) < ((BA L).size : Int) := by rw [ba_size]; omega
    rw [hL]
    simp -implicitDefEqProofs only [go_sem, reduceIte, reduceCtorEq, Nat.reduceEqDiff, Nat.reduceAdd, Nat.reduceSub, Nat.reduceLT, Nat.reduceLeDiff, Nat.reduceBEq, Nat.reduceMul, Nat.reduceBNe, Int.reduceEq, Int.reduceLT, Int.reduceLE, Int.reduceNe, Int.reduceToNat, ir_usufructref13_Read_L0, st0, c, readK, endK]
  | f + 1, k, h, hk, hk2 => by
    by_cases c0 : k < L.length
    · have c : (k : Int) < ((BA L).size : Int) := by rw [ba_size]; omega
      have c' : (k : Int) ≤ ((BA L).size : Int) := by omega
      have c'' : ((BA L).size : Int) ≤ ((BA L).size : Int) := by omega
      have w1 : IntKind.i64.wrap ((i : Int) + 1) = ((i + 1 : Nat) : Int) := by rw [IntWalk.i64_in _ (by omega)]; omega
      have w2 : IntKind.i64.wrap ((i : Int) + 2) = ((i + 2 : Nat) : Int) := by rw [IntWalk.i64_in _ (by omega)]; omega
      have w3 := wrap_succ (i := k) (by omega)
      have b1 := byteAt_ba (l := L) (i := i + 1) (by omega)
      have b2 := byteAt_ba (l := L) (i := k) c0
      have hk' : ((i + 2 : Nat) : Int) ≤ (k : Int) := by omega
      have q47 : (((47 : UInt8).toNat : Nat) : Int) = 47 := rfl
      have ih := readK_loop hE L hl i n hL f (k + 1) (by omega) (by omega) (by omega)
      simp only [st0] at ih
      have hg := fn_refGood hE (BA ((L.drop (i + 2)).take (k - (i + 2)))) (by rw [ba_size, List.length_take]; omega)
      have e1 : (⟨#[47, 100, 111]⟩ : ByteArray) = BA (47 :: wayL false) := rfl
      have e2 : (⟨#[47, 117, 110, 100, 111]⟩ : ByteArray) = BA (47 :: wayL true) := rfl
      have ht : (L.drop k).take ((BA L).size - k) = L.drop k := List.take_of_length_le (by rw [List.length_drop, ba_size]; omega)
      unfold readK
      rw [if_pos c0, hL]
      by_cases c1 : L.getD (i + 1) 0 = 47
      · by_cases c2 : L.getD k 0 = 47
        · cases c3 : labelGood (BA ((L.drop (i + 2)).take (k - (i + 2))))
          · rw [c3] at hg
            simp -implicitDefEqProofs only [go_sem, reduceIte, reduceCtorEq, Nat.reduceEqDiff, Nat.reduceAdd, Nat.reduceSub, Nat.reduceLT, Nat.reduceLeDiff, Nat.reduceBEq, Nat.reduceMul, Nat.reduceBNe, Int.reduceEq, Int.reduceLT, Int.reduceLE, Int.reduceNe, Int.reduceToNat, ir_usufructref13_Read_L0, st0, c, c', c'', w1, w2, w3, b1, b2, hk', ih, hg, ba_ext, ht, ba_inj, e1, e2, c1, c2, c3, q47]
          · rw [c3] at hg
            by_cases c4 : L.drop k = 47 :: wayL false
            · have c5 : ¬ (47 :: wayL false = 47 :: wayL true) := by decide
              rw [c4] at ht
              simp -implicitDefEqProofs only [go_sem, reduceIte, reduceCtorEq, Nat.reduceEqDiff, Nat.reduceAdd, Nat.reduceSub, Nat.reduceLT, Nat.reduceLeDiff, Nat.reduceBEq, Nat.reduceMul, Nat.reduceBNe, Int.reduceEq, Int.reduceLT, Int.reduceLE, Int.reduceNe, Int.reduceToNat, ir_usufructref13_Read_L0, st0, c, c', c'', w1, w2, w3, b1, b2, hk', ih, hg, ba_ext, ht, ba_inj, e1, e2, c1, c2, c3, c4, c5, q47, endK]
            · by_cases c5 : L.drop k = 47 :: wayL true
              · have c6 : ¬ (47 :: wayL true = 47 :: wayL false) := by decide
                rw [c5] at ht
                simp -implicitDefEqProofs only [go_sem, reduceIte, reduceCtorEq, Nat.reduceEqDiff, Nat.reduceAdd, Nat.reduceSub, Nat.reduceLT, Nat.reduceLeDiff, Nat.reduceBEq, Nat.reduceMul, Nat.reduceBNe, Int.reduceEq, Int.reduceLT, Int.reduceLE, Int.reduceNe, Int.reduceToNat, ir_usufructref13_Read_L0, st0, c, c', c'', w1, w2, w3, b1, b2, hk', ih, hg, ba_ext, ht, ba_inj, e1, e2, c1, c2, c3, c5, c6, q47, endK]
              · simp -implicitDefEqProofs only [go_sem, reduceIte, reduceCtorEq, Nat.reduceEqDiff, Nat.reduceAdd, Nat.reduceSub, Nat.reduceLT, Nat.reduceLeDiff, Nat.reduceBEq, Nat.reduceMul, Nat.reduceBNe, Int.reduceEq, Int.reduceLT, Int.reduceLE, Int.reduceNe, Int.reduceToNat, ir_usufructref13_Read_L0, st0, c, c', c'', w1, w2, w3, b1, b2, hk', ih, hg, ba_ext, ht, ba_inj, e1, e2, c1, c2, c3, c4, c5, q47]
        · have c2' : ¬ (((L.getD k 0).toNat : Nat) : Int) = 47 := fun h => c2 (byte_iff.1 (h.trans q47.symm))
          simp -implicitDefEqProofs only [go_sem, reduceIte, reduceCtorEq, Nat.reduceEqDiff, Nat.reduceAdd, Nat.reduceSub, Nat.reduceLT, Nat.reduceLeDiff, Nat.reduceBEq, Nat.reduceMul, Nat.reduceBNe, Int.reduceEq, Int.reduceLT, Int.reduceLE, Int.reduceNe, Int.reduceToNat, ir_usufructref13_Read_L0, st0, c, c', c'', w1, w2, w3, b1, b2, hk', ih, c1, c2, c2', q47]
      · have c1' : ¬ (((L.getD (i + 1) 0).toNat : Nat) : Int) = 47 := fun h => c1 (byte_iff.1 (h.trans q47.symm))
        simp -implicitDefEqProofs only [go_sem, reduceIte, reduceCtorEq, Nat.reduceEqDiff, Nat.reduceAdd, Nat.reduceSub, Nat.reduceLT, Nat.reduceLeDiff, Nat.reduceBEq, Nat.reduceMul, Nat.reduceBNe, Int.reduceEq, Int.reduceLT, Int.reduceLE, Int.reduceNe, Int.reduceToNat, ir_usufructref13_Read_L0, st0, c, c', c'', w1, w2, w3, b1, b2, hk', ih, c1, c1', q47]
    · have c : ¬ (k : Int) < ((BA L).size : Int) := by rw [ba_size]; omega
      unfold readK
      rw [if_neg c0, hL]
      simp -implicitDefEqProofs only [go_sem, reduceIte, reduceCtorEq, Nat.reduceEqDiff, Nat.reduceAdd, Nat.reduceSub, Nat.reduceLT, Nat.reduceLeDiff, Nat.reduceBEq, Nat.reduceMul, Nat.reduceBNe, Int.reduceEq, Int.reduceLT, Int.reduceLE, Int.reduceNe, Int.reduceToNat, ir_usufructref13_Read_L0, st0, c, endK]
def endI (r : Option (Int × List UInt8 × Bool)) (sg : Sig) : Option (Sig × Env × Store) :=
  match r with
  | some (m, nm, u) => some (.ret, [(2, .ref 0 0 0 0)], [.box [vi m, vs (BA nm), vb u, vb true]])
  | none => some (sg, [(2, .ref 0 0 0 0)], st0)
theorem readI_loop {E : Prog} (hE : Std E fns) {LL : Env × Store → Option (Sig × Env × Store)} (L : List UInt8) (hl : L.length ≤ 400)
    (hL : ∀ e st, LL (e, st) = (IR.runL E.glob (callL E) [] ir_usufructref13_Read_L1 e st).bind (seqK fun e st => LL (compact [] 1 [0, 2, 3, 4] e st))) :
    ∀ (f i : Nat) (n : Int), i + f = 18 → 0 ≤ n → n < ((10 ^ i : Nat) : Int) → ∃ sg, (sg = .exit 0 ∨ sg = .ret) ∧ LL ([(0, vs (BA L)), (2, .ref 0 0 0 0), (3, vi n), (4, vi i)], st0) = endI (readI L f i n) sg
  | 0, i, n, h, h0, hn => by
    have hi : i = 18 := by omega
    subst hi
    have c2 : ¬ ((18 : Nat) : Int) < 18 := by omega
    refine ⟨.exit 0, Or.inl rfl, ?_⟩
    rw [hL]
    by_cases c : ((18 : Nat) : Int) < ((BA L).size : Int)
    · simp -implicitDefEqProofs only [go_sem, reduceIte, reduceCtorEq, Nat.reduceEqDiff, Nat.reduceAdd, Nat.reduceSub, Nat.reduceLT, Nat.reduceLeDiff, Nat.reduceBEq, Nat.reduceMul, Nat.reduceBNe, Int.reduceEq, Int.reduceLT, Int.reduceLE, Int.reduceNe, Int.reduceToNat, ir_usufructref13_Read_L1, st0, c, c2, readI, endI]
    · simp -implicitDefEqProofs only [go_sem, reduceIte, reduceCtorEq, Nat.reduceEqDiff, Nat.reduceAdd, Nat.reduceSub, Nat.reduceLT, Nat.reduceLeDiff, Nat.reduceBEq, Nat.reduceMul, Nat.reduceBNe, Int.reduceEq, Int.reduceLT, Int.reduceLE, Int.reduceNe, Int.reduceToNat, ir_usufructref13_Read_L1, st0, c, c2, readI, endI]
  | f + 1, i, n, h, h0, hn => by
    have c2 : (i : Int) < 18 := by omega
    by_cases c0 : i < L.length
    · have c : (i : Int) < ((BA L).size : Int) := by rw [ba_size]; omega
      have b1 := byteAt_ba (l := L) (i := i) c0
      have b0 := byteAt_ba (l := L) (i := 0) (by omega)
      simp only [Int.natCast_zero] at b0
      by_cases cd : isDig (L.getD i 0) = true
      · have hb := dig_of cd
        have d1 : (48 : Int) ≤ ((L.getD i 0).toNat : Int) := by omega
        have d2 : ((L.getD i 0).toNat : Int) ≤ 57 := by omega
        have h10 : 10 ^ i ≤ 10 ^ 17 := Nat.pow_le_pow_right (by decide) (by omega)
        have h11 : 10 ^ 17 = 100000000000000000 := by decide
        have w1 : IntKind.i64.wrap (10 * n) = 10 * n := IntWalk.i64_in _ (by omega)
        have w2 : IntKind.i64.wrap ((L.getD i 0).toNat : Int) = ((L.getD i 0).toNat : Int) := IntWalk.i64_in _ (by omega)
        have w3 : IntKind.i64.wrap (10 * n + ((L.getD i 0).toNat : Int)) = 10 * n + ((L.getD i 0).toNat : Int) := IntWalk.i64_in _ (by omega)
        have w4 : IntKind.i64.wrap (10 * n + ((L.getD i 0).toNat : Int) - 48) = 10 * n + (((L.getD i 0).toNat : Int) - 48) := by rw [IntWalk.i64_in _ (by omega)]; omega
        have w5 : IntKind.i64.wrap ((i : Int) + 2) = ((i + 2 : Nat) : Int) := by rw [IntWalk.i64_in _ (by omega)]; omega
        have w6 := wrap_succ (i := i) (by omega)
        have q48 : (((48 : UInt8).toNat : Nat) : Int) = 48 := rfl
        have hk := readK_loop hE L hl i (10 * n + (((L.getD i 0).toNat : Int) - 48)) (loopL_eq (IR.runL E.glob (callL E) [] ir_usufructref13_Read_L0) (compact [] 1 [0, 2, 3, 4, 5])) (L.length - (i + 2)) (i + 2) (by omega) (by omega) (by omega)
        obtain ⟨sg, hsg, ih⟩ := readI_loop hE L hl hL f (i + 1) (10 * n + (((L.getD i 0).toNat : Int) - 48)) (by omega) (by omega) (by rw [Nat.pow_succ]; omega)
        simp only [st0] at hk ih
        unfold readI
        rw [if_pos ⟨c0, cd⟩]
        by_cases c3 : 0 < i
        · have c3' : (0 : Int) < (i : Int) := by omega
          by_cases c4 : L.getD 0 0 = 48
          · refine ⟨.ret, Or.inr rfl, ?_⟩
            rw [hL, if_pos ⟨c3, c4⟩]
            simp -implicitDefEqProofs only [go_sem, reduceIte, reduceCtorEq, Nat.reduceEqDiff, Nat.reduceAdd, Nat.reduceSub, Nat.reduceLT, Nat.reduceLeDiff, Nat.reduceBEq, Nat.reduceMul, Nat.reduceBNe, Int.reduceEq, Int.reduceLT, Int.reduceLE, Int.reduceNe, Int.reduceToNat, ir_usufructref13_Read_L1, st0, c, c2, b1, b0, d1, d2, w1, w2, w3, w4, c3', c4, q48, endI]
          · have c4' : ¬ (((L.getD 0 0).toNat : Nat) : Int) = 48 := fun h => c4 (byte_iff.1 (h.trans q48.symm))
            rw [hL, if_neg fun q => c4 q.2]
            cases hr : readK L i (L.length - (i + 2)) (i + 2) with
            | some r =>
              obtain ⟨nm, u⟩ := r
              rw [hr] at hk
              simp only [endK] at hk
              refine ⟨.ret, Or.inr rfl, ?_⟩
              simp -implicitDefEqProofs only [go_sem, reduceIte, reduceCtorEq, Nat.reduceEqDiff, Nat.reduceAdd, Nat.reduceSub, Nat.reduceLT, Nat.reduceLeDiff, Nat.reduceBEq, Nat.reduceMul, Nat.reduceBNe, Int.reduceEq, Int.reduceLT, Int.reduceLE, Int.reduceNe, Int.reduceToNat, ir_usufructref13_Read_L1, st0, c, c2, b1, b0, d1, d2, w1, w2, w3, w4, w5, w6, c3', c4', hk, endI]
            | none =>
              rw [hr] at hk
              simp only [endK] at hk
              refine ⟨sg, hsg, ?_⟩
              simp -implicitDefEqProofs only [go_sem, reduceIte, reduceCtorEq, Nat.reduceEqDiff, Nat.reduceAdd, Nat.reduceSub, Nat.reduceLT, Nat.reduceLeDiff, Nat.reduceBEq, Nat.reduceMul, Nat.reduceBNe, Int.reduceEq, Int.reduceLT, Int.reduceLE, Int.reduceNe, Int.reduceToNat, ir_usufructref13_Read_L1, st0, c, c2, b1, b0, d1, d2, w1, w2, w3, w4, w5, w6, c3', c4', hk, ih]
        · have c3' : ¬ (0 : Int) < (i : Int) := by omega
          rw [hL, if_neg fun q => c3 q.1]
          cases hr : readK L i (L.length - (i + 2)) (i + 2) with
          | some r =>
            obtain ⟨nm, u⟩ := r
            rw [hr] at hk
            simp only [endK] at hk
            refine ⟨.ret, Or.inr rfl, ?_⟩
            simp -implicitDefEqProofs only [go_sem, reduceIte, reduceCtorEq, Nat.reduceEqDiff, Nat.reduceAdd, Nat.reduceSub, Nat.reduceLT, Nat.reduceLeDiff, Nat.reduceBEq, Nat.reduceMul, Nat.reduceBNe, Int.reduceEq, Int.reduceLT, Int.reduceLE, Int.reduceNe, Int.reduceToNat, ir_usufructref13_Read_L1, st0, c, c2, b1, b0, d1, d2, w1, w2, w3, w4, w5, w6, c3', hk, endI]
          | none =>
            rw [hr] at hk
            simp only [endK] at hk
            refine ⟨sg, hsg, ?_⟩
            simp -implicitDefEqProofs only [go_sem, reduceIte, reduceCtorEq, Nat.reduceEqDiff, Nat.reduceAdd, Nat.reduceSub, Nat.reduceLT, Nat.reduceLeDiff, Nat.reduceBEq, Nat.reduceMul, Nat.reduceBNe, Int.reduceEq, Int.reduceLT, Int.reduceLE, Int.reduceNe, Int.reduceToNat, ir_usufructref13_Read_L1, st0, c, c2, b1, b0, d1, d2, w1, w2, w3, w4, w5, w6, c3', hk, ih]
      · refine ⟨.exit 0, Or.inl rfl, ?_⟩
        unfold readI
        rw [hL, if_neg fun q => cd q.2]
        have hb : ¬ (48 ≤ (L.getD i 0).toNat ∧ (L.getD i 0).toNat ≤ 57) := fun q => cd (by unfold isDig; rw [decide_eq_true q.1, decide_eq_true q.2]; rfl)
        by_cases d1 : (48 : Int) ≤ ((L.getD i 0).toNat : Int)
        · have d2 : ¬ ((L.getD i 0).toNat : Int) ≤ 57 := by omega
          simp -implicitDefEqProofs only [go_sem, reduceIte, reduceCtorEq, Nat.reduceEqDiff, Nat.reduceAdd, Nat.reduceSub, Nat.reduceLT, Nat.reduceLeDiff, Nat.reduceBEq, Nat.reduceMul, Nat.reduceBNe, Int.reduceEq, Int.reduceLT, Int.reduceLE, Int.reduceNe, Int.reduceToNat, ir_usufructref13_Read_L1, st0, c, c2, b1, d1, d2, endI]
        · simp -implicitDefEqProofs only [go_sem, reduceIte, reduceCtorEq, Nat.reduceEqDiff, Nat.reduceAdd, Nat.reduceSub, Nat.reduceLT, Nat.reduceLeDiff, Nat.reduceBEq, Nat.reduceMul, Nat.reduceBNe, Int.reduceEq, Int.reduceLT, Int.reduceLE, Int.reduceNe, Int.reduceToNat, ir_usufructref13_Read_L1, st0, c, c2, b1, d1, endI]
    · have c : ¬ (i : Int) < ((BA L).size : Int) := by rw [ba_size]; omega
      refine ⟨.exit 0, Or.inl rfl, ?_⟩
      unfold readI
      rw [hL, if_neg fun q => c0 q.1]
      simp -implicitDefEqProofs only [go_sem, reduceIte, reduceCtorEq, Nat.reduceEqDiff, Nat.reduceAdd, Nat.reduceSub, Nat.reduceLT, Nat.reduceLeDiff, Nat.reduceBEq, Nat.reduceMul, Nat.reduceBNe, Int.reduceEq, Int.reduceLT, Int.reduceLE, Int.reduceNe, Int.reduceToNat, ir_usufructref13_Read_L1, st0, c, endI]
theorem fn_read {E : Prog} (hE : Std E fns) (L : List UInt8) (hl : L.length ≤ 400) : callP E f_usufructref13_Read [vs (BA L)] = some (.agg (cutC (cutS L))) := by
  obtain ⟨sg, hsg, h⟩ := readI_loop hE L hl (loopL_eq (IR.runL E.glob (callL E) [] ir_usufructref13_Read_L1) (compact [] 1 [0, 2, 3, 4])) 18 0 0 rfl (by omega) (by decide)
  rw [readS_eq] at h
  simp only [Int.natCast_zero, st0] at h
  rw [hE.run rfl rfl]
  cases hc : cutS L with
  | some r =>
    obtain ⟨n, nm, u⟩ := r
    rw [hc] at h
    simp only [endI] at h
    simp -implicitDefEqProofs only [go_sem, reduceIte, reduceCtorEq, Nat.reduceEqDiff, Nat.reduceAdd, Nat.reduceSub, Nat.reduceLT, Nat.reduceLeDiff, Nat.reduceBEq, Nat.reduceMul, Nat.reduceBNe, Int.reduceEq, Int.reduceLT, Int.reduceLE, Int.reduceNe, Int.reduceToNat, ir_usufructref13_Read, h, cutC]
  | none =>
    rw [hc] at h
    simp only [endI, st0] at h
    rcases hsg with e | e
    · rw [e] at h
      simp -implicitDefEqProofs only [go_sem, reduceIte, reduceCtorEq, Nat.reduceEqDiff, Nat.reduceAdd, Nat.reduceSub, Nat.reduceLT, Nat.reduceLeDiff, Nat.reduceBEq, Nat.reduceMul, Nat.reduceBNe, Int.reduceEq, Int.reduceLT, Int.reduceLE, Int.reduceNe, Int.reduceToNat, ir_usufructref13_Read, h, cutC]
    · rw [e] at h
      simp -implicitDefEqProofs only [go_sem, reduceIte, reduceCtorEq, Nat.reduceEqDiff, Nat.reduceAdd, Nat.reduceSub, Nat.reduceLT, Nat.reduceLeDiff, Nat.reduceBEq, Nat.reduceMul, Nat.reduceBNe, Int.reduceEq, Int.reduceLT, Int.reduceLE, Int.reduceNe, Int.reduceToNat, ir_usufructref13_Read, h, cutC]
end Go.Proofs.YtbpndomfipdhdaaDoor.Ev
