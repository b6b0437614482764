/-
  Picks as texts: the document's number, phases, and where the first sign stands.
-/
import Derived.Test.YtgehbkdpodnajaaDoorEvRd8
set_option linter.unusedVariables false
set_option linter.unusedSimpArgs false
namespace Go.Proofs.YtgehbkdpodnajaaDoor.Ev
attribute [local congr] bind_congr_head
attribute [local go_sem] opd_t opd_c opd_g opd_f opds_nil opds_cons get_cons put_some put_none keep_nil keepC_s keepC_n keep_cons runs_nil runs_cons run_op run_opr run_call run_gand run_gor run_gif seqK_norm seqK_exit seqK_ret blkK_norm blkK_exit blkK_ret runL_skip runL_exit runL_ret runL_items runL_seq runL_cond runL_block runL_loop fin_bind finK_norm finK_ret rvs_nil rvs_cons rv_tmp rv_cell tupOf_one tupOf_nil tupOf_two ev_mov ev_pick ev_alloc ev_box ev_build parts_nil parts_cons fills_nil fills_cons ev_bsl ev_bslo ev_load ev_store ev_nilck ev_bin ev_binb ev_aeq ev_un ev_i2i ev_i2t ev_s2b ev_ext ev_fld ev_idxs ev_fa ev_ias ev_len ev_lens ev_s2s ev_mkf ev_rng ev_nxt ev_app bOf_s pvOf_s agOf_s tpOf_s iOf_s sOf_s ite_bind Option.bind_some Option.bind_none if_true if_false ite_true ite_false argEnv_nil argEnv_cons len_av elems_av ias_av cells_av tuple_av AV.tuple AV.cells faF ldAt liveRef aggOf nilckF binV binI binS binB unV Bool.not_true Bool.not_false List.length_nil List.length_cons List.nil_append List.cons_append List.append_nil List.getElem?_cons_zero List.getElem?_cons_succ List.drop_zero List.drop_succ_cons List.drop_nil List.take_zero List.take_succ_cons List.take_nil List.set_cons_zero List.set_cons_succ compact_same compact_new closedB nodupB envIds ids0 upto visit pos sel AV.ids idss idsss Ob.ids AV.ren rens renss Ob.ren renEnv AV.snap snaps stAt okSt putCells List.all_nil List.all_cons List.contains_nil List.contains_cons Bool.and_true Bool.true_and Bool.and_false Bool.false_and Bool.or_true Bool.true_or Bool.or_false Bool.false_or decide_eq_true_eq decide_true decide_false beq_iff_eq bne_iff_ne beq_self_eq_true Bool.not_eq_true' Bool.false_eq_true eq_self and_self and_true true_and and_false false_and or_true true_or or_false false_or not_true_eq_false not_false_eq_true ne_eq Nat.zero_add Nat.add_zero Nat.le_refl Nat.not_lt_zero Nat.lt_irrefl Nat.zero_le Int.toNat_natCast gt_iff_lt ge_iff_le Int.lt_irrefl Int.natCast_nonneg txt_eq get_nil appF elems belows AV.under AV.flat flats List.length_map List.map_append List.map_cons List.map_nil List.length_append take_map_all List.flatten_cons List.flatten_nil bld_nil imp_false false_imp_iff false_implies true_implies implies_true decide_eq_false_iff_not Nat.one_mul Nat.mul_one idsss_app renss_app belowss_app ev_mn ev_mx ev_isnils ev_sls ev_slx evo_none evo_some vals minV maxV minF maxF backId List.getElem?_nil putAll Option.all_none Option.all_some Option.isSome_some intOf aszI compactV_same compactV_new callP_any callQ_eq callN_any boxQ AV.id? ids_avR ren_av under_av snap_av renss_mapf belowss_mapf idsss_mapf isnilsF List.length_eq_zero_iff int_beq int_bne decide_not slx_av Int.toNat_zero
theorem e0 : BA [] = ⟨#[]⟩ := rfl
theorem b60 : ((UInt8.toNat 60 : Nat) : Int) = 60 := rfl
theorem b61 : ((UInt8.toNat 61 : Nat) : Int) = 61 := rfl
theorem b62 : ((UInt8.toNat 62 : Nat) : Int) = 62 := rfl
theorem m60 : (60 : Int) - 61 = -1 := rfl
theorem m61 : (61 : Int) - 61 = 0 := rfl
theorem m62 : (62 : Int) - 61 = 1 := rfl
theorem n60 : ((60 : UInt8) = 61) = False := by decide
theorem n61 : ((61 : UInt8) = 61) = True := by decide
theorem n62 : ((62 : UInt8) = 61) = False := by decide
theorem cast9 (n : Nat) : ((if n < 6 then (1 : Int) else if n < 9 then 2 else 0)) = (if n < 6 then 1 else if n < 9 then 2 else 0) := rfl
theorem fn_ref27 {E : Prog} (hE : Std E fns) (n : Int) (h0 : 0 ≤ n) (h1 : n ≤ 5) : callP E f_usufructref27_Phase [vi n] = some (vs (BA (phWord n))) := by
  have : n = 0 ∨ n = 1 ∨ n = 2 ∨ n = 3 ∨ n = 4 ∨ n = 5 := by omega
  rw [hE.run rfl rfl]
  rcases this with rfl | rfl | rfl | rfl | rfl | rfl <;>
    (simp only [go_sem, reduceIte, reduceCtorEq, Nat.reduceEqDiff, Nat.reduceAdd, Nat.reduceSub, Nat.reduceLT, Nat.reduceLeDiff, Nat.reduceBEq, Nat.reduceMul, Nat.reduceBNe, Int.reduceEq, Int.reduceLT, Int.reduceLE, Int.reduceNe, Int.reduceToNat, ir_usufructref27_Phase, ev_iap, iapF, cast6, Int.reduceToNat]; rfl)
theorem rnumber_loop {G : Nat → Option (List AV)} {raw : Raw} {L : Env × Store → Option (Sig × Env × Store)} (l : List UInt8) (h15 : l.length ≤ 15)
    (hL : ∀ e st, L (e, st) = (IR.runL G raw [] ir_usufructref36_number_L0 e st).bind (seqK fun e st => L (compact [] 0 [0, 3, 4] e st))) :
    ∀ (rest : List UInt8) (i : Nat) (n : Int), l.drop i = rest → i ≤ l.length → 0 ≤ n → n < ((10 ^ i : Nat) : Int) → L ([(0, vs (BA l)), (3, vi n), (4, vi i)], []) =
      if rest.all isDig = true then some (.exit 0, [(3, vi (valD n rest))], []) else some (.ret, [(2, vi (-1))], [])
  | [], i, n, h, hi, h0, hn => by
    have h1 := drop_nil' h hi
    have h2 : ((i : Int) < ((BA l).size : Int)) = False := by rw [ba_size]; simp; omega
    rw [hL]
    simp only [go_sem, reduceIte, reduceCtorEq, Nat.reduceEqDiff, Nat.reduceAdd, Nat.reduceSub, Nat.reduceLT, Nat.reduceLeDiff, Nat.reduceBEq, Nat.reduceMul, Nat.reduceBNe, Int.reduceEq, Int.reduceLT, Int.reduceLE, Int.reduceNe, Int.reduceToNat, ir_usufructref36_number_L0, h2]
    rfl
  | x :: rest, i, n, h, hi, h0, hn => by
    obtain ⟨h1, h2, h3, h4, h5⟩ := drop_cons h
    have h6 := wrap_succ (i := i) (by omega)
    have h7 : ((i : Int) < ((BA l).size : Int)) = True := by rw [ba_size]; exact eq_true h3
    have hx : l.getD i 0 = x := by rw [List.getD_eq_getElem?_getD, h1]; rfl
    have hb := byteAt_ba (l := l) (i := i) (by omega)
    rw [hx] at hb
    have hlt := x.toNat_lt
    have h10 : 10 ^ i ≤ 10 ^ 15 := Nat.pow_le_pow_right (by decide) (by omega)
    have h11 : 10 ^ 15 = 1000000000000000 := by decide
    rw [hL, List.all_cons]
    by_cases cd : isDig x = true
    · have hd := dig_of cd
      have ih := rnumber_loop l h15 hL rest (i + 1) (10 * n + ((x.toNat : Int) - 48)) h2 h4 (by omega) (by rw [Nat.pow_succ]; omega)
      have e1 : ¬ ((x.toNat : Int)) < 48 := by omega
      have e2 : ¬ (57 : Int) < ((x.toNat : Int)) := by omega
      have w1 : IntKind.i64.wrap (10 * n) = 10 * n := IntWalk.i64_in _ (by omega)
      have w2 : IntKind.i64.wrap ((x.toNat : Int)) = (x.toNat : Int) := IntWalk.i64_in _ (by omega)
      have w3 : IntKind.i64.wrap (10 * n + (x.toNat : Int)) = 10 * n + (x.toNat : Int) := IntWalk.i64_in _ (by omega)
      have w4 : IntKind.i64.wrap (10 * n + (x.toNat : Int) - 48) = 10 * n + ((x.toNat : Int) - 48) := by rw [IntWalk.i64_in _ (by omega)]; omega
      have hv : valD n (x :: rest) = valD (10 * n + ((x.toNat : Int) - 48)) rest := rfl
      rw [hv, cd, Bool.true_and]
      simp only [go_sem, reduceIte, reduceCtorEq, Nat.reduceEqDiff, Nat.reduceAdd, Nat.reduceSub, Nat.reduceLT, Nat.reduceLeDiff, Nat.reduceBEq, Nat.reduceMul, Nat.reduceBNe, Int.reduceEq, Int.reduceLT, Int.reduceLE, Int.reduceNe, Int.reduceToNat, ir_usufructref36_number_L0, h7, hb, e1, e2, w1, w2, w3, w4, h6, ih]
    · have hd : (x.toNat : Int) < 48 ∨ (57 : Int) < (x.toNat : Int) := by
        have h' : ¬ (48 ≤ x.toNat ∧ x.toNat ≤ 57) := fun q => cd (by unfold isDig; simp [q])
        omega
      rw [Bool.eq_false_iff.2 cd, Bool.false_and]
      by_cases e1 : (x.toNat : Int) < 48
      · simp only [go_sem, reduceIte, reduceCtorEq, Nat.reduceEqDiff, Nat.reduceAdd, Nat.reduceSub, Nat.reduceLT, Nat.reduceLeDiff, Nat.reduceBEq, Nat.reduceMul, Nat.reduceBNe, Int.reduceEq, Int.reduceLT, Int.reduceLE, Int.reduceNe, Int.reduceToNat, ir_usufructref36_number_L0, h7, hb, e1]
      · have e2 : (57 : Int) < (x.toNat : Int) := by omega
        simp only [go_sem, reduceIte, reduceCtorEq, Nat.reduceEqDiff, Nat.reduceAdd, Nat.reduceSub, Nat.reduceLT, Nat.reduceLeDiff, Nat.reduceBEq, Nat.reduceMul, Nat.reduceBNe, Int.reduceEq, Int.reduceLT, Int.reduceLE, Int.reduceNe, Int.reduceToNat, ir_usufructref36_number_L0, h7, hb, e1, e2]
theorem fn_rnumber {E : Prog} (hE : Std E fns) (l : List UInt8) : callP E f_usufructref36_number [vs (BA l)] = some (vi (if num15 l = true then valD 0 l else -1)) := by
  rw [hE.run rfl rfl]
  by_cases c1 : l = []
  · subst c1
    simp only [go_sem, reduceIte, reduceCtorEq, Nat.reduceEqDiff, Nat.reduceAdd, Nat.reduceSub, Nat.reduceLT, Nat.reduceLeDiff, Nat.reduceBEq, Nat.reduceMul, Nat.reduceBNe, Int.reduceEq, Int.reduceLT, Int.reduceLE, Int.reduceNe, Int.reduceToNat, ir_usufructref36_number, ba_nil]; rfl
  · by_cases c2 : 15 < l.length
    · have c2' : (15 : Int) < (BA l).size := by rw [ba_size]; omega
      have : num15 l = false := by unfold num15; rw [decide_eq_false (show ¬ l.length ≤ 15 by omega)]; simp
      simp only [go_sem, reduceIte, reduceCtorEq, Nat.reduceEqDiff, Nat.reduceAdd, Nat.reduceSub, Nat.reduceLT, Nat.reduceLeDiff, Nat.reduceBEq, Nat.reduceMul, Nat.reduceBNe, Int.reduceEq, Int.reduceLT, Int.reduceLE, Int.reduceNe, Int.reduceToNat, ir_usufructref36_number, ba_nil, c1, c2', this]
    · have c2' : ¬ (15 : Int) < (BA l).size := by rw [ba_size]; omega
      have hb := byteAt_ba (l := l) (i := 0) (List.length_pos_iff.2 c1)
      simp only [Int.natCast_zero] at hb
      have hn : (((l.getD 0 0).toNat : Int) = 48) = (l.getD 0 0 = 48) := by
        apply propext
        constructor
        · intro h
          have : (l.getD 0 0).toNat = (48 : UInt8).toNat := by show _ = 48; omega
          exact UInt8.toNat_inj.1 this
        · intro h; rw [h]; rfl
      have hb1 : ((1 : Int) < (BA l).size) = (1 < l.length) := by rw [ba_size]; exact propext (by omega)
      by_cases c3 : l.getD 0 0 = 48 ∧ 1 < l.length
      · have : num15 l = false := by unfold num15; rw [decide_eq_true c3.1, decide_eq_true c3.2]; simp
        simp only [go_sem, reduceIte, reduceCtorEq, Nat.reduceEqDiff, Nat.reduceAdd, Nat.reduceSub, Nat.reduceLT, Nat.reduceLeDiff, Nat.reduceBEq, Nat.reduceMul, Nat.reduceBNe, Int.reduceEq, Int.reduceLT, Int.reduceLE, Int.reduceNe, Int.reduceToNat, ir_usufructref36_number, ba_nil, c1, c2', hb, hn, hb1, eq_true c3.1, eq_true c3.2, this]
      · have ih := rnumber_loop l (by omega) (loopL_eq (IR.runL E.glob (callL E) [] ir_usufructref36_number_L0) (compact [] 0 [0, 3, 4])) l 0 0 rfl (by omega) (by omega) (by decide)
        simp only [Int.natCast_zero] at ih
        have hk : num15 l = l.all isDig := by
          unfold num15
          rw [decide_eq_true c1, decide_eq_true (show l.length ≤ 15 by omega)]
          by_cases c4 : l.getD 0 0 = 48
          · rw [decide_eq_false fun h => c3 ⟨c4, h⟩]; simp
          · rw [decide_eq_false c4]; simp
        rw [hk]
        by_cases c4 : l.getD 0 0 = 48
        · have c5 : ¬ 1 < l.length := fun h => c3 ⟨c4, h⟩
          cases c6 : l.all isDig
          · simp only [c6, Bool.false_eq_true, if_false] at ih
            simp only [go_sem, reduceIte, reduceCtorEq, Nat.reduceEqDiff, Nat.reduceAdd, Nat.reduceSub, Nat.reduceLT, Nat.reduceLeDiff, Nat.reduceBEq, Nat.reduceMul, Nat.reduceBNe, Int.reduceEq, Int.reduceLT, Int.reduceLE, Int.reduceNe, Int.reduceToNat, ir_usufructref36_number, ba_nil, c1, c2', hb, hn, hb1, eq_true c4, c5, ih]
          · simp only [c6, if_true] at ih
            simp only [go_sem, reduceIte, reduceCtorEq, Nat.reduceEqDiff, Nat.reduceAdd, Nat.reduceSub, Nat.reduceLT, Nat.reduceLeDiff, Nat.reduceBEq, Nat.reduceMul, Nat.reduceBNe, Int.reduceEq, Int.reduceLT, Int.reduceLE, Int.reduceNe, Int.reduceToNat, ir_usufructref36_number, ba_nil, c1, c2', hb, hn, hb1, eq_true c4, c5, ih]
        · cases c6 : l.all isDig
          · simp only [c6, Bool.false_eq_true, if_false] at ih
            simp only [go_sem, reduceIte, reduceCtorEq, Nat.reduceEqDiff, Nat.reduceAdd, Nat.reduceSub, Nat.reduceLT, Nat.reduceLeDiff, Nat.reduceBEq, Nat.reduceMul, Nat.reduceBNe, Int.reduceEq, Int.reduceLT, Int.reduceLE, Int.reduceNe, Int.reduceToNat, ir_usufructref36_number, ba_nil, c1, c2', hb, hn, hb1, c4, ih]
          · simp only [c6, if_true] at ih
            simp only [go_sem, reduceIte, reduceCtorEq, Nat.reduceEqDiff, Nat.reduceAdd, Nat.reduceSub, Nat.reduceLT, Nat.reduceLeDiff, Nat.reduceBEq, Nat.reduceMul, Nat.reduceBNe, Int.reduceEq, Int.reduceLT, Int.reduceLE, Int.reduceNe, Int.reduceToNat, ir_usufructref36_number, ba_nil, c1, c2', hb, hn, hb1, c4, ih]
/-! ### all phases' words, one by one -/
def stp (v : List UInt8) (n : Int) (s : Int × Bool) : Int × Bool := if v = phWord n then (n, true) else s
abbrev stOne (nt : Bool) (f : List UInt8) (sg n : Int) (s : List UInt8) : Store := [.box [vb false, vs (BA []), vi 0, vi 0, vs (BA [])], .box [vb nt, vs (BA f), vi sg, vi n, vs (BA s)]]
theorem ph_step {E : Prog} (hE : Std E fns) {L : Env × Store → Option (Sig × Env × Store)} (v : List UInt8) (nt : Bool) (f : List UInt8) (sg : Int)
    (hL : ∀ e st, L (e, st) = (IR.runL E.glob (callL E) [] ir_usufructref36_One_L0 e st).bind (seqK fun e st => L (compact [] 2 [2, 4, 6, 7, 8] e st))) (n : Int) (h0 : 0 ≤ n) (h1 : n ≤ 5) (s : Int × Bool) :
    L ([(2, .ref 0 0 0 0), (4, .ref 1 0 0 0), (6, vs (BA v)), (7, vb s.2), (8, vi n)], stOne nt f sg s.1 []) = L ([(2, .ref 0 0 0 0), (4, .ref 1 0 0 0), (6, vs (BA v)), (7, vb (stp v n s).2), (8, vi (n + 1))], stOne nt f sg (stp v n s).1 []) := by
  have hp := fn_ref27 hE n h0 h1
  have w : IntKind.i64.wrap (n + 1) = n + 1 := IntWalk.i64_in _ (by omega)
  have h6 : n < 6 := by omega
  obtain ⟨a, b⟩ := s
  rw [hL]
  unfold stp
  by_cases c : v = phWord n
  · have c' : (BA (phWord n) = BA v) = True := ba_flip.trans (eq_true c)
    rw [if_pos c]
    simp only [go_sem, reduceIte, reduceCtorEq, Nat.reduceEqDiff, Nat.reduceAdd, Nat.reduceSub, Nat.reduceLT, Nat.reduceLeDiff, Nat.reduceBEq, Nat.reduceMul, Nat.reduceBNe, Int.reduceEq, Int.reduceLT, Int.reduceLE, Int.reduceNe, Int.reduceToNat, ir_usufructref36_One_L0, h6, hp, c', w]
  · have c' : (BA (phWord n) = BA v) = False := ba_flip.trans (eq_false c)
    rw [if_neg c]
    simp only [go_sem, reduceIte, reduceCtorEq, Nat.reduceEqDiff, Nat.reduceAdd, Nat.reduceSub, Nat.reduceLT, Nat.reduceLeDiff, Nat.reduceBEq, Nat.reduceMul, Nat.reduceBNe, Int.reduceEq, Int.reduceLT, Int.reduceLE, Int.reduceNe, Int.reduceToNat, ir_usufructref36_One_L0, h6, hp, c', w]
theorem ph_all {E : Prog} (hE : Std E fns) {L : Env × Store → Option (Sig × Env × Store)} (v : List UInt8) (nt : Bool) (f : List UInt8) (sg : Int)
    (hL : ∀ e st, L (e, st) = (IR.runL E.glob (callL E) [] ir_usufructref36_One_L0 e st).bind (seqK fun e st => L (compact [] 2 [2, 4, 6, 7, 8] e st))) :
    L ([(2, .ref 0 0 0 0), (4, .ref 1 0 0 0), (6, vs (BA v)), (7, vb false), (8, vi 0)], stOne nt f sg 0 []) = some (.exit 2, [(2, .ref 0 0 0 0), (4, .ref 1 0 0 0), (7, vb (phIx v).isSome)], stOne nt f sg (valN 7 v) []) := by
  have e0 := ph_step hE v nt f sg hL 0 (by omega) (by omega) (0, false)
  have e1 := ph_step hE v nt f sg hL 1 (by omega) (by omega) (stp v 0 (0, false))
  have e2 := ph_step hE v nt f sg hL 2 (by omega) (by omega) (stp v 1 (stp v 0 (0, false)))
  have e3 := ph_step hE v nt f sg hL 3 (by omega) (by omega) (stp v 2 (stp v 1 (stp v 0 (0, false))))
  have e4 := ph_step hE v nt f sg hL 4 (by omega) (by omega) (stp v 3 (stp v 2 (stp v 1 (stp v 0 (0, false)))))
  have e5 := ph_step hE v nt f sg hL 5 (by omega) (by omega) (stp v 4 (stp v 3 (stp v 2 (stp v 1 (stp v 0 (0, false))))))
  have hfin : stp v 5 (stp v 4 (stp v 3 (stp v 2 (stp v 1 (stp v 0 (0, false)))))) = (valN 7 v, (phIx v).isSome) := by
    unfold valN
    rw [if_neg (by decide), if_pos rfl]
    cases hx : phIx v with
    | some n =>
      obtain ⟨p1, p2, p3⟩ := phIx_ok hx
      subst p1
      have : n = 0 ∨ n = 1 ∨ n = 2 ∨ n = 3 ∨ n = 4 ∨ n = 5 := by omega
      rcases this with rfl | rfl | rfl | rfl | rfl | rfl <;> decide
    | none =>
      unfold phIx at hx
      unfold stp
      repeat' split at hx
      all_goals first | (cases hx; done) | skip
      rename_i c0 c1 c2 c3 c4 c5
      rw [if_neg c5, if_neg c4, if_neg c3, if_neg c2, if_neg c1, if_neg c0]; rfl
  have z1 : (0 : Int) + 1 = 1 := rfl
  have z2 : (1 : Int) + 1 = 2 := rfl
  have z3 : (2 : Int) + 1 = 3 := rfl
  have z4 : (3 : Int) + 1 = 4 := rfl
  have z5 : (4 : Int) + 1 = 5 := rfl
  have z6 : (5 : Int) + 1 = 6 := rfl
  rw [z1] at e0; rw [z2] at e1; rw [z3] at e2; rw [z4] at e3; rw [z5] at e4; rw [z6] at e5
  rw [hfin] at e5
  refine e0.trans (e1.trans (e2.trans (e3.trans (e4.trans (e5.trans ?_)))))
  rw [hL]
  simp only [go_sem, reduceIte, reduceCtorEq, Nat.reduceEqDiff, Nat.reduceAdd, Nat.reduceSub, Nat.reduceLT, Nat.reduceLeDiff, Nat.reduceBEq, Nat.reduceMul, Nat.reduceBNe, Int.reduceEq, Int.reduceLT, Int.reduceLE, Int.reduceNe, Int.reduceToNat, ir_usufructref36_One_L0]
/-! ### the first sign -/
theorem sgn_loop {G : Nat → Option (List AV)} {raw : Raw} {L : Env × Store → Option (Sig × Env × Store)} (r : List UInt8) (hl : r.length < 9223372036854775807) (nt : Bool)
    (hL : ∀ e st, L (e, st) = (IR.runL G raw [] ir_usufructref36_One_L1 e st).bind (seqK fun e st => L (compact [] 2 [0, 2, 4, 5] e st))) :
    ∀ (rest : List UInt8) (i : Nat), r.drop i = rest → i ≤ r.length → L ([(0, vs (BA r)), (2, .ref 0 0 0 0), (4, .ref 1 0 0 0), (5, vi i)], stOne nt [] 0 0 []) =
      some (.exit 0, [(0, vs (BA r)), (2, .ref 0 0 0 0), (4, .ref 1 0 0 0), (5, vi ((i + (rest.takeWhile fun b => !isCmp b).length : Nat) : Int))], stOne nt [] 0 0 [])
  | [], i, h, hi => by
    have h1 := drop_nil' h hi
    have h2 : ((i : Int) < ((BA r).size : Int)) = False := by rw [ba_size]; simp; omega
    rw [hL]
    simp only [go_sem, reduceIte, reduceCtorEq, Nat.reduceEqDiff, Nat.reduceAdd, Nat.reduceSub, Nat.reduceLT, Nat.reduceLeDiff, Nat.reduceBEq, Nat.reduceMul, Nat.reduceBNe, Int.reduceEq, Int.reduceLT, Int.reduceLE, Int.reduceNe, Int.reduceToNat, ir_usufructref36_One_L1, h2, List.takeWhile_nil]
  | x :: rest, i, h, hi => by
    obtain ⟨h1, h2, h3, h4, h5⟩ := drop_cons h
    have h6 := wrap_succ (i := i) (by omega)
    have h7 : ((i : Int) < ((BA r).size : Int)) = True := by rw [ba_size]; exact eq_true h3
    have hx : r.getD i 0 = x := by rw [List.getD_eq_getElem?_getD, h1]; rfl
    have hb := byteAt_ba (l := r) (i := i) (by omega)
    rw [hx] at hb
    have hq : ∀ (k : UInt8), (((x.toNat : Int)) = (k.toNat : Int)) = (x = k) := fun k => propext ⟨fun e => UInt8.toNat_inj.1 (by omega), fun e => by rw [e]⟩
    have q61 : ((x.toNat : Int) = 61) = (x = 61) := hq 61
    have q60 : ((x.toNat : Int) = 60) = (x = 60) := hq 60
    have q62 : ((x.toNat : Int) = 62) = (x = 62) := hq 62
    rw [hL, List.takeWhile_cons]
    by_cases c61 : x = 61
    · subst c61
      have e : (!isCmp 61) = false := by decide
      rw [e, if_neg (by decide)]
      simp only [go_sem, reduceIte, reduceCtorEq, Nat.reduceEqDiff, Nat.reduceAdd, Nat.reduceSub, Nat.reduceLT, Nat.reduceLeDiff, Nat.reduceBEq, Nat.reduceMul, Nat.reduceBNe, Int.reduceEq, Int.reduceLT, Int.reduceLE, Int.reduceNe, Int.reduceToNat, ir_usufructref36_One_L1, h7, hb, q61]
    · by_cases c60 : x = 60
      · subst c60
        have e : (!isCmp 60) = false := by decide
        rw [e, if_neg (by decide)]
        simp only [go_sem, reduceIte, reduceCtorEq, Nat.reduceEqDiff, Nat.reduceAdd, Nat.reduceSub, Nat.reduceLT, Nat.reduceLeDiff, Nat.reduceBEq, Nat.reduceMul, Nat.reduceBNe, Int.reduceEq, Int.reduceLT, Int.reduceLE, Int.reduceNe, Int.reduceToNat, ir_usufructref36_One_L1, h7, hb, q61, q60, c61]
      · by_cases c62 : x = 62
        · subst c62
          have e : (!isCmp 62) = false := by decide
          rw [e, if_neg (by decide)]
          simp only [go_sem, reduceIte, reduceCtorEq, Nat.reduceEqDiff, Nat.reduceAdd, Nat.reduceSub, Nat.reduceLT, Nat.reduceLeDiff, Nat.reduceBEq, Nat.reduceMul, Nat.reduceBNe, Int.reduceEq, Int.reduceLT, Int.reduceLE, Int.reduceNe, Int.reduceToNat, ir_usufructref36_One_L1, h7, hb, q61, q60, q62, c61, c60]
        · have e : (!isCmp x) = true := by simp [isCmp, c60, c61, c62]
          have ih := sgn_loop r hl nt hL rest (i + 1) h2 h4
          rw [e, if_pos rfl]
          have e2 : i + 1 + (rest.takeWhile fun b => !isCmp b).length = i + (x :: rest.takeWhile fun b => !isCmp b).length := by rw [List.length_cons]; omega
          rw [e2] at ih
          simp only [go_sem, reduceIte, reduceCtorEq, Nat.reduceEqDiff, Nat.reduceAdd, Nat.reduceSub, Nat.reduceLT, Nat.reduceLeDiff, Nat.reduceBEq, Nat.reduceMul, Nat.reduceBNe, Int.reduceEq, Int.reduceLT, Int.reduceLE, Int.reduceNe, Int.reduceToNat, ir_usufructref36_One_L1, h7, hb, q61, q60, q62, c61, c60, c62, h6, ih]
end Go.Proofs.YtgehbkdpodnajaaDoor.Ev
