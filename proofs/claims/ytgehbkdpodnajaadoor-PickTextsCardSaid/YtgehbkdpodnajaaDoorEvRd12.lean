/-
  Picks as texts: the document's Text.
-/
import Derived.Test.YtgehbkdpodnajaaDoorEvRd9
set_option linter.unusedVariables false
set_option linter.unusedSimpArgs false
namespace Go.Proofs.YtgehbkdpodnajaaDoor.Ev
attribute [local congr] bind_congr_head
attribute [local go_sem] opd_t opd_c opd_g opd_f opds_nil opds_cons get_cons put_some put_none keep_nil keepC_s keepC_n keep_cons runs_nil runs_cons run_op run_opr run_call run_gand run_gor run_gif seqK_norm seqK_exit seqK_ret blkK_norm blkK_exit blkK_ret runL_skip runL_exit runL_ret runL_items runL_seq runL_cond runL_block runL_loop fin_bind finK_norm finK_ret rvs_nil rvs_cons rv_tmp rv_cell tupOf_one tupOf_nil tupOf_two ev_mov ev_pick ev_alloc ev_box ev_build parts_nil parts_cons fills_nil fills_cons ev_bsl ev_bslo ev_load ev_store ev_nilck ev_bin ev_binb ev_aeq ev_un ev_i2i ev_i2t ev_s2b ev_ext ev_fld ev_idxs ev_fa ev_ias ev_len ev_lens ev_s2s ev_mkf ev_rng ev_nxt ev_app bOf_s pvOf_s agOf_s tpOf_s iOf_s sOf_s ite_bind Option.bind_some Option.bind_none if_true if_false ite_true ite_false argEnv_nil argEnv_cons len_av elems_av ias_av cells_av tuple_av AV.tuple AV.cells faF ldAt liveRef aggOf nilckF binV binI binS binB unV Bool.not_true Bool.not_false List.length_nil List.length_cons List.nil_append List.cons_append List.append_nil List.getElem?_cons_zero List.getElem?_cons_succ List.drop_zero List.drop_succ_cons List.drop_nil List.take_zero List.take_succ_cons List.take_nil List.set_cons_zero List.set_cons_succ compact_same compact_new closedB nodupB envIds ids0 upto visit pos sel AV.ids idss idsss Ob.ids AV.ren rens renss Ob.ren renEnv AV.snap snaps stAt okSt putCells List.all_nil List.all_cons List.contains_nil List.contains_cons Bool.and_true Bool.true_and Bool.and_false Bool.false_and Bool.or_true Bool.true_or Bool.or_false Bool.false_or decide_eq_true_eq decide_true decide_false beq_iff_eq bne_iff_ne beq_self_eq_true Bool.not_eq_true' Bool.false_eq_true eq_self and_self and_true true_and and_false false_and or_true true_or or_false false_or not_true_eq_false not_false_eq_true ne_eq Nat.zero_add Nat.add_zero Nat.le_refl Nat.not_lt_zero Nat.lt_irrefl Nat.zero_le Int.toNat_natCast gt_iff_lt ge_iff_le Int.lt_irrefl Int.natCast_nonneg txt_eq get_nil appF elems belows AV.under AV.flat flats List.length_map List.map_append List.map_cons List.map_nil List.length_append take_map_all List.flatten_cons List.flatten_nil bld_nil imp_false false_imp_iff false_implies true_implies implies_true decide_eq_false_iff_not Nat.one_mul Nat.mul_one idsss_app renss_app belowss_app ev_mn ev_mx ev_isnils ev_sls ev_slx evo_none evo_some vals minV maxV minF maxF backId List.getElem?_nil putAll Option.all_none Option.all_some Option.isSome_some intOf aszI compactV_same compactV_new callP_any callQ_eq callN_any boxQ AV.id? ids_avR ren_av under_av snap_av renss_mapf belowss_mapf idsss_mapf isnilsF List.length_eq_zero_iff int_beq int_bne decide_not slx_av Int.toNat_zero
/-- Bytes to a text. -/
def b2sF (st : Store) (a : AV) : Option ByteArray :=
  match a with
  | .v (.string _) => none
  | a => match elems st a with
    | some xs => match vals xs.flatten with
      | some vs => if vs.length = xs.length ∧ vs.all (fun | .int .u8 _ => true | _ => false) = true then some ⟨(vs.map fun | .int _ n => UInt8.ofNat n.toNat | _ => 0).toArray⟩ else none
      | none => none
    | none => none
theorem ev_b2s {G : Nat → Option (List AV)} {bs : List Nat} {e : Env} {st : Store} (x : Opd) : Prim.ev G bs e st (.b2s x) = (x.ev G e).bind fun a => (b2sF st a).bind fun s => some (.v (.string s), st) := by
  simp only [Prim.ev]
  cases x.ev G e with
  | none => rfl
  | some a =>
    have aux : ∀ o : Option (List (List AV)), (match o with
      | some xs => match vals xs.flatten with
        | some vs => if vs.length = xs.length ∧ vs.all (fun | .int .u8 _ => true | _ => false) = true then some (AV.v (.string ⟨(vs.map fun | .int _ n => UInt8.ofNat n.toNat | _ => 0).toArray⟩), st) else none
        | none => none
      | none => none) = (match o with
      | some xs => match vals xs.flatten with
        | some vs => if vs.length = xs.length ∧ vs.all (fun | .int .u8 _ => true | _ => false) = true then some (⟨(vs.map fun | .int _ n => UInt8.ofNat n.toNat | _ => 0).toArray⟩ : ByteArray) else none
        | none => none
      | none => none : Option ByteArray).bind fun s => some (.v (.string s), st) := by
      intro o
      cases o with
      | none => rfl
      | some xs => dsimp only; cases vals xs.flatten with
        | none => rfl
        | some vs => dsimp only; split <;> rfl
    have aux' := aux (elems st a)
    cases a with
    | v p => cases p with
      | string s => rfl
      | _ => exact aux'
    | _ => exact aux'
theorem b2s_one (st : Store) (n : Int) : b2sF st (.sl 1 [[.v (.int .u8 n)]]) = some (BA [UInt8.ofNat n.toNat]) := rfl
theorem decimal_loop {G : Nat → Option (List AV)} {raw : Raw} {L : Env × Store → Option (Sig × Env × Store)}
    (hL : ∀ e st, L (e, st) = (IR.runL G raw [] ir_usufructref13_Decimal_L0 e st).bind (seqK fun e st => L (compact [] 0 [0, 3] e st))) :
    ∀ (u : Nat) (t : List UInt8), u ≤ 9223372036854775807 → t.length + Lib.nDigits u ≤ 1000 → L ([(0, vi u), (3, vs (BA t))], []) = some (.ret, [(2, vs (BA (Lib.decDigits u ++ t)))], []) := by
  intro u
  induction u using Nat.strongRecOn with
  | _ u ih =>
    intro t hu ht
    have hp := Lib.nDigits_pos u
    have r1 : Int.tmod (u : Int) 10 = ((u % 10 : Nat) : Int) := by rw [Int.tmod_eq_emod_of_nonneg (by omega)]; omega
    have r2 : Int.tdiv (u : Int) 10 = ((u / 10 : Nat) : Int) := by rw [Int.tdiv_eq_ediv_of_nonneg (by omega)]; omega
    have w1 : IntKind.i64.wrap (48 + ((u % 10 : Nat) : Int)) = ((48 + u % 10 : Nat) : Int) := by rw [IntWalk.i64_in _ (by omega)]; omega
    have w2 : IntKind.u8.wrap ((48 + u % 10 : Nat) : Int) = ((48 + u % 10 : Nat) : Int) := by rw [IntKind.wrap_u8]; omega
    have w3 : IntKind.i64.wrap ((u / 10 : Nat) : Int) = ((u / 10 : Nat) : Int) := IntWalk.i64_in _ (by omega)
    have hs : ¬ (9223372036854775807 : Int) < (((BA [UInt8.ofNat (48 + u % 10)]).size + (BA t).size : Nat) : Int) := by
      rw [ba_size, ba_size]; simp only [List.length_cons, List.length_nil]; omega
    have w0 : IntKind.i64.wrap 0 = 0 := rfl
    rw [hL]
    by_cases c : u < 10
    · have c1 : u / 10 = 0 := by omega
      have c2 : u % 10 = u := by omega
      have hd : Lib.decDigits u = [UInt8.ofNat (48 + u)] := by rw [Lib.decDigits, dif_pos c]
      rw [hd]
      simp only [c2, c1] at r1 r2 w1 w2 w3 hs
      simp only [go_sem, reduceIte, reduceCtorEq, Nat.reduceEqDiff, Nat.reduceAdd, Nat.reduceSub, Nat.reduceLT, Nat.reduceLeDiff, Nat.reduceBEq, Nat.reduceMul, Nat.reduceBNe, Int.reduceEq, Int.reduceLT, Int.reduceLE, Int.reduceNe, Int.reduceToNat, ir_usufructref13_Decimal_L0, ev_b2s, b2s_one, r1, r2, w1, w2, w3, hs, ba_app, c1, c2, w0, Int.natCast_zero, List.singleton_append]
    · have c1 : ¬ ((u / 10 : Nat) : Int) = 0 := by omega
      have hd : Lib.decDigits u = Lib.decDigits (u / 10) ++ [UInt8.ofNat (48 + u % 10)] := by rw [Lib.decDigits, dif_neg c]
      have hn := Lib.nDigits_big c
      have ih' := ih (u / 10) (by omega) (UInt8.ofNat (48 + u % 10) :: t) (by omega) (by simp only [List.length_cons]; omega)
      rw [hd, List.append_assoc, List.singleton_append]
      simp only [go_sem, reduceIte, reduceCtorEq, Nat.reduceEqDiff, Nat.reduceAdd, Nat.reduceSub, Nat.reduceLT, Nat.reduceLeDiff, Nat.reduceBEq, Nat.reduceMul, Nat.reduceBNe, Int.reduceEq, Int.reduceLT, Int.reduceLE, Int.reduceNe, Int.reduceToNat, ir_usufructref13_Decimal_L0, ev_b2s, b2s_one, r1, r2, w1, w2, w3, hs, ba_app, c1, List.singleton_append, ih']
theorem fn_decimal {E : Prog} (hE : Std E fns) (n : Int) (h0 : 0 ≤ n) (h1 : n ≤ 9223372036854775807) : callP E f_usufructref13_Decimal [vi n] = some (vs (BA (Lib.itoa n))) := by
  obtain ⟨u, rfl⟩ := Int.eq_ofNat_of_zero_le h0
  have hd := nDigits_le 18 u (by
    have : (10 : Nat) ^ (18 + 1) = 10000000000000000000 := by decide
    omega)
  have h := decimal_loop (loopL_eq (IR.runL E.glob (callL E) [] ir_usufructref13_Decimal_L0) (compact [] 0 [0, 3])) u [] (by omega) (by simp only [List.length_nil]; omega)
  have e : Lib.itoa (u : Int) = Lib.decDigits u := by unfold Lib.itoa; rw [if_neg (by omega), Int.toNat_natCast]
  rw [hE.run rfl rfl, e]
  rw [List.append_nil] at h
  have hb : BA [] = ⟨#[]⟩ := rfl
  rw [hb] at h
  simp only [go_sem, reduceIte, reduceCtorEq, Nat.reduceEqDiff, Nat.reduceAdd, Nat.reduceSub, Nat.reduceLT, Nat.reduceLeDiff, Nat.reduceBEq, Nat.reduceMul, Nat.reduceBNe, Int.reduceEq, Int.reduceLT, Int.reduceLE, Int.reduceNe, Int.reduceToNat, ir_usufructref13_Decimal, h]

theorem e33' : (⟨#[33]⟩ : ByteArray) = BA [33] := rfl
theorem e32' : (⟨#[32]⟩ : ByteArray) = BA [32] := rfl
theorem e60' : (⟨#[60]⟩ : ByteArray) = BA [60] := rfl
theorem e61' : (⟨#[61]⟩ : ByteArray) = BA [61] := rfl
theorem e62' : (⟨#[62]⟩ : ByteArray) = BA [62] := rfl
set_option maxHeartbeats 32000000 in
theorem rtext_step {E : Prog} (hE : Std E fns) {L : Env × Store → Option (Sig × Env × Store)} (l : Sl TermT) (hll : l.list.length ≤ 40)
    (hL : ∀ e st, L (e, st) = (IR.runL E.glob (callL E) [] ir_usufructref36_Text_L0 e st).bind (seqK fun e st => L (compact [] 0 [0, 3, 4] e st)))
    (t : TermT) (rest : List TermT) (i : Nat) (sS : List UInt8) (h : l.list.drop i = t :: rest) (hS : sS.length ≤ 100000000) (hg : goodB t = true) (ht : t.s.size ≤ 1000000) :
    L ([(0, l.av 5 TermT.cells), (3, vs (BA sS)), (4, vi i)], []) = L ([(0, l.av 5 TermT.cells), (3, vs (BA ((if 0 < i then sS ++ [32] else sS) ++ textT t))), (4, vi ((i + 1 : Nat) : Int))], []) := by
  obtain ⟨h1, h2, h3, h4, h5⟩ := drop_cons h
  have h6 := wrap_succ (i := i) (by omega)
  have hi0 : ((0 : Int) < (i : Int)) = (0 < i) := propext (by omega)
  obtain ⟨n1, n2, n3, n4, n5⟩ := name_at hg
  have c := cmp_of t.field
  have h9 := good_ne9 hg
  have hf : t.field = BA t.field.data.toList := (ba_of _).symm
  have hs : t.s = BA t.s.data.toList := (ba_of _).symm
  have hsl : t.s.data.toList.length ≤ 1000000 := by rw [← ba_size, ba_of]; exact ht
  have qb : ¬ (9223372036854775807 : Int) < (((BA sS).size + (BA [32]).size : Nat) : Int) := sz (by first | omega | (simp; omega))
  obtain ⟨nt, f, sg, n, s⟩ := t
  dsimp only at *
  generalize hfl : f.data.toList = fl at *
  generalize hsl' : s.data.toList = sl at *
  unfold textT valueT
  dsimp only
  rw [hfl, hsl']
  unfold goodB at hg
  have hk9 := c.le
  dsimp only at hg
  generalize fieldK f = k at *
  rw [hf] at c
  subst hs
  subst hf
  rw [hL]
  by_cases hi : 0 < i
  · rw [if_pos hi]
    cases nt
    · rw [if_neg (by decide)]
      have qf : ¬ (9223372036854775807 : Int) < (((BA (sS ++ [32])).size + (BA fl).size : Nat) : Int) := sz (by first | omega | (simp; omega))
      have qs : ∀ b : UInt8, ¬ (9223372036854775807 : Int) < (((BA (sS ++ [32] ++ fl)).size + (BA [b]).size : Nat) : Int) := fun b => sz (by first | omega | (simp; omega))
      have qv : ∀ (b : UInt8) (v : List UInt8), v.length ≤ 1000000 → ¬ (9223372036854775807 : Int) < (((BA (sS ++ [32] ++ fl ++ [b])).size + (BA v).size : Nat) : Int) := fun b v hv => sz (by first | omega | (simp; omega))
      have : k = 6 ∨ k = 7 ∨ k = 8 ∨ k < 6 := by omega
      rcases this with rfl | rfl | rfl | hk6
      · simp only [goodK, Bool.and_eq_true, decide_eq_true_eq] at hg
        obtain ⟨⟨rfl, rfl⟩, hgl⟩ := hg
        have qv' := qv 61 sl hsl
        simp only [go_sem, reduceIte, reduceCtorEq, Nat.reduceEqDiff, Nat.reduceAdd, Nat.reduceSub, Nat.reduceLT, Nat.reduceLeDiff, Nat.reduceBEq, Nat.reduceMul, Nat.reduceBNe, Int.reduceEq, Int.reduceLT, Int.reduceLE, Int.reduceNe, Int.reduceToNat, ir_usufructref36_Text_L0, h3, h1, h6, hi0, qb, ba_app, e33', e32', e60', e61', e62', eNo, eYes, TermT.cells, ro_term, hi, qf, qs, qv', c.c6, cmpB]
        simp
      · simp only [goodK, Bool.and_eq_true, decide_eq_true_eq] at hg
        obtain ⟨⟨⟨rfl, h2'⟩, h3'⟩, h4'⟩ := hg
        have hph := fn_ref27 hE n h3' h4'
        have qv' := qv 61 (phWord n) (by have := ph_len n; omega)
        simp only [go_sem, reduceIte, reduceCtorEq, Nat.reduceEqDiff, Nat.reduceAdd, Nat.reduceSub, Nat.reduceLT, Nat.reduceLeDiff, Nat.reduceBEq, Nat.reduceMul, Nat.reduceBNe, Int.reduceEq, Int.reduceLT, Int.reduceLE, Int.reduceNe, Int.reduceToNat, ir_usufructref36_Text_L0, h3, h1, h6, hi0, qb, ba_app, e33', e32', e60', e61', e62', eNo, eYes, TermT.cells, ro_term, hi, qf, qs, qv', c.c6, c.c7, hph, cmpB]
        simp
      · simp only [goodK, Bool.and_eq_true, Bool.or_eq_true, decide_eq_true_eq] at hg
        obtain ⟨⟨rfl, h2'⟩, h3'⟩ := hg
        have qva := qv 61 wNo (by decide)
        have qvb := qv 61 wYes (by decide)
        rcases h3' with rfl | rfl
        · simp only [go_sem, reduceIte, reduceCtorEq, Nat.reduceEqDiff, Nat.reduceAdd, Nat.reduceSub, Nat.reduceLT, Nat.reduceLeDiff, Nat.reduceBEq, Nat.reduceMul, Nat.reduceBNe, Int.reduceEq, Int.reduceLT, Int.reduceLE, Int.reduceNe, Int.reduceToNat, ir_usufructref36_Text_L0, h3, h1, h6, hi0, qb, ba_app, e33', e32', e60', e61', e62', eNo, eYes, TermT.cells, ro_term, hi, qf, qs, qva, qvb, c.c6, c.c7, c.c8, cmpB]
          simp
        · simp only [go_sem, reduceIte, reduceCtorEq, Nat.reduceEqDiff, Nat.reduceAdd, Nat.reduceSub, Nat.reduceLT, Nat.reduceLeDiff, Nat.reduceBEq, Nat.reduceMul, Nat.reduceBNe, Int.reduceEq, Int.reduceLT, Int.reduceLE, Int.reduceNe, Int.reduceToNat, ir_usufructref36_Text_L0, h3, h1, h6, hi0, qb, ba_app, e33', e32', e60', e61', e62', eNo, eYes, TermT.cells, ro_term, hi, qf, qs, qva, qvb, c.c6, c.c7, c.c8, cmpB]
          simp
      · rw [goodK_lt _ hk6] at hg
        simp only [Bool.and_eq_true, decide_eq_true_eq] at hg
        obtain ⟨⟨⟨⟨h1', h2'⟩, h3'⟩, h4'⟩, h5'⟩ := hg
        have hit := fn_decimal hE n (by omega) (by omega)
        have hil := itoa_len15 h4' h5'
        have e6 : ¬ k = 6 := by omega
        have e7 : ¬ k = 7 := by omega
        have e8 : ¬ k = 8 := by omega
        have qva := qv 60 (Lib.itoa n) (by omega)
        have qvb := qv 61 (Lib.itoa n) (by omega)
        have qvc := qv 62 (Lib.itoa n) (by omega)
        have : sg = -1 ∨ sg = 0 ∨ sg = 1 := by omega
        rcases this with rfl | rfl | rfl
        · simp only [go_sem, reduceIte, reduceCtorEq, Nat.reduceEqDiff, Nat.reduceAdd, Nat.reduceSub, Nat.reduceLT, Nat.reduceLeDiff, Nat.reduceBEq, Nat.reduceMul, Nat.reduceBNe, Int.reduceEq, Int.reduceLT, Int.reduceLE, Int.reduceNe, Int.reduceToNat, ir_usufructref36_Text_L0, h3, h1, h6, hi0, qb, ba_app, e33', e32', e60', e61', e62', eNo, eYes, TermT.cells, ro_term, hi, qf, qs, qva, c.c6, c.c7, c.c8, e6, e7, e8, hit, cmpB]
          simp
        · simp only [go_sem, reduceIte, reduceCtorEq, Nat.reduceEqDiff, Nat.reduceAdd, Nat.reduceSub, Nat.reduceLT, Nat.reduceLeDiff, Nat.reduceBEq, Nat.reduceMul, Nat.reduceBNe, Int.reduceEq, Int.reduceLT, Int.reduceLE, Int.reduceNe, Int.reduceToNat, ir_usufructref36_Text_L0, h3, h1, h6, hi0, qb, ba_app, e33', e32', e60', e61', e62', eNo, eYes, TermT.cells, ro_term, hi, qf, qs, qvb, c.c6, c.c7, c.c8, e6, e7, e8, hit, cmpB]
          simp
        · simp only [go_sem, reduceIte, reduceCtorEq, Nat.reduceEqDiff, Nat.reduceAdd, Nat.reduceSub, Nat.reduceLT, Nat.reduceLeDiff, Nat.reduceBEq, Nat.reduceMul, Nat.reduceBNe, Int.reduceEq, Int.reduceLT, Int.reduceLE, Int.reduceNe, Int.reduceToNat, ir_usufructref36_Text_L0, h3, h1, h6, hi0, qb, ba_app, e33', e32', e60', e61', e62', eNo, eYes, TermT.cells, ro_term, hi, qf, qs, qvc, c.c6, c.c7, c.c8, e6, e7, e8, hit, cmpB]
          simp
    · rw [if_pos rfl]
      have qn : ¬ (9223372036854775807 : Int) < (((BA (sS ++ [32])).size + (BA [33]).size : Nat) : Int) := sz (by first | omega | (simp; omega))
      have qf : ¬ (9223372036854775807 : Int) < (((BA (sS ++ [32] ++ [33])).size + (BA fl).size : Nat) : Int) := sz (by first | omega | (simp; omega))
      have qs : ∀ b : UInt8, ¬ (9223372036854775807 : Int) < (((BA (sS ++ [32] ++ [33] ++ fl)).size + (BA [b]).size : Nat) : Int) := fun b => sz (by first | omega | (simp; omega))
      have qv : ∀ (b : UInt8) (v : List UInt8), v.length ≤ 1000000 → ¬ (9223372036854775807 : Int) < (((BA (sS ++ [32] ++ [33] ++ fl ++ [b])).size + (BA v).size : Nat) : Int) := fun b v hv => sz (by first | omega | (simp; omega))
      have : k = 6 ∨ k = 7 ∨ k = 8 ∨ k < 6 := by omega
      rcases this with rfl | rfl | rfl | hk6
      · simp only [goodK, Bool.and_eq_true, decide_eq_true_eq] at hg
        obtain ⟨⟨rfl, rfl⟩, hgl⟩ := hg
        have qv' := qv 61 sl hsl
        simp only [go_sem, reduceIte, reduceCtorEq, Nat.reduceEqDiff, Nat.reduceAdd, Nat.reduceSub, Nat.reduceLT, Nat.reduceLeDiff, Nat.reduceBEq, Nat.reduceMul, Nat.reduceBNe, Int.reduceEq, Int.reduceLT, Int.reduceLE, Int.reduceNe, Int.reduceToNat, ir_usufructref36_Text_L0, h3, h1, h6, hi0, qb, ba_app, e33', e32', e60', e61', e62', eNo, eYes, TermT.cells, ro_term, hi, qn, qf, qs, qv', c.c6, cmpB]
        simp
      · simp only [goodK, Bool.and_eq_true, decide_eq_true_eq] at hg
        obtain ⟨⟨⟨rfl, h2'⟩, h3'⟩, h4'⟩ := hg
        have hph := fn_ref27 hE n h3' h4'
        have qv' := qv 61 (phWord n) (by have := ph_len n; omega)
        simp only [go_sem, reduceIte, reduceCtorEq, Nat.reduceEqDiff, Nat.reduceAdd, Nat.reduceSub, Nat.reduceLT, Nat.reduceLeDiff, Nat.reduceBEq, Nat.reduceMul, Nat.reduceBNe, Int.reduceEq, Int.reduceLT, Int.reduceLE, Int.reduceNe, Int.reduceToNat, ir_usufructref36_Text_L0, h3, h1, h6, hi0, qb, ba_app, e33', e32', e60', e61', e62', eNo, eYes, TermT.cells, ro_term, hi, qn, qf, qs, qv', c.c6, c.c7, hph, cmpB]
        simp
      · simp only [goodK, Bool.and_eq_true, Bool.or_eq_true, decide_eq_true_eq] at hg
        obtain ⟨⟨rfl, h2'⟩, h3'⟩ := hg
        have qva := qv 61 wNo (by decide)
        have qvb := qv 61 wYes (by decide)
        rcases h3' with rfl | rfl
        · simp only [go_sem, reduceIte, reduceCtorEq, Nat.reduceEqDiff, Nat.reduceAdd, Nat.reduceSub, Nat.reduceLT, Nat.reduceLeDiff, Nat.reduceBEq, Nat.reduceMul, Nat.reduceBNe, Int.reduceEq, Int.reduceLT, Int.reduceLE, Int.reduceNe, Int.reduceToNat, ir_usufructref36_Text_L0, h3, h1, h6, hi0, qb, ba_app, e33', e32', e60', e61', e62', eNo, eYes, TermT.cells, ro_term, hi, qn, qf, qs, qva, qvb, c.c6, c.c7, c.c8, cmpB]
          simp
        · simp only [go_sem, reduceIte, reduceCtorEq, Nat.reduceEqDiff, Nat.reduceAdd, Nat.reduceSub, Nat.reduceLT, Nat.reduceLeDiff, Nat.reduceBEq, Nat.reduceMul, Nat.reduceBNe, Int.reduceEq, Int.reduceLT, Int.reduceLE, Int.reduceNe, Int.reduceToNat, ir_usufructref36_Text_L0, h3, h1, h6, hi0, qb, ba_app, e33', e32', e60', e61', e62', eNo, eYes, TermT.cells, ro_term, hi, qn, qf, qs, qva, qvb, c.c6, c.c7, c.c8, cmpB]
          simp
      · rw [goodK_lt _ hk6] at hg
        simp only [Bool.and_eq_true, decide_eq_true_eq] at hg
        obtain ⟨⟨⟨⟨h1', h2'⟩, h3'⟩, h4'⟩, h5'⟩ := hg
        have hit := fn_decimal hE n (by omega) (by omega)
        have hil := itoa_len15 h4' h5'
        have e6 : ¬ k = 6 := by omega
        have e7 : ¬ k = 7 := by omega
        have e8 : ¬ k = 8 := by omega
        have qva := qv 60 (Lib.itoa n) (by omega)
        have qvb := qv 61 (Lib.itoa n) (by omega)
        have qvc := qv 62 (Lib.itoa n) (by omega)
        have : sg = -1 ∨ sg = 0 ∨ sg = 1 := by omega
        rcases this with rfl | rfl | rfl
        · simp only [go_sem, reduceIte, reduceCtorEq, Nat.reduceEqDiff, Nat.reduceAdd, Nat.reduceSub, Nat.reduceLT, Nat.reduceLeDiff, Nat.reduceBEq, Nat.reduceMul, Nat.reduceBNe, Int.reduceEq, Int.reduceLT, Int.reduceLE, Int.reduceNe, Int.reduceToNat, ir_usufructref36_Text_L0, h3, h1, h6, hi0, qb, ba_app, e33', e32', e60', e61', e62', eNo, eYes, TermT.cells, ro_term, hi, qn, qf, qs, qva, c.c6, c.c7, c.c8, e6, e7, e8, hit, cmpB]
          simp
        · simp only [go_sem, reduceIte, reduceCtorEq, Nat.reduceEqDiff, Nat.reduceAdd, Nat.reduceSub, Nat.reduceLT, Nat.reduceLeDiff, Nat.reduceBEq, Nat.reduceMul, Nat.reduceBNe, Int.reduceEq, Int.reduceLT, Int.reduceLE, Int.reduceNe, Int.reduceToNat, ir_usufructref36_Text_L0, h3, h1, h6, hi0, qb, ba_app, e33', e32', e60', e61', e62', eNo, eYes, TermT.cells, ro_term, hi, qn, qf, qs, qvb, c.c6, c.c7, c.c8, e6, e7, e8, hit, cmpB]
          simp
        · simp only [go_sem, reduceIte, reduceCtorEq, Nat.reduceEqDiff, Nat.reduceAdd, Nat.reduceSub, Nat.reduceLT, Nat.reduceLeDiff, Nat.reduceBEq, Nat.reduceMul, Nat.reduceBNe, Int.reduceEq, Int.reduceLT, Int.reduceLE, Int.reduceNe, Int.reduceToNat, ir_usufructref36_Text_L0, h3, h1, h6, hi0, qb, ba_app, e33', e32', e60', e61', e62', eNo, eYes, TermT.cells, ro_term, hi, qn, qf, qs, qvc, c.c6, c.c7, c.c8, e6, e7, e8, hit, cmpB]
          simp
  · rw [if_neg hi]
    cases nt
    · rw [if_neg (by decide)]
      have qf : ¬ (9223372036854775807 : Int) < (((BA (sS)).size + (BA fl).size : Nat) : Int) := sz (by first | omega | (simp; omega))
      have qs : ∀ b : UInt8, ¬ (9223372036854775807 : Int) < (((BA (sS ++ fl)).size + (BA [b]).size : Nat) : Int) := fun b => sz (by first | omega | (simp; omega))
      have qv : ∀ (b : UInt8) (v : List UInt8), v.length ≤ 1000000 → ¬ (9223372036854775807 : Int) < (((BA (sS ++ fl ++ [b])).size + (BA v).size : Nat) : Int) := fun b v hv => sz (by first | omega | (simp; omega))
      have : k = 6 ∨ k = 7 ∨ k = 8 ∨ k < 6 := by omega
      rcases this with rfl | rfl | rfl | hk6
      · simp only [goodK, Bool.and_eq_true, decide_eq_true_eq] at hg
        obtain ⟨⟨rfl, rfl⟩, hgl⟩ := hg
        have qv' := qv 61 sl hsl
        simp only [go_sem, reduceIte, reduceCtorEq, Nat.reduceEqDiff, Nat.reduceAdd, Nat.reduceSub, Nat.reduceLT, Nat.reduceLeDiff, Nat.reduceBEq, Nat.reduceMul, Nat.reduceBNe, Int.reduceEq, Int.reduceLT, Int.reduceLE, Int.reduceNe, Int.reduceToNat, ir_usufructref36_Text_L0, h3, h1, h6, hi0, qb, ba_app, e33', e32', e60', e61', e62', eNo, eYes, TermT.cells, ro_term, hi, qf, qs, qv', c.c6, cmpB]
        simp
      · simp only [goodK, Bool.and_eq_true, decide_eq_true_eq] at hg
        obtain ⟨⟨⟨rfl, h2'⟩, h3'⟩, h4'⟩ := hg
        have hph := fn_ref27 hE n h3' h4'
        have qv' := qv 61 (phWord n) (by have := ph_len n; omega)
        simp only [go_sem, reduceIte, reduceCtorEq, Nat.reduceEqDiff, Nat.reduceAdd, Nat.reduceSub, Nat.reduceLT, Nat.reduceLeDiff, Nat.reduceBEq, Nat.reduceMul, Nat.reduceBNe, Int.reduceEq, Int.reduceLT, Int.reduceLE, Int.reduceNe, Int.reduceToNat, ir_usufructref36_Text_L0, h3, h1, h6, hi0, qb, ba_app, e33', e32', e60', e61', e62', eNo, eYes, TermT.cells, ro_term, hi, qf, qs, qv', c.c6, c.c7, hph, cmpB]
        simp
      · simp only [goodK, Bool.and_eq_true, Bool.or_eq_true, decide_eq_true_eq] at hg
        obtain ⟨⟨rfl, h2'⟩, h3'⟩ := hg
        have qva := qv 61 wNo (by decide)
        have qvb := qv 61 wYes (by decide)
        rcases h3' with rfl | rfl
        · simp only [go_sem, reduceIte, reduceCtorEq, Nat.reduceEqDiff, Nat.reduceAdd, Nat.reduceSub, Nat.reduceLT, Nat.reduceLeDiff, Nat.reduceBEq, Nat.reduceMul, Nat.reduceBNe, Int.reduceEq, Int.reduceLT, Int.reduceLE, Int.reduceNe, Int.reduceToNat, ir_usufructref36_Text_L0, h3, h1, h6, hi0, qb, ba_app, e33', e32', e60', e61', e62', eNo, eYes, TermT.cells, ro_term, hi, qf, qs, qva, qvb, c.c6, c.c7, c.c8, cmpB]
          simp
        · simp only [go_sem, reduceIte, reduceCtorEq, Nat.reduceEqDiff, Nat.reduceAdd, Nat.reduceSub, Nat.reduceLT, Nat.reduceLeDiff, Nat.reduceBEq, Nat.reduceMul, Nat.reduceBNe, Int.reduceEq, Int.reduceLT, Int.reduceLE, Int.reduceNe, Int.reduceToNat, ir_usufructref36_Text_L0, h3, h1, h6, hi0, qb, ba_app, e33', e32', e60', e61', e62', eNo, eYes, TermT.cells, ro_term, hi, qf, qs, qva, qvb, c.c6, c.c7, c.c8, cmpB]
          simp
      · rw [goodK_lt _ hk6] at hg
        simp only [Bool.and_eq_true, decide_eq_true_eq] at hg
        obtain ⟨⟨⟨⟨h1', h2'⟩, h3'⟩, h4'⟩, h5'⟩ := hg
        have hit := fn_decimal hE n (by omega) (by omega)
        have hil := itoa_len15 h4' h5'
        have e6 : ¬ k = 6 := by omega
        have e7 : ¬ k = 7 := by omega
        have e8 : ¬ k = 8 := by omega
        have qva := qv 60 (Lib.itoa n) (by omega)
        have qvb := qv 61 (Lib.itoa n) (by omega)
        have qvc := qv 62 (Lib.itoa n) (by omega)
        have : sg = -1 ∨ sg = 0 ∨ sg = 1 := by omega
        rcases this with rfl | rfl | rfl
        · simp only [go_sem, reduceIte, reduceCtorEq, Nat.reduceEqDiff, Nat.reduceAdd, Nat.reduceSub, Nat.reduceLT, Nat.reduceLeDiff, Nat.reduceBEq, Nat.reduceMul, Nat.reduceBNe, Int.reduceEq, Int.reduceLT, Int.reduceLE, Int.reduceNe, Int.reduceToNat, ir_usufructref36_Text_L0, h3, h1, h6, hi0, qb, ba_app, e33', e32', e60', e61', e62', eNo, eYes, TermT.cells, ro_term, hi, qf, qs, qva, c.c6, c.c7, c.c8, e6, e7, e8, hit, cmpB]
          simp
        · simp only [go_sem, reduceIte, reduceCtorEq, Nat.reduceEqDiff, Nat.reduceAdd, Nat.reduceSub, Nat.reduceLT, Nat.reduceLeDiff, Nat.reduceBEq, Nat.reduceMul, Nat.reduceBNe, Int.reduceEq, Int.reduceLT, Int.reduceLE, Int.reduceNe, Int.reduceToNat, ir_usufructref36_Text_L0, h3, h1, h6, hi0, qb, ba_app, e33', e32', e60', e61', e62', eNo, eYes, TermT.cells, ro_term, hi, qf, qs, qvb, c.c6, c.c7, c.c8, e6, e7, e8, hit, cmpB]
          simp
        · simp only [go_sem, reduceIte, reduceCtorEq, Nat.reduceEqDiff, Nat.reduceAdd, Nat.reduceSub, Nat.reduceLT, Nat.reduceLeDiff, Nat.reduceBEq, Nat.reduceMul, Nat.reduceBNe, Int.reduceEq, Int.reduceLT, Int.reduceLE, Int.reduceNe, Int.reduceToNat, ir_usufructref36_Text_L0, h3, h1, h6, hi0, qb, ba_app, e33', e32', e60', e61', e62', eNo, eYes, TermT.cells, ro_term, hi, qf, qs, qvc, c.c6, c.c7, c.c8, e6, e7, e8, hit, cmpB]
          simp
    · rw [if_pos rfl]
      have qn : ¬ (9223372036854775807 : Int) < (((BA sS).size + (BA [33]).size : Nat) : Int) := sz (by first | omega | (simp; omega))
      have qf : ¬ (9223372036854775807 : Int) < (((BA (sS ++ [33])).size + (BA fl).size : Nat) : Int) := sz (by first | omega | (simp; omega))
      have qs : ∀ b : UInt8, ¬ (9223372036854775807 : Int) < (((BA (sS ++ [33] ++ fl)).size + (BA [b]).size : Nat) : Int) := fun b => sz (by first | omega | (simp; omega))
      have qv : ∀ (b : UInt8) (v : List UInt8), v.length ≤ 1000000 → ¬ (9223372036854775807 : Int) < (((BA (sS ++ [33] ++ fl ++ [b])).size + (BA v).size : Nat) : Int) := fun b v hv => sz (by first | omega | (simp; omega))
      have : k = 6 ∨ k = 7 ∨ k = 8 ∨ k < 6 := by omega
      rcases this with rfl | rfl | rfl | hk6
      · simp only [goodK, Bool.and_eq_true, decide_eq_true_eq] at hg
        obtain ⟨⟨rfl, rfl⟩, hgl⟩ := hg
        have qv' := qv 61 sl hsl
        simp only [go_sem, reduceIte, reduceCtorEq, Nat.reduceEqDiff, Nat.reduceAdd, Nat.reduceSub, Nat.reduceLT, Nat.reduceLeDiff, Nat.reduceBEq, Nat.reduceMul, Nat.reduceBNe, Int.reduceEq, Int.reduceLT, Int.reduceLE, Int.reduceNe, Int.reduceToNat, ir_usufructref36_Text_L0, h3, h1, h6, hi0, qb, ba_app, e33', e32', e60', e61', e62', eNo, eYes, TermT.cells, ro_term, hi, qn, qf, qs, qv', c.c6, cmpB]
        simp
      · simp only [goodK, Bool.and_eq_true, decide_eq_true_eq] at hg
        obtain ⟨⟨⟨rfl, h2'⟩, h3'⟩, h4'⟩ := hg
        have hph := fn_ref27 hE n h3' h4'
        have qv' := qv 61 (phWord n) (by have := ph_len n; omega)
        simp only [go_sem, reduceIte, reduceCtorEq, Nat.reduceEqDiff, Nat.reduceAdd, Nat.reduceSub, Nat.reduceLT, Nat.reduceLeDiff, Nat.reduceBEq, Nat.reduceMul, Nat.reduceBNe, Int.reduceEq, Int.reduceLT, Int.reduceLE, Int.reduceNe, Int.reduceToNat, ir_usufructref36_Text_L0, h3, h1, h6, hi0, qb, ba_app, e33', e32', e60', e61', e62', eNo, eYes, TermT.cells, ro_term, hi, qn, qf, qs, qv', c.c6, c.c7, hph, cmpB]
        simp
      · simp only [goodK, Bool.and_eq_true, Bool.or_eq_true, decide_eq_true_eq] at hg
        obtain ⟨⟨rfl, h2'⟩, h3'⟩ := hg
        have qva := qv 61 wNo (by decide)
        have qvb := qv 61 wYes (by decide)
        rcases h3' with rfl | rfl
        · simp only [go_sem, reduceIte, reduceCtorEq, Nat.reduceEqDiff, Nat.reduceAdd, Nat.reduceSub, Nat.reduceLT, Nat.reduceLeDiff, Nat.reduceBEq, Nat.reduceMul, Nat.reduceBNe, Int.reduceEq, Int.reduceLT, Int.reduceLE, Int.reduceNe, Int.reduceToNat, ir_usufructref36_Text_L0, h3, h1, h6, hi0, qb, ba_app, e33', e32', e60', e61', e62', eNo, eYes, TermT.cells, ro_term, hi, qn, qf, qs, qva, qvb, c.c6, c.c7, c.c8, cmpB]
          simp
        · simp only [go_sem, reduceIte, reduceCtorEq, Nat.reduceEqDiff, Nat.reduceAdd, Nat.reduceSub, Nat.reduceLT, Nat.reduceLeDiff, Nat.reduceBEq, Nat.reduceMul, Nat.reduceBNe, Int.reduceEq, Int.reduceLT, Int.reduceLE, Int.reduceNe, Int.reduceToNat, ir_usufructref36_Text_L0, h3, h1, h6, hi0, qb, ba_app, e33', e32', e60', e61', e62', eNo, eYes, TermT.cells, ro_term, hi, qn, qf, qs, qva, qvb, c.c6, c.c7, c.c8, cmpB]
          simp
      · rw [goodK_lt _ hk6] at hg
        simp only [Bool.and_eq_true, decide_eq_true_eq] at hg
        obtain ⟨⟨⟨⟨h1', h2'⟩, h3'⟩, h4'⟩, h5'⟩ := hg
        have hit := fn_decimal hE n (by omega) (by omega)
        have hil := itoa_len15 h4' h5'
        have e6 : ¬ k = 6 := by omega
        have e7 : ¬ k = 7 := by omega
        have e8 : ¬ k = 8 := by omega
        have qva := qv 60 (Lib.itoa n) (by omega)
        have qvb := qv 61 (Lib.itoa n) (by omega)
        have qvc := qv 62 (Lib.itoa n) (by omega)
        have : sg = -1 ∨ sg = 0 ∨ sg = 1 := by omega
        rcases this with rfl | rfl | rfl
        · simp only [go_sem, reduceIte, reduceCtorEq, Nat.reduceEqDiff, Nat.reduceAdd, Nat.reduceSub, Nat.reduceLT, Nat.reduceLeDiff, Nat.reduceBEq, Nat.reduceMul, Nat.reduceBNe, Int.reduceEq, Int.reduceLT, Int.reduceLE, Int.reduceNe, Int.reduceToNat, ir_usufructref36_Text_L0, h3, h1, h6, hi0, qb, ba_app, e33', e32', e60', e61', e62', eNo, eYes, TermT.cells, ro_term, hi, qn, qf, qs, qva, c.c6, c.c7, c.c8, e6, e7, e8, hit, cmpB]
          simp
        · simp only [go_sem, reduceIte, reduceCtorEq, Nat.reduceEqDiff, Nat.reduceAdd, Nat.reduceSub, Nat.reduceLT, Nat.reduceLeDiff, Nat.reduceBEq, Nat.reduceMul, Nat.reduceBNe, Int.reduceEq, Int.reduceLT, Int.reduceLE, Int.reduceNe, Int.reduceToNat, ir_usufructref36_Text_L0, h3, h1, h6, hi0, qb, ba_app, e33', e32', e60', e61', e62', eNo, eYes, TermT.cells, ro_term, hi, qn, qf, qs, qvb, c.c6, c.c7, c.c8, e6, e7, e8, hit, cmpB]
          simp
        · simp only [go_sem, reduceIte, reduceCtorEq, Nat.reduceEqDiff, Nat.reduceAdd, Nat.reduceSub, Nat.reduceLT, Nat.reduceLeDiff, Nat.reduceBEq, Nat.reduceMul, Nat.reduceBNe, Int.reduceEq, Int.reduceLT, Int.reduceLE, Int.reduceNe, Int.reduceToNat, ir_usufructref36_Text_L0, h3, h1, h6, hi0, qb, ba_app, e33', e32', e60', e61', e62', eNo, eYes, TermT.cells, ro_term, hi, qn, qf, qs, qvc, c.c6, c.c7, c.c8, e6, e7, e8, hit, cmpB]
          simp
end Go.Proofs.YtgehbkdpodnajaaDoor.Ev
