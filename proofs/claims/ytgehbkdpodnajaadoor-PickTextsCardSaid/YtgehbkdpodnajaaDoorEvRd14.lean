/-
  Picks as texts: the laws PickReads and PickTexts.
-/
import Derived.Test.YtgehbkdpodnajaaDoorEvRd11
import Derived.Test.YtgehbkdpodnajaaDoorEvRd12
set_option linter.unusedVariables false
set_option linter.unusedSimpArgs false
namespace Go.Proofs.YtgehbkdpodnajaaDoor.Ev
attribute [local congr] bind_congr_head
attribute [local go_sem] opd_t opd_c opd_g opd_f opds_nil opds_cons get_cons put_some put_none keep_nil keepC_s keepC_n keep_cons runs_nil runs_cons run_op run_opr run_call run_gand run_gor run_gif seqK_norm seqK_exit seqK_ret blkK_norm blkK_exit blkK_ret runL_skip runL_exit runL_ret runL_items runL_seq runL_cond runL_block runL_loop fin_bind finK_norm finK_ret rvs_nil rvs_cons rv_tmp rv_cell tupOf_one tupOf_nil tupOf_two ev_mov ev_pick ev_alloc ev_box ev_build parts_nil parts_cons fills_nil fills_cons ev_bsl ev_bslo ev_load ev_store ev_nilck ev_bin ev_binb ev_aeq ev_un ev_i2i ev_i2t ev_s2b ev_ext ev_fld ev_idxs ev_fa ev_ias ev_len ev_lens ev_s2s ev_mkf ev_rng ev_nxt ev_app bOf_s pvOf_s agOf_s tpOf_s iOf_s sOf_s ite_bind Option.bind_some Option.bind_none if_true if_false ite_true ite_false argEnv_nil argEnv_cons len_av elems_av ias_av cells_av tuple_av AV.tuple AV.cells faF ldAt liveRef aggOf nilckF binV binI binS binB unV Bool.not_true Bool.not_false List.length_nil List.length_cons List.nil_append List.cons_append List.append_nil List.getElem?_cons_zero List.getElem?_cons_succ List.drop_zero List.drop_succ_cons List.drop_nil List.take_zero List.take_succ_cons List.take_nil List.set_cons_zero List.set_cons_succ compact_same compact_new closedB nodupB envIds ids0 upto visit pos sel AV.ids idss idsss Ob.ids AV.ren rens renss Ob.ren renEnv AV.snap snaps stAt okSt putCells List.all_nil List.all_cons List.contains_nil List.contains_cons Bool.and_true Bool.true_and Bool.and_false Bool.false_and Bool.or_true Bool.true_or Bool.or_false Bool.false_or decide_eq_true_eq decide_true decide_false beq_iff_eq bne_iff_ne beq_self_eq_true Bool.not_eq_true' Bool.false_eq_true eq_self and_self and_true true_and and_false false_and or_true true_or or_false false_or not_true_eq_false not_false_eq_true ne_eq Nat.zero_add Nat.add_zero Nat.le_refl Nat.not_lt_zero Nat.lt_irrefl Nat.zero_le Int.toNat_natCast gt_iff_lt ge_iff_le Int.lt_irrefl Int.natCast_nonneg txt_eq get_nil appF elems belows AV.under AV.flat flats List.length_map List.map_append List.map_cons List.map_nil List.length_append take_map_all List.flatten_cons List.flatten_nil bld_nil imp_false false_imp_iff false_implies true_implies implies_true decide_eq_false_iff_not Nat.one_mul Nat.mul_one idsss_app renss_app belowss_app ev_mn ev_mx ev_isnils ev_sls ev_slx evo_none evo_some vals minV maxV minF maxF backId List.getElem?_nil putAll Option.all_none Option.all_some Option.isSome_some intOf aszI compactV_same compactV_new callP_any callQ_eq callN_any boxQ AV.id? ids_avR ren_av under_av snap_av renss_mapf belowss_mapf idsss_mapf isnilsF List.length_eq_zero_iff int_beq int_bne decide_not slx_av Int.toNat_zero
/-! ### lengths -/
theorem text_lenB {t : TermT} (h : goodB t = true) : (textT t).length ≤ t.s.size + 23 ∧ t.s.size ≤ (textT t).length := by
  obtain ⟨n1, n2, n3, n4, n5⟩ := name_at h
  have h9 := good_ne9 h
  have hk9 := (cmp_of t.field).le
  have hv : (valueT t).length ≤ t.s.size + 15 ∧ t.s.size ≤ (valueT t).length := by
    have hsz : t.s.data.toList.length = t.s.size := by rw [← ba_size, ba_of]
    have he : t.s = ⟨#[]⟩ → t.s.size = 0 := fun e => by rw [e]; rfl
    unfold valueT
    by_cases k6 : fieldK t.field = 6
    · rw [if_pos k6]; omega
    · rw [if_neg k6]
      by_cases k7 : fieldK t.field = 7
      · rw [if_pos k7]
        unfold goodB at h
        rw [k7] at h
        simp only [goodK, Bool.and_eq_true, decide_eq_true_eq] at h
        have := ph_len t.n
        have := he h.1.1.2
        omega
      · rw [if_neg k7]
        by_cases k8 : fieldK t.field = 8
        · rw [if_pos k8]
          unfold goodB at h
          rw [k8] at h
          simp only [goodK, Bool.and_eq_true, decide_eq_true_eq] at h
          have := he h.1.2
          have : (if t.n = 1 then wYes else wNo).length ≤ 3 := by split <;> decide
          omega
        · rw [if_neg k8]
          unfold goodB at h
          rw [goodK_lt t (by omega)] at h
          simp only [Bool.and_eq_true, decide_eq_true_eq] at h
          have := itoa_len15 h.1.2 h.2
          have := he h.1.1.2
          omega
  have h1 : (if t.not = true then [(33 : UInt8)] else []).length ≤ 1 := by split <;> simp
  unfold textT
  simp only [List.length_append, List.length_cons]
  omega
theorem join_mem : ∀ {ts : List (List UInt8)} {p : List UInt8}, p ∈ ts → p.length ≤ (joinB ts).length
  | [], p, h => by cases h
  | a :: ts, p, h => by
    rw [joinB]
    rcases List.mem_cons.1 h with rfl | h
    · split <;> simp
    · have ih := join_mem h
      have hne : ts ≠ [] := fun e => by rw [e] at h; cases h
      rw [if_neg hne]
      simp only [List.length_append, List.length_cons]; omega
theorem join_le : ∀ {ts : List (List UInt8)} {B : Nat}, (∀ p, p ∈ ts → p.length ≤ B) → (joinB ts).length ≤ ts.length * (B + 1)
  | [], B, _ => by simp [joinB]
  | a :: ts, B, h => by
    have h1 := h a (by simp)
    have ih := join_le (ts := ts) (B := B) fun p hp => h p (List.mem_cons_of_mem _ hp)
    rw [joinB, List.length_cons, Nat.succ_mul]
    split
    · omega
    · simp only [List.length_append, List.length_cons]; omega
theorem read_small {w : List UInt8} {l : List TermT} (h : readS w = (l, 0, 0)) (hw : w.length ≤ 400) : LOK' l := by
  obtain ⟨h1, h2⟩ := read_text h
  intro t ht
  simp only [goodsB', Bool.and_eq_true, List.all_eq_true] at h1
  have h3 := (text_lenB (h1.2 t ht)).2
  have h4 := join_mem (ts := l.map textT) (List.mem_map.2 ⟨t, ht, rfl⟩)
  have h5 : (joinB (l.map textT)).length = w.length := by rw [← h2]; rfl
  omega
theorem goods_text {l : List TermT} (h : goodsB l = true) (hl : LOK l) : (textS l).length ≤ 10000 := by
  simp only [goodsB, Bool.and_eq_true, decide_eq_true_eq, List.all_eq_true] at h
  have := join_le (ts := l.map textT) (B := 123) (fun p hp => by
    obtain ⟨t, ht, rfl⟩ := List.mem_map.1 hp
    have h1 := (text_lenB (h.2 t ht)).1
    have h2 := hl t ht
    omega)
  rw [List.length_map] at this
  have h3 : l.length * (123 + 1) ≤ 32 * 124 := Nat.mul_le_mul_right _ h.1
  unfold textS
  omega
theorem readP_bad : ∀ (ps : List (List UInt8)) (i : Nat) (acc : List TermT) {l : List TermT} {k : Nat} {e : Int}, readP ps i acc = (l, k, e) → ¬ e = 0 → l = []
  | [], i, acc, l, k, e, h, h0 => by
    simp only [readP, Prod.mk.injEq] at h
    exact absurd h.2.2.symm h0
  | p :: ps, i, acc, l, k, e, h, h0 => by
    simp only [readP] at h
    split at h
    · simp only [Prod.mk.injEq] at h; exact h.1.symm
    · split at h
      · exact readP_bad ps (i + 1) _ h h0
      · simp only [Prod.mk.injEq] at h; exact h.1.symm
/-! ### the same rows -/
theorem eqL_term (x : TermT) : eqL [.b, .s, .i, .i, .s] x.cells x.cells = some true := by
  simp only [TermT.cells, eqL, eqV, if_true, txt_eq, int_beq, decide_true, Bool.and_true, Bool.true_and, beq_self_eq_true]
theorem same_loop {G : Nat → Option (List AV)} {raw : Raw} {L : Env × Store → Option (Sig × Env × Store)} (a b : Sl TermT) (hab : a.list = b.list) (hlen : a.list.length ≤ 1000000)
    (hL : ∀ e st, L (e, st) = (IR.runL G raw [] ir_usufructlaw36_same_L0 e st).bind (seqK fun e st => L (compact [] 0 [0, 1, 5] e st))) :
    ∀ (rest : List TermT) (i : Nat), a.list.drop i = rest → i ≤ a.list.length → L ([(0, a.av 5 TermT.cells), (1, b.av 5 TermT.cells), (5, vi i)], []) = some (.exit 0, [], [])
  | [], i, h, hi => by
    have h1 := drop_nil' h hi
    rw [hL]
    simp only [go_sem, reduceIte, reduceCtorEq, Nat.reduceEqDiff, Nat.reduceAdd, Nat.reduceSub, Nat.reduceLT, Nat.reduceLeDiff, Nat.reduceBEq, Nat.reduceMul, Nat.reduceBNe, Int.reduceEq, Int.reduceLT, Int.reduceLE, Int.reduceNe, Int.reduceToNat, ir_usufructlaw36_same_L0, h1]
  | x :: rest, i, h, hi => by
    obtain ⟨h1, h2, h3, h4, h5⟩ := drop_cons h
    have h6 := wrap_succ (i := i) (by omega)
    have ih := same_loop a b hab hlen hL rest (i + 1) h2 h4
    have h1b : b.list[i]? = some x := by rw [← hab]; exact h1
    have he := eqL_term x
    simp only [TermT.cells] at he
    rw [hL]
    simp only [go_sem, reduceIte, reduceCtorEq, Nat.reduceEqDiff, Nat.reduceAdd, Nat.reduceSub, Nat.reduceLT, Nat.reduceLeDiff, Nat.reduceBEq, Nat.reduceMul, Nat.reduceBNe, Int.reduceEq, Int.reduceLT, Int.reduceLE, Int.reduceNe, Int.reduceToNat, ir_usufructlaw36_same_L0, h1, h1b, h3, he, TermT.cells, h6, ih, ro_term]
theorem fn_same {E : Prog} (hE : Std E fns) (a b : Sl TermT) (hab : a.list = b.list) (hlen : a.list.length ≤ 1000000) : callP E f_usufructlaw36_same [a.av 5 TermT.cells, b.av 5 TermT.cells] = some (vb true) := by
  have h := same_loop a b hab hlen (loopL_eq (IR.runL E.glob (callL E) [] ir_usufructlaw36_same_L0) (compact [] 0 [0, 1, 5])) a.list 0 rfl (by omega)
  simp only [Int.natCast_zero] at h
  have e : ((a.list.length : Int) = (b.list.length : Int)) = True := by rw [hab]; exact eq_true rfl
  rw [hE.run rfl rfl]
  simp only [go_sem, reduceIte, reduceCtorEq, Nat.reduceEqDiff, Nat.reduceAdd, Nat.reduceSub, Nat.reduceLT, Nat.reduceLeDiff, Nat.reduceBEq, Nat.reduceMul, Nat.reduceBNe, Int.reduceEq, Int.reduceLT, Int.reduceLE, Int.reduceNe, Int.reduceToNat, ir_usufructlaw36_same, e, h, ro_term]
/-! ### the document's Text -/
theorem join_cons (a : List UInt8) : ∀ ts : List (List UInt8), joinB (a :: ts) = a ++ (ts.map fun p => 32 :: p).flatten
  | [] => by rw [joinB, if_pos rfl]; simp
  | b :: ts => by
    rw [joinB, if_neg (by simp), join_cons b ts]; simp
theorem rtext_loop {E : Prog} (hE : Std E fns) {L : Env × Store → Option (Sig × Env × Store)} (l : Sl TermT) (hll : l.list.length ≤ 40) (hg : ∀ t, t ∈ l.list → goodB t = true ∧ t.s.size ≤ 100)
    (hL : ∀ e st, L (e, st) = (IR.runL E.glob (callL E) [] ir_usufructref36_Text_L0 e st).bind (seqK fun e st => L (compact [] 0 [0, 3, 4] e st))) :
    ∀ (rest : List TermT) (i : Nat) (sS : List UInt8), l.list.drop i = rest → i ≤ l.list.length → 0 < i → sS.length ≤ i * 1000 →
    L ([(0, l.av 5 TermT.cells), (3, vs (BA sS)), (4, vi i)], []) = some (.exit 0, [(3, vs (BA (sS ++ ((rest.map textT).map fun p => 32 :: p).flatten)))], [])
  | [], i, sS, h, hi, h0, hS => by
    have h1 := drop_nil' h hi
    rw [hL]
    simp only [go_sem, reduceIte, reduceCtorEq, Nat.reduceEqDiff, Nat.reduceAdd, Nat.reduceSub, Nat.reduceLT, Nat.reduceLeDiff, Nat.reduceBEq, Nat.reduceMul, Nat.reduceBNe, Int.reduceEq, Int.reduceLT, Int.reduceLE, Int.reduceNe, Int.reduceToNat, ir_usufructref36_Text_L0, h1, List.map_nil, List.flatten_nil, List.append_nil, ro_term]
  | t :: rest, i, sS, h, hi, h0, hS => by
    obtain ⟨h1, h2, h3, h4, h5⟩ := drop_cons h
    obtain ⟨k1, k2⟩ := hg t (List.mem_of_getElem? h1)
    have hst := rtext_step hE l hll hL t rest i sS h (by omega) k1 (by omega)
    rw [if_pos h0] at hst
    have hle := (text_lenB k1).1
    have ih := rtext_loop hE l hll hg hL rest (i + 1) (sS ++ [32] ++ textT t) h2 h4 (by omega) (by simp; omega)
    rw [hst, ih]
    simp
theorem fn_refText {E : Prog} (hE : Std E fns) (l : Sl TermT) (hll : l.list.length ≤ 40) (hg : ∀ t, t ∈ l.list → goodB t = true ∧ t.s.size ≤ 100) : callP E f_usufructref36_Text [l.av 5 TermT.cells] = some (vs (BA (textS l.list))) := by
  have hL := loopL_eq (IR.runL E.glob (callL E) [] ir_usufructref36_Text_L0) (compact [] 0 [0, 3, 4])
  have main : loopL (IR.runL E.glob (callL E) [] ir_usufructref36_Text_L0) (compact [] 0 [0, 3, 4]) ([(0, l.av 5 TermT.cells), (3, vs (BA [])), (4, vi (0 : Nat))], []) = some (.exit 0, [(3, vs (BA (textS l.list)))], []) := by
    cases hl : l.list with
    | nil =>
      rw [hL]
      have h1 : l.list.length = 0 := by rw [hl]; rfl
      simp only [go_sem, reduceIte, reduceCtorEq, Nat.reduceEqDiff, Nat.reduceAdd, Nat.reduceSub, Nat.reduceLT, Nat.reduceLeDiff, Nat.reduceBEq, Nat.reduceMul, Nat.reduceBNe, Int.reduceEq, Int.reduceLT, Int.reduceLE, Int.reduceNe, Int.reduceToNat, ir_usufructref36_Text_L0, h1, Int.natCast_zero, ro_term]
      rfl
    | cons t rest =>
      have h0 : l.list.drop 0 = t :: rest := hl
      obtain ⟨h1, h2, h3, h4, h5⟩ := drop_cons h0
      obtain ⟨k1, k2⟩ := hg t (by rw [hl]; simp)
      have hst := rtext_step hE l hll hL t rest 0 [] h0 (by simp) k1 (by omega)
      rw [if_neg (by omega), List.nil_append] at hst
      have hle := (text_lenB k1).1
      have ih := rtext_loop hE l hll hg hL rest 1 (textT t) h2 h4 (by omega) (by omega)
      rw [hst, ih]
      unfold textS
      rw [List.map_cons, join_cons]
  rw [hE.run rfl rfl]
  simp only [Int.natCast_zero, e0] at main
  simp only [go_sem, reduceIte, reduceCtorEq, Nat.reduceEqDiff, Nat.reduceAdd, Nat.reduceSub, Nat.reduceLT, Nat.reduceLeDiff, Nat.reduceBEq, Nat.reduceMul, Nat.reduceBNe, Int.reduceEq, Int.reduceLT, Int.reduceLE, Int.reduceNe, Int.reduceToNat, ir_usufructref36_Text, main, ro_term]
/-! ### the laws -/
set_option maxHeartbeats 8000000 in
theorem fn_lawPickReads {E : Prog} (hE : Std E fns) (hv : VOK E) (hp : PHOK E) (hib : IBOK E) (has : ASOK E) (hsp : SPOK E) (hi : ITOK E) (hj : JOK E)
    (haw : callP E f_usufructlaw36_awake [] = some (vb true)) (w : List UInt8) : callP E f_usufructlaw36_PickReads [vs (BA w)] = some (vb true) := by
  rw [hE.run rfl rfl]
  by_cases c : w.length > 400
  · have c' : ((400 : Int) < ((BA w).size : Int)) = True := by rw [ba_size]; exact eq_true (by omega)
    simp only [go_sem, reduceIte, reduceCtorEq, Nat.reduceEqDiff, Nat.reduceAdd, Nat.reduceSub, Nat.reduceLT, Nat.reduceLeDiff, Nat.reduceBEq, Nat.reduceMul, Nat.reduceBNe, Int.reduceEq, Int.reduceLT, Int.reduceLE, Int.reduceNe, Int.reduceToNat, ir_usufructlaw36_PickReads, haw, c']
  · have c' : ((400 : Int) < ((BA w).size : Int)) = False := by rw [ba_size]; exact eq_false (by omega)
    have h1 := fn_pickRead hE hv hp hib has hsp w (by omega)
    have h2 := fn_refRead hE w (by omega)
    unfold readR at h1 h2
    cases hr : readS w with
    | mk l q =>
      obtain ⟨at_, e⟩ := q
      rw [hr] at h1 h2
      dsimp only at h1 h2
      by_cases h0 : e = 0
      · subst h0
        have hz : at_ = 0 := by
          unfold readS at hr
          split at hr
          · simp only [Prod.mk.injEq] at hr; exact hr.2.1.symm
          · have := readP_at (pcs w) 0 [] (by rw [hr])
            rw [hr] at this; exact this
        subst hz
        have hlok := read_small hr (by omega)
        obtain ⟨q1, q2⟩ := read_text hr
        have hgl : l.length ≤ 32 := by simp only [goodsB', Bool.and_eq_true, decide_eq_true_eq] at q1; exact q1.1
        have h3 := fn_same hE (slOf l) (slOf l) rfl (by rw [slOf_list]; omega)
        have h4 := fn_pickGoods' hE hv (slOf l) (by rw [slOf_list]; omega) (by rw [slOf_list]; exact hlok)
        have h5 := fn_pickText hE hv hp hi hj (slOf l) (by rw [slOf_list]; omega) (by rw [slOf_list]; exact hlok)
        have q1' : goodsB l = true := q1
        rw [slOf_list, q1'] at h4 h5
        rw [if_pos rfl, q2] at h5
        simp only [go_sem, reduceIte, reduceCtorEq, Nat.reduceEqDiff, Nat.reduceAdd, Nat.reduceSub, Nat.reduceLT, Nat.reduceLeDiff, Nat.reduceBEq, Nat.reduceMul, Nat.reduceBNe, Int.reduceEq, Int.reduceLT, Int.reduceLE, Int.reduceNe, Int.reduceToNat, ir_usufructlaw36_PickReads, haw, c', h1, h2, h3, h4, h5, ro_term]
      · have hl0 : l = [] := by
          unfold readS at hr
          split at hr
          · simp only [Prod.mk.injEq] at hr; exact absurd hr.2.2.symm h0
          · exact readP_bad (pcs w) 0 [] hr h0
        subst hl0
        have h3 := fn_same hE (slOf []) (slOf []) rfl (by simp [slOf, Sl.list])
        simp only [go_sem, reduceIte, reduceCtorEq, Nat.reduceEqDiff, Nat.reduceAdd, Nat.reduceSub, Nat.reduceLT, Nat.reduceLeDiff, Nat.reduceBEq, Nat.reduceMul, Nat.reduceBNe, Int.reduceEq, Int.reduceLT, Int.reduceLE, Int.reduceNe, Int.reduceToNat, ir_usufructlaw36_PickReads, haw, c', h1, h2, h3, h0, ro_term]
set_option maxHeartbeats 8000000 in
theorem fn_lawPickTexts {E : Prog} (hE : Std E fns) (hv : VOK E) (hp : PHOK E) (hib : IBOK E) (has : ASOK E) (hsp : SPOK E) (hi : ITOK E) (hj : JOK E)
    (haw : callP E f_usufructlaw36_awake [] = some (vb true)) (l : Sl TermT) : callP E f_usufructlaw36_PickTexts [l.av 5 TermT.cells] = some (vb true) := by
  have h1 := fn_short hE l
  rw [hE.run rfl rfl]
  cases hs1 : shortS l
  · rw [hs1] at h1
    simp only [go_sem, reduceIte, reduceCtorEq, Nat.reduceEqDiff, Nat.reduceAdd, Nat.reduceSub, Nat.reduceLT, Nat.reduceLeDiff, Nat.reduceBEq, Nat.reduceMul, Nat.reduceBNe, Int.reduceEq, Int.reduceLT, Int.reduceLE, Int.reduceNe, Int.reduceToNat, ir_usufructlaw36_PickTexts, haw, h1, ro_term]
  rw [hs1] at h1
  have hsl : l.list.length ≤ 40 ∧ LOK l.list := by
    simp only [shortS, Bool.and_eq_true, decide_eq_true_eq, Bool.not_eq_true'] at hs1
    refine ⟨hs1.1, fun t ht => ?_⟩
    have h2 := List.any_eq_false.1 hs1.2 t ht
    simp only [longT, Bool.or_eq_true, decide_eq_true_eq, not_or] at h2
    omega
  obtain ⟨hlen, hlok⟩ := hsl
  have hlok' : LOK' l.list := fun t ht => by have := hlok t ht; omega
  have h2 := fn_pickText hE hv hp hi hj l (by omega) hlok'
  have h3 := fn_refGoods hE l (by omega) hlok
  have h4 := fn_pickGoods' hE hv l (by omega) hlok'
  cases hg : goodsB l.list
  · rw [hg] at h2 h3 h4
    simp only [Bool.false_eq_true, if_false] at h2
    have z : (BA [] = (⟨#[]⟩ : ByteArray)) = True := eq_true rfl
    simp only [go_sem, reduceIte, reduceCtorEq, Nat.reduceEqDiff, Nat.reduceAdd, Nat.reduceSub, Nat.reduceLT, Nat.reduceLeDiff, Nat.reduceBEq, Nat.reduceMul, Nat.reduceBNe, Int.reduceEq, Int.reduceLT, Int.reduceLE, Int.reduceNe, Int.reduceToNat, ir_usufructlaw36_PickTexts, haw, h1, h2, h3, h4, z, ro_term]
  · rw [hg] at h2 h3 h4
    rw [if_pos rfl] at h2
    have hg' := hg
    simp only [goodsB, Bool.and_eq_true, decide_eq_true_eq, List.all_eq_true] at hg'
    have hr : readS (textS l.list) = (l.list, 0, 0) := text_read hg
    have hle := goods_text hg hlok
    have h5 := fn_pickRead hE hv hp hib has hsp (textS l.list) (by omega)
    unfold readR at h5
    rw [hr] at h5
    have h6 := fn_refText hE l hlen fun t ht => ⟨hg'.2 t ht, hlok t ht⟩
    have h7 := fn_same hE l (slOf l.list) (slOf_list _).symm (by omega)
    simp only [go_sem, reduceIte, reduceCtorEq, Nat.reduceEqDiff, Nat.reduceAdd, Nat.reduceSub, Nat.reduceLT, Nat.reduceLeDiff, Nat.reduceBEq, Nat.reduceMul, Nat.reduceBNe, Int.reduceEq, Int.reduceLT, Int.reduceLE, Int.reduceNe, Int.reduceToNat, ir_usufructlaw36_PickTexts, haw, h1, h2, h3, h4, h5, h6, h7, ro_term]
end Go.Proofs.YtgehbkdpodnajaaDoor.Ev
