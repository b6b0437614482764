/-
  The law StoreBounds.
-/
import Derived.Test.YtaodpgpepmlfbaaDoorEvSt11
import Derived.Test.YtaodpgpepmlfbaaDoorEvSt8
set_option linter.unusedVariables false
set_option linter.unusedSimpArgs false
namespace Go.Proofs.YtaodpgpepmlfbaaDoor.Ev
attribute [local congr] bind_congr_head
attribute [local go_sem] opd_t opd_c opd_g opd_f opds_nil opds_cons get_cons put_some put_none keep_nil keepC_s keepC_n keep_cons runs_nil runs_cons run_op run_opr run_call run_gand run_gor run_gif seqK_norm seqK_exit seqK_ret blkK_norm blkK_exit blkK_ret runL_skip runL_exit runL_ret runL_items runL_seq runL_cond runL_block runL_loop fin_bind finK_norm finK_ret rvs_nil rvs_cons rv_tmp rv_cell tupOf_one tupOf_nil tupOf_two ev_mov ev_pick ev_alloc ev_box ev_build parts_nil parts_cons fills_nil fills_cons ev_bsl ev_bslo ev_load ev_store ev_nilck ev_bin ev_binb ev_aeq ev_un ev_i2i ev_i2t ev_isnilI nilIF ev_s2b ev_ext ev_fld ev_idxs ev_fa ev_ias ev_len ev_lens ev_s2s ev_mkf ev_rng ev_nxt ev_app bOf_s pvOf_s agOf_s tpOf_s iOf_s sOf_s ite_bind Option.bind_some Option.bind_none if_true if_false ite_true ite_false argEnv_nil argEnv_cons len_av elems_av ias_av cells_av tuple_av AV.tuple AV.cells faF ldAt liveRef aggOf nilckF binV binI binS binB unV Bool.not_true Bool.not_false List.length_nil List.length_cons List.nil_append List.cons_append List.append_nil List.getElem?_cons_zero List.getElem?_cons_succ List.drop_zero List.drop_succ_cons List.drop_nil List.take_zero List.take_succ_cons List.take_nil List.set_cons_zero List.set_cons_succ compact_same compact_new closedB nodupB envIds ids0 upto visit pos sel AV.ids idss idsss Ob.ids AV.ren rens renss Ob.ren renEnv AV.snap snaps stAt okSt putCells List.all_nil List.all_cons List.contains_nil List.contains_cons Bool.and_true Bool.true_and Bool.and_false Bool.false_and Bool.or_true Bool.true_or Bool.or_false Bool.false_or decide_eq_true_eq decide_true decide_false beq_iff_eq bne_iff_ne beq_self_eq_true Bool.not_eq_true' Bool.false_eq_true eq_self and_self and_true true_and and_false false_and or_true true_or or_false false_or not_true_eq_false not_false_eq_true ne_eq Nat.zero_add Nat.add_zero Nat.le_refl Nat.not_lt_zero Nat.lt_irrefl Nat.zero_le Int.toNat_natCast gt_iff_lt ge_iff_le Int.lt_irrefl Int.natCast_nonneg txt_eq get_nil appF elems belows AV.under AV.flat flats List.length_map List.map_append List.map_cons List.map_nil List.length_append take_map_all List.flatten_cons List.flatten_nil bld_nil imp_false false_imp_iff false_implies true_implies implies_true decide_eq_false_iff_not Nat.one_mul Nat.mul_one idsss_app renss_app belowss_app ev_mn ev_mx ev_isnils ev_sls ev_slx evo_none evo_some vals minV maxV minF maxF backId List.getElem?_nil putAll Option.all_none Option.all_some Option.isSome_some intOf aszI compactV_same compactV_new callP_any callQ_eq callN_any boxQ AV.id? ids_avR ren_av under_av snap_av renss_mapf belowss_mapf idsss_mapf isnilsF List.length_eq_zero_iff int_beq int_bne decide_not slx_av Int.toNat_zero ev_mkm ev_lk ev_mup ev_mdl ev_lenm ev_isnilm mpOf_s mapAt_s mapOf_nil mapOf_mp isnilm_nil isnilm_mp lkR Option.getD_some Option.getD_none Option.isSome_none Prim.rdo ev_snp snp_own snp_v
abbrev acv (s : Sl ActT) : AV := s.av 5 ActT.cells
def okA (a : ActT) : Bool := decide (a.nm.size ≤ 100) && decide (a.b.list.length ≤ 60) && decide (a.kp.list.length ≤ 60)
def fewS (l : List ActT) : Bool := decide (l.length ≤ 40) && l.all okA
variable {E : Prog}
theorem few_loop {G : Nat → Option (List AV)} {raw : Raw} {L : Env × Store → Option (Sig × Env × Store)} (x : Sl ActT) (hx : x.list.length ≤ 100000)
    (hL : ∀ e st, L (e, st) = (IR.runL G raw [] ir_usufructlaw05_few_L0 e st).bind (seqK fun e st => L (compact [] 0 [0, 3] e st))) :
    ∀ (rest : List ActT) (i : Nat), x.list.drop i = rest → i ≤ x.list.length →
    L ([(0, acv x), (3, vi i)], []) = if rest.all okA = true then some (.exit 0, [], []) else some (.ret, [(2, vb false)], [])
  | [], i, h, hi => by
    have h1 := drop_nil' h hi
    rw [hL]
    simp -implicitDefEqProofs only [go_sem, reduceIte, reduceCtorEq, Nat.reduceEqDiff, Nat.reduceAdd, Nat.reduceSub, Nat.reduceLT, Nat.reduceLeDiff, Nat.reduceBEq, Nat.reduceMul, Nat.reduceBNe, Int.reduceEq, Int.reduceLT, Int.reduceLE, Int.reduceNe, Int.reduceToNat, ir_usufructlaw05_few_L0, h1, ro_act]
  | a :: rest, i, h, hi => by
    obtain ⟨h1, h2, h3, h4, h5⟩ := drop_cons h
    have h6 := wrap_succ (i := i) (by omega)
    have ih := few_loop x hx hL rest (i + 1) h2 h4
    rw [hL, List.all_cons]
    have e1 : okA a = (decide (a.nm.size ≤ 100) && decide (a.b.list.length ≤ 60) && decide (a.kp.list.length ≤ 60)) := rfl
    by_cases c1 : a.nm.size ≤ 100
    · have c1' : ¬ (100 : Int) < (a.nm.size : Int) := by omega
      by_cases c2 : a.b.list.length ≤ 60
      · have c2' : ¬ (60 : Int) < (a.b.list.length : Int) := by omega
        by_cases c3 : a.kp.list.length ≤ 60
        · have c3' : ¬ (60 : Int) < (a.kp.list.length : Int) := by omega
          simp -implicitDefEqProofs only [go_sem, reduceIte, reduceCtorEq, Nat.reduceEqDiff, Nat.reduceAdd, Nat.reduceSub, Nat.reduceLT, Nat.reduceLeDiff, Nat.reduceBEq, Nat.reduceMul, Nat.reduceBNe, Int.reduceEq, Int.reduceLT, Int.reduceLE, Int.reduceNe, Int.reduceToNat, ir_usufructlaw05_few_L0, h1, h3, h6, ActT.cells, ro_act, ro_by, ro_in, e1, c1, c2, c3, c1', c2', c3', ih]
        · have c3' : (60 : Int) < (a.kp.list.length : Int) := by omega
          simp -implicitDefEqProofs only [go_sem, reduceIte, reduceCtorEq, Nat.reduceEqDiff, Nat.reduceAdd, Nat.reduceSub, Nat.reduceLT, Nat.reduceLeDiff, Nat.reduceBEq, Nat.reduceMul, Nat.reduceBNe, Int.reduceEq, Int.reduceLT, Int.reduceLE, Int.reduceNe, Int.reduceToNat, ir_usufructlaw05_few_L0, h1, h3, h6, ActT.cells, ro_act, ro_by, ro_in, e1, c1, c2, c3, c1', c2', c3']
      · have c2' : (60 : Int) < (a.b.list.length : Int) := by omega
        simp -implicitDefEqProofs only [go_sem, reduceIte, reduceCtorEq, Nat.reduceEqDiff, Nat.reduceAdd, Nat.reduceSub, Nat.reduceLT, Nat.reduceLeDiff, Nat.reduceBEq, Nat.reduceMul, Nat.reduceBNe, Int.reduceEq, Int.reduceLT, Int.reduceLE, Int.reduceNe, Int.reduceToNat, ir_usufructlaw05_few_L0, h1, h3, h6, ActT.cells, ro_act, ro_by, ro_in, e1, c1, c2, c1', c2']
    · have c1' : (100 : Int) < (a.nm.size : Int) := by omega
      simp -implicitDefEqProofs only [go_sem, reduceIte, reduceCtorEq, Nat.reduceEqDiff, Nat.reduceAdd, Nat.reduceSub, Nat.reduceLT, Nat.reduceLeDiff, Nat.reduceBEq, Nat.reduceMul, Nat.reduceBNe, Int.reduceEq, Int.reduceLT, Int.reduceLE, Int.reduceNe, Int.reduceToNat, ir_usufructlaw05_few_L0, h1, h3, h6, ActT.cells, ro_act, ro_by, ro_in, e1, c1, c1']
theorem fn_few (hE : Std E fns) (x : Sl ActT) (hx : x.list.length < 9223372036854775808) : callP E f_usufructlaw05_few [acv x] = some (vb (fewS x.list)) := by
  rw [hE.run rfl rfl]
  unfold fewS
  by_cases c : x.list.length ≤ 40
  · have c' : ¬ (40 : Int) < (x.list.length : Int) := by omega
    have h := few_loop x (by omega) (loopL_eq (IR.runL E.glob (callL E) [] ir_usufructlaw05_few_L0) (compact [] 0 [0, 3])) x.list 0 rfl (Nat.zero_le _)
    simp only [Int.natCast_zero] at h
    cases ha : x.list.all okA
    · rw [ha] at h
      simp only [Bool.false_eq_true, if_false] at h
      simp -implicitDefEqProofs only [go_sem, reduceIte, reduceCtorEq, Nat.reduceEqDiff, Nat.reduceAdd, Nat.reduceSub, Nat.reduceLT, Nat.reduceLeDiff, Nat.reduceBEq, Nat.reduceMul, Nat.reduceBNe, Int.reduceEq, Int.reduceLT, Int.reduceLE, Int.reduceNe, Int.reduceToNat, ir_usufructlaw05_few, h, ro_act, c', c]
    · rw [ha] at h
      simp only [if_true] at h
      simp -implicitDefEqProofs only [go_sem, reduceIte, reduceCtorEq, Nat.reduceEqDiff, Nat.reduceAdd, Nat.reduceSub, Nat.reduceLT, Nat.reduceLeDiff, Nat.reduceBEq, Nat.reduceMul, Nat.reduceBNe, Int.reduceEq, Int.reduceLT, Int.reduceLE, Int.reduceNe, Int.reduceToNat, ir_usufructlaw05_few, h, ro_act, c', c]
  · have c' : (40 : Int) < (x.list.length : Int) := by omega
    simp -implicitDefEqProofs only [go_sem, reduceIte, reduceCtorEq, Nat.reduceEqDiff, Nat.reduceAdd, Nat.reduceSub, Nat.reduceLT, Nat.reduceLeDiff, Nat.reduceBEq, Nat.reduceMul, Nat.reduceBNe, Int.reduceEq, Int.reduceLT, Int.reduceLE, Int.reduceNe, Int.reduceToNat, ir_usufructlaw05_few, ro_act, c', c]
/-- What a deed does without a fuse. -/
theorem run_plain {cap : Int} {l x : List FX} {down : Bool} {a : ActT} (h : Inv cap l x) (hc : 0 ≤ cap ∧ cap ≤ 4611686018427387904) (ha : okA a = true) :
    ∃ e down' l' x', runS cap l down 0 a = (e, 0, down', l') ∧ Inv cap l' x' ∧ (a.k = 6 → e = 0 → totF x' ≤ totF x ∧ down' = false) ∧ (down' = true → totF x' = totF x) := by
  have hn : a.nm.size ≤ 100 := by
    simp only [okA, Bool.and_eq_true, decide_eq_true_eq] at ha
    exact ha.1.1
  by_cases hk : 0 ≤ a.k ∧ a.k ≤ 6
  · obtain ⟨l', h1, h2⟩ := run_do (fuse := 0) (down := down) h hc (Int.le_refl 0) hn hk
    have hb : ∀ w, buS a.k w 0 = false := fun w => by simp [buS]
    have hfu : ∀ w, fuS a.k w 0 = 0 := fun w => by unfold fuS; split; rfl; rw [if_neg (by omega)]
    simp only [hb, hfu, Bool.false_eq_true, if_false, Bool.or_false, Bool.not_false, Bool.true_or, if_true] at h1 h2
    refine ⟨_, _, l', _, h1, h2, fun k6 e0 => ?_, fun hd => ?_⟩
    · unfold doS at e0 ⊢
      rw [if_pos k6] at e0 ⊢
      cases down with
      | true => exact ⟨(bootR_in x 0 fun f hf => h.okF hc.2 hf).1, rfl⟩
      | false => rw [if_neg (show ¬ (false = true) by decide)] at e0; cases e0
    · unfold doS at hd ⊢
      by_cases k6 : a.k = 6
      · rw [if_pos k6] at hd ⊢
        cases down with
        | true => cases hd
        | false => cases hd
      · rw [if_neg k6] at hd ⊢
        by_cases k5 : a.k = 5
        · rw [if_pos k5]
        · rw [if_neg k5] at hd ⊢
          cases down with
          | true => rfl
          | false =>
            rw [if_neg (show ¬ (false = true) by decide)] at hd
            exfalso
            revert hd
            repeat' split
            all_goals (intro hd; cases hd)
  · refine ⟨0, down, l, x, ?_, h, fun k6 => absurd k6 (by omega), fun _ => rfl⟩
    unfold runS
    rw [if_neg (by omega), if_neg (by omega), if_neg (by omega), if_neg (by omega), if_neg (by omega), if_neg (by omega)]
theorem run_ok {cap fuse : Int} {l x : List FX} {a : ActT} (h : Inv cap l x) (hc : 0 ≤ cap ∧ cap ≤ 4611686018427387904) (ha : okA a = true) (hf : 0 ≤ fuse ∧ fuse ≤ 9223372036854775807) : RunOK cap fuse l a := by
  simp only [okA, Bool.and_eq_true, decide_eq_true_eq] at ha
  obtain ⟨⟨a1, a2⟩, a3⟩ := ha
  have hll : l.length = x.length := h.p.length_eq
  refine ⟨hf, ⟨hc.1, hc.2, by rw [tot_perm h.p]; exact h.t⟩, by omega, by omega, by have := h.c; omega, fun f hf => ?_, (inv_boot h hc.2 _).1⟩
  have := (h.n f (h.p.mem_iff.1 hf)).1
  omega
theorem names_loop (hE : Std E fns) {L : Env × Store → Option (Sig × Env × Store)} (acts : Sl ActT) (n used i : Int) (a : ActT) (ns : Sl ByteArray) (hn : ns.list.length ≤ 100000)
    (hg : ∀ m, m ∈ ns.list → labelGood m = true ∧ m.size ≤ 100) (hs : ns.list.Pairwise fun a b => kyB a < kyB b) (cap fuse : Int) (l : List FX)
    (hL : ∀ e st, L (e, st) = (IR.runL E.glob (callL E) [] ir_usufructlaw05_StoreBounds_L0 e st).bind (seqK fun e st => L (compact [] 3 [1, 5, 6, 7, 8, 11, 12] e st))) :
    ∀ (rest : List ByteArray) (k : Nat), ns.list.drop k = rest → k ≤ ns.list.length →
    L ([(1, acv acts), (5, vi n), (6, .ref 0 0 0 0), (7, vi used), (8, vi i), (11, ns.av 1 nmC), (12, vi k)], sto cap fuse false l ++ [.box a.cells]) = some (.exit 2, [(1, acv acts), (5, vi n), (6, .ref 0 0 0 0), (7, vi used), (8, vi i)], sto cap fuse false l ++ [.box a.cells])
  | [], k, h, hk => by
    have h1 := drop_nil' h hk
    rw [hL]
    simp -implicitDefEqProofs only [go_sem, reduceIte, reduceCtorEq, Nat.reduceEqDiff, Nat.reduceAdd, Nat.reduceSub, Nat.reduceLT, Nat.reduceLeDiff, Nat.reduceBEq, Nat.reduceMul, Nat.reduceBNe, Int.reduceEq, Int.reduceLT, Int.reduceLE, Int.reduceNe, Int.reduceToNat, ir_usufructlaw05_StoreBounds_L0, h1, ro_act, ro_nm, ro_by, ro_in, sto, ActT.cells, mapF_ids, mapF_ren]
  | m :: rest, k, h, hk => by
    obtain ⟨h1, h2, h3, h4, h5⟩ := drop_cons h
    have h6 := wrap_succ (i := k) (by omega)
    have ih := names_loop hE acts n used i a ns hn hg hs cap fuse l hL rest (k + 1) h2 h4
    obtain ⟨g1, g2⟩ := hg m (List.mem_of_getElem? h1)
    have hgd := fn_refGood hE m (by omega)
    rw [g1] at hgd
    simp only [sto, ActT.cells, List.cons_append, List.nil_append] at ih ⊢
    rw [hL]
    cases k with
    | zero =>
      simp only [Int.natCast_zero] at h3 h6 ih ⊢
      simp -implicitDefEqProofs only [go_sem, reduceIte, reduceCtorEq, Nat.reduceEqDiff, Nat.reduceAdd, Nat.reduceSub, Nat.reduceLT, Nat.reduceLeDiff, Nat.reduceBEq, Nat.reduceMul, Nat.reduceBNe, Int.reduceEq, Int.reduceLT, Int.reduceLE, Int.reduceNe, Int.reduceToNat, ir_usufructlaw05_StoreBounds_L0, h1, h3, h6, hgd, nmC, ro_act, ro_nm, ro_by, ro_in, mapF_ids, mapF_ren, ih]
    | succ k =>
      have hk0 : (0 : Int) < ((k + 1 : Nat) : Int) := by omega
      have hw : IntKind.i64.wrap (((k + 1 : Nat) : Int) - 1) = (k : Int) := by rw [IntKind.wrap_i64]; omega
      obtain ⟨m', hm'⟩ : ∃ m', ns.list[k]? = some m' := ⟨_, List.getElem?_eq_getElem (by omega)⟩
      have hlt : kyB m' < kyB m := by
        have i1 := (List.getElem?_eq_some_iff.1 hm')
        have i2 := (List.getElem?_eq_some_iff.1 h1)
        obtain ⟨q1, q2⟩ := i1
        obtain ⟨q3, q4⟩ := i2
        have := List.pairwise_iff_getElem.1 hs k (k + 1) q1 q3 (by omega)
        rw [q2, q4] at this
        exact this
      simp -implicitDefEqProofs only [go_sem, reduceIte, reduceCtorEq, Nat.reduceEqDiff, Nat.reduceAdd, Nat.reduceSub, Nat.reduceLT, Nat.reduceLeDiff, Nat.reduceBEq, Nat.reduceMul, Nat.reduceBNe, Int.reduceEq, Int.reduceLT, Int.reduceLE, Int.reduceNe, Int.reduceToNat, ir_usufructlaw05_StoreBounds_L0, h1, h3, h6, hgd, nmC, ro_act, ro_nm, ro_by, ro_in, mapF_ids, mapF_ren, ih, hk0, hw, hm', bLess, hlt]
theorem bounds_loop (hE : Std E fns) (hv : VOK E) (hS : SOK E) {L : Env × Store → Option (Sig × Env × Store)} (acts : Sl ActT) (n : Int) (hn : 0 ≤ n ∧ n ≤ 100000) (hal : acts.list.length ≤ 40) (hok : ∀ a, a ∈ acts.list → okA a = true)
    (hL : ∀ e st, L (e, st) = (IR.runL E.glob (callL E) [] ir_usufructlaw05_StoreBounds_L1 e st).bind (seqK fun e st => L (compact [] 2 [1, 5, 6, 7, 8] e st))) :
    ∀ (rest : List ActT) (i : Nat) (l x : List FX) (down : Bool), acts.list.drop i = rest → i ≤ acts.list.length → Inv n l x →
    ∃ down' l', L ([(1, acv acts), (5, vi n), (6, .ref 0 0 0 0), (7, vi (totF x)), (8, vi i)], sto n 0 down l) = some (.exit 0, [], sto n 0 down' l')
  | [], i, l, x, down, h, hi, hI => by
    have h1 := drop_nil' h hi
    refine ⟨down, l, ?_⟩
    rw [hL]
    simp -implicitDefEqProofs only [go_sem, reduceIte, reduceCtorEq, Nat.reduceEqDiff, Nat.reduceAdd, Nat.reduceSub, Nat.reduceLT, Nat.reduceLeDiff, Nat.reduceBEq, Nat.reduceMul, Nat.reduceBNe, Int.reduceEq, Int.reduceLT, Int.reduceLE, Int.reduceNe, Int.reduceToNat, ir_usufructlaw05_StoreBounds_L1, h1, ro_act, sto, mapF_ids, mapF_ren]
  | a :: rest, i, l, x, down, h, hi, hI => by
    obtain ⟨h1, h2, h3, h4, h5⟩ := drop_cons h
    have h6 := wrap_succ (i := i) (by omega)
    have ha := hok a (List.mem_of_getElem? h1)
    have hc : 0 ≤ n ∧ n ≤ 4611686018427387904 := ⟨hn.1, by omega⟩
    obtain ⟨e, down2, l2, x2, r1, r2, r3, r4⟩ := run_plain (down := down) hI hc ha
    have hr := fn_run hE hv hS n 0 down l a (run_ok hI hc ha ⟨by omega, by omega⟩)
    rw [r1] at hr
    have ht := tot_perm r2.p
    have htt := r2.t
    have hll : l2.length = x2.length := r2.p.length_eq
    have hxc := r2.c
    have hfr := fn_Free hE hS n 0 down2 l2 ⟨hc.1, hc.2, by rw [ht]; exact htt⟩
    have hdn := fn_down hE n 0 down2 l2
    have hnm := fn_Names hE hS n 0 down2 l2 (by omega) (fun f hf => by have := (r2.n f (r2.p.mem_iff.1 hf)).1; omega)
    have hrf : idss a.cells = [] := ro_act a
    cases down2 with
    | true =>
      obtain ⟨d', l', ih⟩ := bounds_loop hE hv hS acts n hn hal hok hL rest (i + 1) l2 x2 true h2 h4 r2
      refine ⟨d', l', ?_⟩
      rw [r4 rfl] at ih
      have hnk : ¬ (e = 0 ∧ a.k = 6) := fun q => by have := (r3 q.2 q.1).2; cases this
      simp only [sto] at hr hdn ih ⊢
      rw [hL]
      simp only [ActT.cells] at hr
      by_cases c1 : e = 0
      · have c2 : ¬ a.k = 6 := fun q => hnk ⟨c1, q⟩
        simp -implicitDefEqProofs only [go_sem, reduceIte, reduceCtorEq, Nat.reduceEqDiff, Nat.reduceAdd, Nat.reduceSub, Nat.reduceLT, Nat.reduceLeDiff, Nat.reduceBEq, Nat.reduceMul, Nat.reduceBNe, Int.reduceEq, Int.reduceLT, Int.reduceLE, Int.reduceNe, Int.reduceToNat, ir_usufructlaw05_StoreBounds_L1, ActT.cells, h1, h3, h6, hr, hdn, c1, c2, ro_act, ro_by, ro_in, mapF_ids, mapF_ren, ih]
      · simp -implicitDefEqProofs only [go_sem, reduceIte, reduceCtorEq, Nat.reduceEqDiff, Nat.reduceAdd, Nat.reduceSub, Nat.reduceLT, Nat.reduceLeDiff, Nat.reduceBEq, Nat.reduceMul, Nat.reduceBNe, Int.reduceEq, Int.reduceLT, Int.reduceLE, Int.reduceNe, Int.reduceToNat, ir_usufructlaw05_StoreBounds_L1, ActT.cells, h1, h3, h6, hr, hdn, c1, ro_act, ro_by, ro_in, mapF_ids, mapF_ren, ih]
    | false =>
      obtain ⟨d', l', ih⟩ := bounds_loop hE hv hS acts n hn hal hok hL rest (i + 1) l2 x2 false h2 h4 r2
      refine ⟨d', l', ?_⟩
      have hns : sortN (l2.map FX.n) = x2.map FX.n := sort_names r2
      rw [hns] at hnm
      have hw1 : IntKind.i64.wrap (n - (n - (totF l2 : Int))) = (totF x2 : Int) := by rw [IntKind.wrap_i64, ht]; omega
      have hw2 : ¬ ((totF x2 : Nat) : Int) < 0 := by omega
      have hw3 : ¬ n < ((totF x2 : Nat) : Int) := by omega
      have hlp := names_loop hE acts n (totF x2) i a (slOf (x2.map FX.n)) (by rw [slOf_list, List.length_map]; omega) (fun m hm => by
          rw [slOf_list] at hm
          obtain ⟨f, hf, rfl⟩ := List.mem_map.1 hm
          exact ⟨(r2.n f hf).2, (r2.n f hf).1⟩) (by rw [slOf_list]; exact List.pairwise_map.2 r2.s) n 0 l2 (loopL_eq (IR.runL E.glob (callL E) [] ir_usufructlaw05_StoreBounds_L0) (compact [] 3 [1, 5, 6, 7, 8, 11, 12])) _ 0 rfl (Nat.zero_le _)
      simp only [sto, Int.natCast_zero, Bool.false_eq_true, if_false, ActT.cells, List.cons_append, List.nil_append] at hr hdn ih hfr hnm hlp ⊢
      rw [hL]
      by_cases c1 : e = 0
      · by_cases c2 : a.k = 6
        · have c3 : ¬ ((totF x : Nat) : Int) < ((totF x2 : Nat) : Int) := by have := (r3 c2 c1).1; omega
          simp only [c2] at hr hlp
          simp -implicitDefEqProofs only [go_sem, reduceIte, reduceCtorEq, Nat.reduceEqDiff, Nat.reduceAdd, Nat.reduceSub, Nat.reduceLT, Nat.reduceLeDiff, Nat.reduceBEq, Nat.reduceMul, Nat.reduceBNe, Int.reduceEq, Int.reduceLT, Int.reduceLE, Int.reduceNe, Int.reduceToNat, ir_usufructlaw05_StoreBounds_L1, ActT.cells, h1, h3, h6, hr, hdn, c1, c2, c3, hfr, hnm, hw1, hw2, hw3, hlp, ro_act, ro_by, ro_in, ro_nm, mapF_ids, mapF_ren, ih]
        · simp -implicitDefEqProofs only [go_sem, reduceIte, reduceCtorEq, Nat.reduceEqDiff, Nat.reduceAdd, Nat.reduceSub, Nat.reduceLT, Nat.reduceLeDiff, Nat.reduceBEq, Nat.reduceMul, Nat.reduceBNe, Int.reduceEq, Int.reduceLT, Int.reduceLE, Int.reduceNe, Int.reduceToNat, ir_usufructlaw05_StoreBounds_L1, ActT.cells, h1, h3, h6, hr, hdn, c1, c2, hfr, hnm, hw1, hw2, hw3, hlp, ro_act, ro_by, ro_in, ro_nm, mapF_ids, mapF_ren, ih]
      · simp -implicitDefEqProofs only [go_sem, reduceIte, reduceCtorEq, Nat.reduceEqDiff, Nat.reduceAdd, Nat.reduceSub, Nat.reduceLT, Nat.reduceLeDiff, Nat.reduceBEq, Nat.reduceMul, Nat.reduceBNe, Int.reduceEq, Int.reduceLT, Int.reduceLE, Int.reduceNe, Int.reduceToNat, ir_usufructlaw05_StoreBounds_L1, ActT.cells, h1, h3, h6, hr, hdn, c1, hfr, hnm, hw1, hw2, hw3, hlp, ro_act, ro_by, ro_in, ro_nm, mapF_ids, mapF_ren, ih]
theorem inv_nil (cap : Int) (h : 0 ≤ cap) : Inv cap [] [] := ⟨List.Perm.refl _, List.Pairwise.nil, h, fun _ hf => (by cases hf), by decide, fun _ hf => (by cases hf)⟩
theorem fn_StoreBounds (hE : Std E fns) (hv : VOK E) (hS : SOK E) (haw : callP E f_usufructlaw05_awake [] = some (vb true)) (c : Int) (hcc : 0 ≤ c ∧ c ≤ 65535) (acts : Sl ActT) (hx : acts.list.length < 9223372036854775808) :
    callP E f_usufructlaw05_StoreBounds [.v (.int .u16 c), acv acts] = some (vb true) := by
  have hfw := fn_few hE acts hx
  cases hf : fewS acts.list with
  | false =>
    rw [hf] at hfw
    rw [hE.run rfl rfl]
    simp -implicitDefEqProofs only [go_sem, reduceIte, reduceCtorEq, Nat.reduceEqDiff, Nat.reduceAdd, Nat.reduceSub, Nat.reduceLT, Nat.reduceLeDiff, Nat.reduceBEq, Nat.reduceMul, Nat.reduceBNe, Int.reduceEq, Int.reduceLT, Int.reduceLE, Int.reduceNe, Int.reduceToNat, ir_usufructlaw05_StoreBounds, haw, hfw, ro_act]
  | true =>
    rw [hf] at hfw
    simp only [fewS, Bool.and_eq_true, decide_eq_true_eq] at hf
    have w1 : IntKind.i64.wrap c = c := by rw [IntKind.wrap_i64]; omega
    have w2 : c.tmod 2000 = c % 2000 := Int.tmod_eq_emod_of_nonneg hcc.1
    obtain ⟨r, hr⟩ : ∃ r, r = c % 2000 := ⟨_, rfl⟩
    have hr2 : 0 ≤ r ∧ r < 2000 := by omega
    rw [← hr] at w2
    have w3 : IntKind.i64.wrap r = r := by rw [IntKind.wrap_i64]; omega
    have w4 : IntKind.i64.wrap (1 + r) = 1 + r := by rw [IntKind.wrap_i64]; omega
    have hN := fn_new hE (1 + r)
    rw [if_neg (by omega)] at hN
    obtain ⟨d', l', hlp⟩ := bounds_loop hE hv hS acts (1 + r) (by omega) hf.1 (fun a ha => List.all_eq_true.1 hf.2 a ha) (loopL_eq (IR.runL E.glob (callL E) [] ir_usufructlaw05_StoreBounds_L1) (compact [] 2 [1, 5, 6, 7, 8])) acts.list 0 [] [] false rfl (Nat.zero_le _) (inv_nil _ (by omega))
    have t0 : totF [] = 0 := rfl
    rw [t0] at hlp
    simp only [sto, Int.natCast_zero] at hN hlp
    rw [hE.run rfl rfl]
    simp -implicitDefEqProofs only [go_sem, reduceIte, reduceCtorEq, Nat.reduceEqDiff, Nat.reduceAdd, Nat.reduceSub, Nat.reduceLT, Nat.reduceLeDiff, Nat.reduceBEq, Nat.reduceMul, Nat.reduceBNe, Int.reduceEq, Int.reduceLT, Int.reduceLE, Int.reduceNe, Int.reduceToNat, ir_usufructlaw05_StoreBounds, haw, hfw, ro_act, w1, w2, w3, w4, hN, hlp, ev_isnil, isnilP_ref, isnilP_nil, mapF_ids, mapF_ren]
end Go.Proofs.YtaodpgpepmlfbaaDoor.Ev
