/-
  What is done to a store is what the document does.
-/
import Derived.Test.YtaodpgpepmlfbaaDoorEvSt4
set_option linter.unusedVariables false
set_option linter.unusedSimpArgs false
namespace Go.Proofs.YtaodpgpepmlfbaaDoor.Ev
attribute [local congr] bind_congr_head
attribute [local go_sem] opd_t opd_c opd_g opd_f opds_nil opds_cons get_cons put_some put_none keep_nil keepC_s keepC_n keep_cons runs_nil runs_cons run_op run_opr run_call run_gand run_gor run_gif seqK_norm seqK_exit seqK_ret blkK_norm blkK_exit blkK_ret runL_skip runL_exit runL_ret runL_items runL_seq runL_cond runL_block runL_loop fin_bind finK_norm finK_ret rvs_nil rvs_cons rv_tmp rv_cell tupOf_one tupOf_nil tupOf_two ev_mov ev_pick ev_alloc ev_box ev_build parts_nil parts_cons fills_nil fills_cons ev_bsl ev_bslo ev_load ev_store ev_nilck ev_bin ev_binb ev_aeq ev_un ev_i2i ev_i2t ev_isnilI nilIF ev_s2b ev_ext ev_fld ev_idxs ev_fa ev_ias ev_len ev_lens ev_s2s ev_mkf ev_rng ev_nxt ev_app bOf_s pvOf_s agOf_s tpOf_s iOf_s sOf_s ite_bind Option.bind_some Option.bind_none if_true if_false ite_true ite_false argEnv_nil argEnv_cons len_av elems_av ias_av cells_av tuple_av AV.tuple AV.cells faF ldAt liveRef aggOf nilckF binV binI binS binB unV Bool.not_true Bool.not_false List.length_nil List.length_cons List.nil_append List.cons_append List.append_nil List.getElem?_cons_zero List.getElem?_cons_succ List.drop_zero List.drop_succ_cons List.drop_nil List.take_zero List.take_succ_cons List.take_nil List.set_cons_zero List.set_cons_succ compact_same compact_new closedB nodupB envIds ids0 upto visit pos sel AV.ids idss idsss Ob.ids AV.ren rens renss Ob.ren renEnv AV.snap snaps stAt okSt putCells List.all_nil List.all_cons List.contains_nil List.contains_cons Bool.and_true Bool.true_and Bool.and_false Bool.false_and Bool.or_true Bool.true_or Bool.or_false Bool.false_or decide_eq_true_eq decide_true decide_false beq_iff_eq bne_iff_ne beq_self_eq_true Bool.not_eq_true' Bool.false_eq_true eq_self and_self and_true true_and and_false false_and or_true true_or or_false false_or not_true_eq_false not_false_eq_true ne_eq Nat.zero_add Nat.add_zero Nat.le_refl Nat.not_lt_zero Nat.lt_irrefl Nat.zero_le Int.toNat_natCast gt_iff_lt ge_iff_le Int.lt_irrefl Int.natCast_nonneg txt_eq get_nil appF elems belows AV.under AV.flat flats List.length_map List.map_append List.map_cons List.map_nil List.length_append take_map_all List.flatten_cons List.flatten_nil bld_nil imp_false false_imp_iff false_implies true_implies implies_true decide_eq_false_iff_not Nat.one_mul Nat.mul_one idsss_app renss_app belowss_app ev_mn ev_mx ev_isnils ev_sls ev_slx evo_none evo_some vals minV maxV minF maxF backId List.getElem?_nil putAll Option.all_none Option.all_some Option.isSome_some intOf aszI compactV_same compactV_new callP_any callQ_eq callN_any boxQ AV.id? ids_avR ren_av under_av snap_av renss_mapf belowss_mapf idsss_mapf isnilsF List.length_eq_zero_iff int_beq int_bne decide_not slx_av Int.toNat_zero ev_mkm ev_lk ev_mup ev_mdl ev_lenm ev_isnilm mpOf_s mapAt_s mapOf_nil mapOf_mp isnilm_nil isnilm_mp lkR Option.getD_some Option.getD_none Option.isSome_none Prim.rdo ev_snp snp_own snp_v
structure ActT where
  (k n : Int) (nm : ByteArray) (b : Sl UInt8) (kp : Sl Int)
def ActT.cells (a : ActT) : List AV := [vi a.k, vi a.n, vs a.nm, a.b.av 1 byC, a.kp.av 1 inC]
theorem ro_act : Ro ActT.cells := fun a => by
  simp only [ActT.cells, idss, ids_avR ro_by, ids_avR ro_in, AV.ids, List.append_nil]
variable {E : Prog}
def crashS (l : List FX) : Int × Int × Bool × List FX := (0, 0, true, l)
def bootS (l : List FX) (down : Bool) (fuse : Int) (keep : List Int) : Int × Int × Bool × List FX :=
  if down = true then (0, fuse, false, bootL keep (sortN (l.map FX.n)) 0 l) else (9, fuse, down, l)
def runS (cap : Int) (l : List FX) (down : Bool) (fuse : Int) (a : ActT) : Int × Int × Bool × List FX :=
  if a.k = 0 ∨ a.k = 1 then appS cap l down fuse a.nm a.b.list else if a.k = 2 then syncS l down fuse a.nm else if a.k = 3 then truncS l down fuse a.nm a.n
  else if a.k = 4 then removeS l down fuse a.nm else if a.k = 5 then crashS l else if a.k = 6 then bootS l down fuse a.kp.list else (0, fuse, down, l)
structure RunOK (cap fuse : Int) (l : List FX) (a : ActT) : Prop where
  hf : 0 ≤ fuse ∧ fuse ≤ 9223372036854775807
  hc : 0 ≤ cap ∧ cap ≤ 4611686018427387904 ∧ (totF l : Int) ≤ cap
  hn : a.nm.size < 9223372036854775807
  hk : a.kp.list.length ≤ 100000
  hl : l.length ≤ 100000
  hm : ∀ f, f ∈ l → f.n.size ≤ 100000
  ho : okB a.kp.list (sortN (l.map FX.n)) 0 l
theorem fn_run (hE : Std E fns) (hv : VOK E) (hS : SOK E) (cap fuse : Int) (down : Bool) (l : List FX) (a : ActT) (h : RunOK cap fuse l a) :
    callL E f_usufructlaw05_run [.ref 0 0 0 0, .agg a.cells] [] (sto cap fuse down l) = some (vi (runS cap l down fuse a).1, sto cap (runS cap l down fuse a).2.1 (runS cap l down fuse a).2.2.1 (runS cap l down fuse a).2.2.2) := by
  have h1 := fn_append hE hv hS cap fuse down l a.nm a.b h.hf h.hn h.hc
  have h2 := fn_sync hE cap fuse down l a.nm h.hf
  have h3 := fn_trunc hE cap fuse down l a.nm a.n h.hf
  have h4 := fn_remove hE cap fuse down l a.nm h.hf
  have h5 := fn_crash hE cap fuse down l
  have h6 := fn_boot hE hS cap fuse down l a.kp h.hk h.hl h.hm h.ho
  have e6 : (if down = true then (vi 0, sto cap fuse false (bootL a.kp.list (sortN (l.map FX.n)) 0 l)) else (vi 9, sto cap fuse down l)) = (vi (bootS l down fuse a.kp.list).1, sto cap (bootS l down fuse a.kp.list).2.1 (bootS l down fuse a.kp.list).2.2.1 (bootS l down fuse a.kp.list).2.2.2) := by
    unfold bootS; cases down <;> rfl
  rw [e6] at h6
  rw [hE.runN rfl rfl]
  unfold runS
  by_cases k0 : a.k = 0
  · simp only [k0, true_or, if_true]
    generalize appS cap l down fuse a.nm a.b.list = r at *
    simp only [sto] at h1 ⊢
    simp -implicitDefEqProofs only [go_sem, reduceIte, reduceCtorEq, Nat.reduceEqDiff, Nat.reduceAdd, Nat.reduceSub, Nat.reduceLT, Nat.reduceLeDiff, Nat.reduceBEq, Nat.reduceMul, Nat.reduceBNe, Int.reduceEq, Int.reduceLT, Int.reduceLE, Int.reduceNe, Int.reduceToNat, ir_usufructlaw05_run, ActT.cells, k0, h1, mapF_ids, mapF_ren, ro_by, ro_in]
  · by_cases k1 : a.k = 1
    · simp only [k1, or_true, if_true]
      generalize appS cap l down fuse a.nm a.b.list = r at *
      simp only [sto] at h1 ⊢
      simp -implicitDefEqProofs only [go_sem, reduceIte, reduceCtorEq, Nat.reduceEqDiff, Nat.reduceAdd, Nat.reduceSub, Nat.reduceLT, Nat.reduceLeDiff, Nat.reduceBEq, Nat.reduceMul, Nat.reduceBNe, Int.reduceEq, Int.reduceLT, Int.reduceLE, Int.reduceNe, Int.reduceToNat, ir_usufructlaw05_run, ActT.cells, k1, h1, mapF_ids, mapF_ren, ro_by, ro_in]
    · rw [if_neg (show ¬ (a.k = 0 ∨ a.k = 1) by omega)]
      by_cases k2 : a.k = 2
      · simp only [k2, if_true]
        generalize syncS l down fuse a.nm = r at *
        simp only [sto] at h2 ⊢
        simp -implicitDefEqProofs only [go_sem, reduceIte, reduceCtorEq, Nat.reduceEqDiff, Nat.reduceAdd, Nat.reduceSub, Nat.reduceLT, Nat.reduceLeDiff, Nat.reduceBEq, Nat.reduceMul, Nat.reduceBNe, Int.reduceEq, Int.reduceLT, Int.reduceLE, Int.reduceNe, Int.reduceToNat, ir_usufructlaw05_run, ActT.cells, k2, h2, mapF_ids, mapF_ren, ro_by, ro_in]
      · rw [if_neg k2]
        by_cases k3 : a.k = 3
        · simp only [k3, if_true]
          generalize truncS l down fuse a.nm a.n = r at *
          simp only [sto] at h3 ⊢
          simp -implicitDefEqProofs only [go_sem, reduceIte, reduceCtorEq, Nat.reduceEqDiff, Nat.reduceAdd, Nat.reduceSub, Nat.reduceLT, Nat.reduceLeDiff, Nat.reduceBEq, Nat.reduceMul, Nat.reduceBNe, Int.reduceEq, Int.reduceLT, Int.reduceLE, Int.reduceNe, Int.reduceToNat, ir_usufructlaw05_run, ActT.cells, k3, h3, mapF_ids, mapF_ren, ro_by, ro_in]
        · rw [if_neg k3]
          by_cases k4 : a.k = 4
          · simp only [k4, if_true]
            generalize removeS l down fuse a.nm = r at *
            simp only [sto] at h4 ⊢
            simp -implicitDefEqProofs only [go_sem, reduceIte, reduceCtorEq, Nat.reduceEqDiff, Nat.reduceAdd, Nat.reduceSub, Nat.reduceLT, Nat.reduceLeDiff, Nat.reduceBEq, Nat.reduceMul, Nat.reduceBNe, Int.reduceEq, Int.reduceLT, Int.reduceLE, Int.reduceNe, Int.reduceToNat, ir_usufructlaw05_run, ActT.cells, k4, h4, mapF_ids, mapF_ren, ro_by, ro_in]
          · rw [if_neg k4]
            by_cases k5 : a.k = 5
            · simp only [k5, if_true, crashS]
              simp only [sto] at h5 ⊢
              simp -implicitDefEqProofs only [go_sem, reduceIte, reduceCtorEq, Nat.reduceEqDiff, Nat.reduceAdd, Nat.reduceSub, Nat.reduceLT, Nat.reduceLeDiff, Nat.reduceBEq, Nat.reduceMul, Nat.reduceBNe, Int.reduceEq, Int.reduceLT, Int.reduceLE, Int.reduceNe, Int.reduceToNat, ir_usufructlaw05_run, ActT.cells, k5, h5, mapF_ids, mapF_ren, ro_by, ro_in]
            · rw [if_neg k5]
              by_cases k6 : a.k = 6
              · simp only [k6, if_true]
                generalize bootS l down fuse a.kp.list = r at *
                simp only [sto] at h6 ⊢
                simp -implicitDefEqProofs only [go_sem, reduceIte, reduceCtorEq, Nat.reduceEqDiff, Nat.reduceAdd, Nat.reduceSub, Nat.reduceLT, Nat.reduceLeDiff, Nat.reduceBEq, Nat.reduceMul, Nat.reduceBNe, Int.reduceEq, Int.reduceLT, Int.reduceLE, Int.reduceNe, Int.reduceToNat, ir_usufructlaw05_run, ActT.cells, k6, h6, mapF_ids, mapF_ren, ro_by, ro_in]
              · rw [if_neg k6]
                simp only [sto]
                simp -implicitDefEqProofs only [go_sem, reduceIte, reduceCtorEq, Nat.reduceEqDiff, Nat.reduceAdd, Nat.reduceSub, Nat.reduceLT, Nat.reduceLeDiff, Nat.reduceBEq, Nat.reduceMul, Nat.reduceBNe, Int.reduceEq, Int.reduceLT, Int.reduceLE, Int.reduceNe, Int.reduceToNat, ir_usufructlaw05_run, ActT.cells, k0, k1, k2, k3, k4, k5, k6, mapF_ids, mapF_ren, ro_by, ro_in]
end Go.Proofs.YtaodpgpepmlfbaaDoor.Ev
set_option linter.unusedVariables false
set_option linter.unusedSimpArgs false
namespace Go.Proofs.YtaodpgpepmlfbaaDoor.Ev
theorem ext_le (s : ByteArray) (k : Nat) : (s.extract 0 k).size ≤ s.size ∧ (s.extract 0 k).size ≤ k ∧ (k ≤ s.size → (s.extract 0 k).size = k) := by
  have : (s.extract 0 k).size = min k s.size := by simp
  omega
structure Inv (cap : Int) (l x : List FX) : Prop where
  p : l.Perm x
  s : srtF x
  t : (totF x : Int) ≤ cap
  w : ∀ f, f ∈ x → 0 ≤ f.sf ∧ f.sf ≤ f.b.size
  c : x.length ≤ 256
  n : ∀ f, f ∈ x → f.n.size ≤ 100 ∧ labelGood f.n = true
theorem Inv.okF {cap : Int} {l x : List FX} (h : Inv cap l x) (hc : cap ≤ 4611686018427387904) {f : FX} (hf : f ∈ x) : okF f := ⟨h.w f hf, by have := tot_mem hf; have := h.t; omega⟩
theorem srt_names {x y : List FX} (e : x.map FX.n = y.map FX.n) (h : srtF x) : srtF y := by
  have h1 : (x.map FX.n).Pairwise fun a b => kyB a < kyB b := List.pairwise_map.2 h
  rw [e] at h1
  exact (List.pairwise_map (f := FX.n)).1 h1
theorem sort_names {cap : Int} {l x : List FX} (h : Inv cap l x) : sortN (l.map FX.n) = x.map FX.n := sortN_eq (h.p.map _) (List.pairwise_map.2 h.s)
/-- The power back, file by file. -/
theorem boot_inv {keep : List Int} : ∀ (rest : List FX) (i : Nat) (l out : List FX), l.Perm (out ++ rest) → srtF (out ++ rest) → (∀ f, f ∈ rest → okF f) →
    okB keep (rest.map FX.n) i l ∧ (bootL keep (rest.map FX.n) i l).Perm (out ++ bootR keep rest i) ∧ srtF (out ++ bootR keep rest i)
  | [], i, l, out, p, s, _ => ⟨trivial, by simpa [bootL, bootR] using p, by simpa [bootR] using s⟩
  | f :: rest, i, l, out, p, s, hw => by
    have hf : f ∈ l := p.mem_iff.2 (by simp)
    have hnd : nodF l := nod_perm p.symm s.nod
    have hfd : fndF f.n l = some f := fnd_of hnd hf rfl
    obtain ⟨s1, s2, s3⟩ := List.pairwise_append.1 s
    obtain ⟨s4, s5⟩ := List.pairwise_cons.1 s2
    have hfil : (filF f.n l).Perm (out ++ rest) := by
      refine (fil_perm p).trans ?_
      have e1 : filF f.n out = out := fil_no fun g hg e => by
        have := s3 g hg f (by simp)
        rw [e] at this
        exact List.lt_irrefl _ this
      have e2 : filF f.n rest = rest := fil_no fun g hg e => by
        have := s4 g hg
        rw [e] at this
        exact List.lt_irrefl _ this
      have e3 : filF f.n (out ++ f :: rest) = out ++ rest := by
        unfold filF at e1 e2 ⊢
        rw [List.filter_append, e1, List.filter_cons_of_neg (by simp), e2]
      rw [e3]
    simp only [List.map_cons, okB, bootL, bootR_cons]
    cases hst : stayF f (kp keep i)
    · have e1 : stepB l f.n (kp keep i) = filF f.n l := by
        unfold stepB
        rw [hfd]
        simp only [hst, Bool.false_eq_true, if_false]
        exact del_fil hnd
      rw [e1]
      obtain ⟨i1, i2, i3⟩ := boot_inv rest (i + 1) (filF f.n l) out hfil (List.Pairwise.sublist (List.Sublist.append_left (List.sublist_cons_self _ _) _) s) fun g hg => hw g (List.mem_cons_of_mem _ hg)
      exact ⟨⟨⟨f, hfd, hw f (by simp)⟩, i1⟩, by simpa using i2, by simpa using i3⟩
    · have e1 : stepB l f.n (kp keep i) = putL (leftF f (kp keep i)) l := by
        unfold stepB
        rw [hfd]
        simp only [hst, if_true, leftF]
      rw [e1]
      have p2 : (putL (leftF f (kp keep i)) l).Perm (out ++ [leftF f (kp keep i)] ++ rest) := by
        refine (put_perm hnd).trans ?_
        have : (filF (leftF f (kp keep i)).n l).Perm (out ++ rest) := hfil
        refine (this.cons _).trans ?_
        rw [List.append_assoc]
        exact List.perm_middle.symm
      obtain ⟨i1, i2, i3⟩ := boot_inv rest (i + 1) _ (out ++ [leftF f (kp keep i)]) p2 (srt_names (x := out ++ f :: rest) (by simp [leftF]) s) fun g hg => hw g (List.mem_cons_of_mem _ hg)
      exact ⟨⟨⟨f, hfd, hw f (by simp)⟩, i1⟩, by simpa using i2, by simpa using i3⟩
/-- What is left is no more than there was. -/
theorem bootR_in {keep : List Int} : ∀ (x : List FX) (i : Nat), (∀ f, f ∈ x → okF f) → totF (bootR keep x i) ≤ totF x ∧ (bootR keep x i).length ≤ x.length ∧
    ∀ g, g ∈ bootR keep x i → (∃ f, f ∈ x ∧ g.n = f.n) ∧ (0 ≤ g.sf ∧ g.sf ≤ g.b.size) ∧ g.sf = g.b.size ∧ g.sy = true
  | [], _, _ => ⟨Nat.le_refl _, Nat.le_refl _, fun g hg => by cases hg⟩
  | f :: r, i, h => by
    obtain ⟨i1, i2, i3⟩ := bootR_in (keep := keep) r (i + 1) fun g hg => h g (List.mem_cons_of_mem _ hg)
    rw [bootR_cons]
    obtain ⟨n1, n2, n3⟩ := leftN_in (h f (by simp)) (kp keep i)
    obtain ⟨e1, e2, e3⟩ := ext_le f.b (leftN f (kp keep i)).toNat
    split
    · refine ⟨by rw [tot_app, tot_one', tot_cons]; have : (leftF f (kp keep i)).b.size ≤ f.b.size := e1; omega, by simp; omega, fun g hg => ?_⟩
      rcases List.mem_append.1 hg with hg | hg
      · rw [List.mem_singleton.1 hg]
        have e4 := e3 (by omega)
        have q : ((f.b.extract 0 (leftN f (kp keep i)).toNat).size : Int) = leftN f (kp keep i) := by omega
        exact ⟨⟨f, by simp, rfl⟩, ⟨n1, by show leftN f (kp keep i) ≤ ((f.b.extract 0 (leftN f (kp keep i)).toNat).size : Int); omega⟩, q.symm, rfl⟩
      · obtain ⟨⟨f', a1, a2⟩, a3⟩ := i3 g hg
        exact ⟨⟨f', List.mem_cons_of_mem _ a1, a2⟩, a3⟩
    · refine ⟨by rw [List.nil_append, tot_cons]; omega, by simp; omega, fun g hg => ?_⟩
      obtain ⟨⟨f', a1, a2⟩, a3⟩ := i3 g (by simpa using hg)
      exact ⟨⟨f', List.mem_cons_of_mem _ a1, a2⟩, a3⟩
theorem inv_boot {cap : Int} {l x : List FX} (h : Inv cap l x) (hc : cap ≤ 4611686018427387904) (keep : List Int) :
    okB keep (sortN (l.map FX.n)) 0 l ∧ Inv cap (bootL keep (sortN (l.map FX.n)) 0 l) (bootR keep x 0) := by
  have hw : ∀ f, f ∈ x → okF f := fun f hf => h.okF hc hf
  rw [sort_names h]
  obtain ⟨b1, b2, b3⟩ := boot_inv (keep := keep) x 0 l [] h.p h.s hw
  obtain ⟨c1, c2, c3⟩ := bootR_in (keep := keep) x 0 hw
  refine ⟨b1, ⟨b2, b3, by have := h.t; omega, fun g hg => (c3 g hg).2.1, by have := h.c; omega, fun g hg => ?_⟩⟩
  obtain ⟨⟨f, a1, a2⟩, _⟩ := c3 g hg
  rw [a2]
  exact h.n f a1
/-- A file put. -/
theorem inv_put {cap : Int} {l x : List FX} (h : Inv cap l x) (f : FX) (hw : 0 ≤ f.sf ∧ f.sf ≤ f.b.size) (hn : f.n.size ≤ 100 ∧ labelGood f.n = true) (ht : (totF (filF f.n x) + f.b.size : Nat) ≤ cap) (hl : hasF f.n x = true ∨ x.length < 256) :
    Inv cap (putL f l) (withF x f) := by
  have hp := with_perm h.s f
  refine ⟨put_with h.p h.s f, srt_with h.s f, ?_, fun g hg => ?_, ?_, fun g hg => ?_⟩
  · rw [tot_perm hp, tot_cons]; omega
  · rcases List.mem_cons.1 (hp.mem_iff.1 hg) with rfl | hg
    · exact hw
    · exact h.w g (List.mem_filter.1 hg).1
  · rw [hp.length_eq, List.length_cons]
    have h1 : (filF f.n x).length ≤ x.length := List.length_filter_le _ _
    have := h.c
    rcases hl with hl | hl
    · have : (filF f.n x).length < x.length := by
        refine Nat.lt_of_le_of_ne h1 fun e => ?_
        obtain ⟨g, g1, g2⟩ := has_iff.1 hl
        have := (List.length_filter_eq_length_iff.1 e) g g1
        simp [g2] at this
      omega
    · omega
  · rcases List.mem_cons.1 (hp.mem_iff.1 hg) with rfl | hg
    · exact hn
    · exact h.n g (List.mem_filter.1 hg).1
theorem inv_del {cap : Int} {l x : List FX} (h : Inv cap l x) {n : ByteArray} (hh : hasF n x = true) : Inv cap (delL n l) (withoutF x n) := by
  have e := without_fil h.s hh
  refine ⟨del_without h.p h.s hh, by rw [e]; exact srt_fil h.s n, ?_, fun g hg => ?_, ?_, fun g hg => ?_⟩
  · rw [e]
    cases k : fndF n x with
    | none =>
      have := fnd_has (n := n) (x := x)
      rw [k, hh] at this; cases this
    | some f => have := tot_fil h.s.nod k; have := h.t; omega
  · rw [e] at hg; exact h.w g (List.mem_filter.1 hg).1
  · rw [e]; have h1 : (filF n x).length ≤ x.length := List.length_filter_le _ _; have := h.c; omega
  · rw [e] at hg; exact h.n g (List.mem_filter.1 hg).1
end Go.Proofs.YtaodpgpepmlfbaaDoor.Ev
set_option linter.unusedVariables false
set_option linter.unusedSimpArgs false
namespace Go.Proofs.YtaodpgpepmlfbaaDoor.Ev
def doS (cap : Int) (x : List FX) (down : Bool) (a : ActT) : List FX × Bool × Int :=
  if a.k = 6 then (if down = true then (bootR a.kp.list x 0, false, 0) else (x, down, 9))
  else if a.k = 5 then (x, true, 0)
  else if down = true then (x, down, 12)
  else if a.k ≤ 1 then (if labelGood a.nm = false then (x, down, 10) else match fndF a.nm x with
    | none => if 256 ≤ (x.length : Int) then (x, down, 8) else if cap - totF x < a.b.list.length then (x, down, 13) else (withF x ⟨a.nm, BAl a.b.list, 0, false⟩, down, 0)
    | some f => if cap - totF x < a.b.list.length then (x, down, 13) else (withF x ⟨a.nm, f.b ++ BAl a.b.list, f.sf, f.sy⟩, down, 0))
  else match fndF a.nm x with
    | none => (x, down, 7)
    | some f => if a.k = 2 then (withF x ⟨a.nm, f.b, f.b.size, true⟩, down, 0)
      else if a.k = 3 then (if a.n < 0 ∨ (f.b.size : Int) < a.n then (x, down, 1) else (withF x ⟨a.nm, f.b.extract 0 a.n.toNat, if a.n < f.sf then a.n else f.sf, f.sy⟩, down, 0))
      else (withoutF x a.nm, down, 0)
/-- Does the power go at it? -/
def buS (k want fuse : Int) : Bool := decide (k ≤ 4) && decide (want = 0) && decide (fuse = 1)
/-- The deeds that are left. -/
def fuS (k want fuse : Int) : Int := if k = 5 then 0 else if k ≤ 4 ∧ want = 0 ∧ 0 < fuse then fuse - 1 else fuse
theorem buS_no {k want fuse : Int} (h : want ≠ 0) : buS k want fuse = false := by simp [buS, h]
theorem fuS_no {k want fuse : Int} (h : want ≠ 0) (h5 : k ≠ 5) : fuS k want fuse = fuse := by simp [fuS, h, h5]
theorem buS_yes {k fuse : Int} (h : k ≤ 4) : buS k 0 fuse = burnt fuse := by
  unfold buS burnt
  by_cases c : fuse = 0 <;> by_cases d : fuse = 1 <;> simp [h, c, d] <;> omega
theorem fuS_yes {k fuse : Int} (h : k ≤ 4) (hf : 0 ≤ fuse) : fuS k 0 fuse = fuseD fuse := by
  unfold fuS fuseD
  rw [if_neg (by omega)]
  by_cases c : fuse = 0
  · rw [if_pos c, if_neg (by omega), c]
  · rw [if_neg c, if_pos ⟨h, rfl, by omega⟩]
theorem downD_no (fuse : Int) : downD fuse false = (false || burnt fuse) := by
  unfold downD burnt
  by_cases c : fuse = 0 <;> simp [c]
/-- What is done, by the document, where it can be done. -/
def RunSays (cap fuse : Int) (l x : List FX) (down : Bool) (a : ActT) : Prop :=
  ∃ l', runS cap l down fuse a = (if buS a.k (doS cap x down a).2.2 fuse = true then 12 else (doS cap x down a).2.2, fuS a.k (doS cap x down a).2.2 fuse, ((doS cap x down a).2.1 || buS a.k (doS cap x down a).2.2 fuse), l') ∧
    Inv cap l' (if (!buS a.k (doS cap x down a).2.2 fuse || decide (a.k ≤ 1)) = true then (doS cap x down a).1 else x)
theorem says_no {cap fuse : Int} {l x : List FX} {down : Bool} {a : ActT} (h : Inv cap l x) {want : Int} (hw : want ≠ 0) (h5 : a.k ≠ 5) (h1 : doS cap x down a = (x, down, want)) (h2 : runS cap l down fuse a = (want, fuse, down, l)) : RunSays cap fuse l x down a := by
  refine ⟨l, ?_, ?_⟩
  · rw [h1, h2]
    simp only [buS_no hw, fuS_no hw h5, Bool.false_eq_true, if_false, Bool.or_false]
  · rw [h1]
    simp only [buS_no hw, Bool.not_false, Bool.true_or, if_true]
    exact h
theorem says_yes {cap fuse : Int} {l l' x y : List FX} {a : ActT} (hf : 0 ≤ fuse) (hk : a.k ≤ 4) (h : Inv cap l x) (h1 : doS cap x false a = (y, false, 0)) (h2 : runS cap l false fuse a = (if burnt fuse = true then 12 else 0, fuseD fuse, downD fuse false, if (!burnt fuse || decide (a.k ≤ 1)) = true then l' else l)) (hy : Inv cap l' y) :
    RunSays cap fuse l x false a := by
  refine ⟨if (!burnt fuse || decide (a.k ≤ 1)) = true then l' else l, ?_, ?_⟩
  · rw [h1, h2]
    simp only [buS_yes hk, fuS_yes hk hf, downD_no]
  · rw [h1]
    simp only [buS_yes hk]
    split
    · exact hy
    · exact h
theorem run_do {cap fuse : Int} {l x : List FX} {down : Bool} {a : ActT} (h : Inv cap l x) (hc : 0 ≤ cap ∧ cap ≤ 4611686018427387904) (hf : 0 ≤ fuse) (hn : a.nm.size ≤ 100) (hk : 0 ≤ a.k ∧ a.k ≤ 6) : RunSays cap fuse l x down a := by
  have hfd : fndF a.nm l = fndF a.nm x := fnd_perm h.p (nod_perm h.p.symm h.s.nod)
  have htl : totF l = totF x := tot_perm h.p
  have hll : l.length = x.length := h.p.length_eq
  have hgood : ∀ f, fndF a.nm x = some f → f ∈ x ∧ f.n = a.nm ∧ labelGood a.nm = true ∧ hasF a.nm x = true := fun f e => by
    obtain ⟨e1, e2⟩ := fnd_mem e
    exact ⟨e1, e2, by rw [← e2]; exact (h.n f e1).2, has_iff.2 ⟨f, e1, e2⟩⟩
  have hno : fndF a.nm x = none → hasF a.nm x = false := fun e => by
    have := fnd_has (n := a.nm) (x := x)
    rw [e] at this
    exact this.symm
  by_cases k6 : a.k = 6
  · have r6 : runS cap l down fuse a = bootS l down fuse a.kp.list := by
      unfold runS
      rw [if_neg (by omega), if_neg (by omega), if_neg (by omega), if_neg (by omega), if_neg (by omega), if_pos k6]
    cases down with
    | false => exact says_no h (want := 9) (by decide) (by omega) (by unfold doS; rw [if_pos k6]; rfl) (by rw [r6]; rfl)
    | true =>
      have hd : doS cap x true a = (bootR a.kp.list x 0, false, 0) := by unfold doS; rw [if_pos k6]; rfl
      have hb : buS a.k 0 fuse = false := by unfold buS; simp; omega
      refine ⟨bootL a.kp.list (sortN (l.map FX.n)) 0 l, ?_, ?_⟩
      · rw [hd, r6]
        simp only [hb, Bool.false_eq_true, if_false, Bool.or_false, bootS, if_true, fuS]
        rw [if_neg (by omega), if_neg (by omega)]
      · rw [hd]
        simp only [hb, Bool.not_false, Bool.true_or, if_true]
        exact (inv_boot h hc.2 a.kp.list).2
  · by_cases k5 : a.k = 5
    · have r5 : runS cap l down fuse a = crashS l := by
        unfold runS
        rw [if_neg (by omega), if_neg (by omega), if_neg (by omega), if_neg (by omega), if_pos k5]
      have hd : doS cap x down a = (x, true, 0) := by unfold doS; rw [if_neg k6, if_pos k5]
      have hb : buS a.k 0 fuse = false := by unfold buS; simp; omega
      refine ⟨l, ?_, ?_⟩
      · rw [hd, r5]
        simp only [hb, Bool.false_eq_true, if_false, Bool.or_false, crashS, fuS]
        rw [if_pos k5]
      · rw [hd]
        simp only [hb, Bool.not_false, Bool.true_or, if_true]
        exact h
    · by_cases k1 : a.k ≤ 1
      · have r1 : runS cap l down fuse a = appS cap l down fuse a.nm a.b.list := by
          unfold runS
          rw [if_pos (by omega)]
        have hdd : decide (a.k ≤ 1) = true := decide_eq_true k1
        cases down with
        | true => exact says_no h (want := 12) (by decide) k5 (by unfold doS; rw [if_neg k6, if_neg k5]; rfl) (by rw [r1]; rfl)
        | false =>
          have hd : doS cap x false a = ((if labelGood a.nm = false then (x, false, 10) else match fndF a.nm x with
              | none => if 256 ≤ (x.length : Int) then (x, false, 8) else if cap - totF x < a.b.list.length then (x, false, 13) else (withF x ⟨a.nm, BAl a.b.list, 0, false⟩, false, 0)
              | some f => if cap - totF x < a.b.list.length then (x, false, 13) else (withF x ⟨a.nm, f.b ++ BAl a.b.list, f.sf, f.sy⟩, false, 0)) : List FX × Bool × Int) := by
            unfold doS
            rw [if_neg k6, if_neg k5, if_neg (show ¬ (false = true) by decide), if_pos k1]
          have hr : runS cap l false fuse a = ((if labelGood a.nm = false then (10, fuse, false, l) else match fndF a.nm x with
              | none => if l.length = 256 then (8, fuse, false, l) else if cap - totF x < a.b.list.length then (13, fuse, false, l) else (if burnt fuse = true then 12 else 0, fuseD fuse, downD fuse false, putL ⟨a.nm, BAl a.b.list, 0, false⟩ l)
              | some f => if cap - totF x < a.b.list.length then (13, fuse, false, l) else (if burnt fuse = true then 12 else 0, fuseD fuse, downD fuse false, putL ⟨a.nm, f.b ++ BAl a.b.list, f.sf, f.sy⟩ l)) : Int × Int × Bool × List FX) := by
            rw [r1]
            unfold appS
            rw [if_neg (show ¬ (false = true) by decide), hfd, htl]
            cases fndF a.nm x <;> rfl
          cases hg : labelGood a.nm with
          | false =>
            rw [hg] at hd hr
            exact says_no h (want := 10) (by decide) k5 hd hr
          | true =>
            rw [hg, if_neg (show ¬ (true = false) by decide)] at hd hr
            cases hfx : fndF a.nm x with
            | none =>
              rw [hfx] at hd hr
              simp only at hd hr
              by_cases c1 : x.length = 256
              · rw [if_pos (by omega)] at hd hr
                exact says_no h (want := 8) (by decide) k5 hd hr
              · rw [if_neg (by have := h.c; omega)] at hd
                rw [if_neg (by omega)] at hr
                by_cases c2 : cap - totF x < a.b.list.length
                · rw [if_pos c2] at hd hr
                  exact says_no h (want := 13) (by decide) k5 hd hr
                · rw [if_neg c2] at hd hr
                  refine says_yes hf (by omega) h hd (by rw [hr, hdd, Bool.or_true]; rfl) ?_
                  have hs := BAl_size a.b.list
                  have e0 := tot_no (hno hfx)
                  refine inv_put h _ ⟨by show (0 : Int) ≤ 0; omega, by show (0 : Int) ≤ ((BAl a.b.list).size : Nat); omega⟩ ⟨hn, hg⟩ ?_ (.inr (by have := h.c; omega))
                  show ((totF (filF a.nm x) + (BAl a.b.list).size : Nat) : Int) ≤ cap
                  rw [e0]; omega
            | some f =>
              rw [hfx] at hd hr
              simp only at hd hr
              by_cases c2 : cap - totF x < a.b.list.length
              · rw [if_pos c2] at hd hr
                exact says_no h (want := 13) (by decide) k5 hd hr
              · rw [if_neg c2] at hd hr
                refine says_yes hf (by omega) h hd (by rw [hr, hdd, Bool.or_true]; rfl) ?_
                obtain ⟨g1, g2, g3, g4⟩ := hgood f hfx
                have hs := BAl_size a.b.list
                have hw := h.w f g1
                have ht := tot_fil h.s.nod hfx
                have hsz : (f.b ++ BAl a.b.list).size = f.b.size + a.b.list.length := by rw [ByteArray.size_append, hs]
                refine inv_put h _ ⟨hw.1, by show f.sf ≤ ((f.b ++ BAl a.b.list).size : Int); omega⟩ ⟨hn, hg⟩ ?_ (.inl g4)
                show ((totF (filF a.nm x) + (f.b ++ BAl a.b.list).size : Nat) : Int) ≤ cap
                omega
      · -- a file that must be there
        have hdd : decide (a.k ≤ 1) = false := decide_eq_false k1
        have hdg : doS cap x down a = (if down = true then (x, down, 12) else match fndF a.nm x with
            | none => (x, down, 7)
            | some f => if a.k = 2 then (withF x ⟨a.nm, f.b, f.b.size, true⟩, down, 0)
              else if a.k = 3 then (if a.n < 0 ∨ (f.b.size : Int) < a.n then (x, down, 1) else (withF x ⟨a.nm, f.b.extract 0 a.n.toNat, if a.n < f.sf then a.n else f.sf, f.sy⟩, down, 0))
              else (withoutF x a.nm, down, 0) : List FX × Bool × Int) := by
          unfold doS
          rw [if_neg k6, if_neg k5, if_neg k1]
        have hr0 : (down = true → runS cap l down fuse a = (12, fuse, down, l)) ∧ (down = false → fndF a.nm x = none → runS cap l down fuse a = (7, fuse, down, l)) := by
          constructor
          · intro e
            subst e
            unfold runS
            rw [if_neg (by omega)]
            by_cases k2 : a.k = 2
            · rw [if_pos k2]; rfl
            · rw [if_neg k2]
              by_cases k3 : a.k = 3
              · rw [if_pos k3]; rfl
              · rw [if_neg k3, if_pos (by omega)]; rfl
          · intro e e2
            subst e
            unfold runS
            rw [if_neg (by omega)]
            by_cases k2 : a.k = 2
            · rw [if_pos k2]; unfold syncS; rw [if_neg (show ¬ (false = true) by decide), hfd, e2]
            · rw [if_neg k2]
              by_cases k3 : a.k = 3
              · rw [if_pos k3]; unfold truncS; rw [if_neg (show ¬ (false = true) by decide), hfd, e2]
              · rw [if_neg k3, if_pos (by omega)]; unfold removeS; rw [if_neg (show ¬ (false = true) by decide), hfd, e2]
        cases down with
        | true => exact says_no h (want := 12) (by decide) k5 (by rw [hdg]; rfl) (hr0.1 rfl)
        | false =>
          rw [if_neg (show ¬ (false = true) by decide)] at hdg
          cases hfx : fndF a.nm x with
          | none =>
            rw [hfx] at hdg
            exact says_no h (want := 7) (by decide) k5 hdg (hr0.2 rfl hfx)
          | some f =>
            rw [hfx] at hdg
            simp only at hdg
            obtain ⟨g1, g2, g3, g4⟩ := hgood f hfx
            have hw := h.w f g1
            have ht := tot_fil h.s.nod hfx
            have htx := h.t
            have hbu : ∀ l' : List FX, ((if burnt fuse = true then (12, fuseD fuse, downD fuse false, l) else (0, fuseD fuse, downD fuse false, l')) : Int × Int × Bool × List FX) = (if burnt fuse = true then (12 : Int) else 0, fuseD fuse, downD fuse false, if (!burnt fuse || decide (a.k ≤ 1)) = true then l' else l) := fun l' => by
              rw [hdd]
              cases burnt fuse <;> rfl
            by_cases k2 : a.k = 2
            · rw [if_pos k2] at hdg
              refine says_yes hf (by omega) h hdg (l' := putL ⟨a.nm, f.b, f.b.size, true⟩ l) ?_ ?_
              · rw [← hbu]
                unfold runS
                rw [if_neg (by omega), if_pos k2]
                unfold syncS
                rw [if_neg (show ¬ (false = true) by decide), hfd, hfx]
              · refine inv_put h _ ⟨by show (0 : Int) ≤ (f.b.size : Nat); omega, Int.le_refl _⟩ ⟨hn, g3⟩ ?_ (.inl g4)
                show ((totF (filF a.nm x) + f.b.size : Nat) : Int) ≤ cap
                omega
            · rw [if_neg k2] at hdg
              by_cases k3 : a.k = 3
              · rw [if_pos k3] at hdg
                have hr : runS cap l false fuse a = (if a.n < 0 ∨ (f.b.size : Int) < a.n then (1, fuse, false, l) else if burnt fuse = true then (12, fuseD fuse, downD fuse false, l) else (0, fuseD fuse, downD fuse false, putL ⟨a.nm, f.b.extract 0 a.n.toNat, if a.n < f.sf then a.n else f.sf, f.sy⟩ l) : Int × Int × Bool × List FX) := by
                  unfold runS
                  rw [if_neg (by omega), if_neg k2, if_pos k3]
                  unfold truncS
                  rw [if_neg (show ¬ (false = true) by decide), hfd, hfx]
                by_cases c : a.n < 0 ∨ (f.b.size : Int) < a.n
                · rw [if_pos c] at hdg hr
                  exact says_no h (want := 1) (by decide) k5 hdg hr
                · rw [if_neg c] at hdg hr
                  refine says_yes hf (by omega) h hdg (by rw [hr]; exact hbu _) ?_
                  obtain ⟨e1, e2, e3⟩ := ext_le f.b a.n.toNat
                  have e4 := e3 (by omega)
                  refine inv_put h _ ⟨by show (0 : Int) ≤ if a.n < f.sf then a.n else f.sf; split <;> omega, by show (if a.n < f.sf then a.n else f.sf) ≤ ((f.b.extract 0 a.n.toNat).size : Int); split <;> omega⟩ ⟨hn, g3⟩ ?_ (.inl g4)
                  show ((totF (filF a.nm x) + (f.b.extract 0 a.n.toNat).size : Nat) : Int) ≤ cap
                  omega
              · rw [if_neg k3] at hdg
                refine says_yes hf (by omega) h hdg (l' := delL a.nm l) ?_ (inv_del h g4)
                rw [← hbu]
                unfold runS
                rw [if_neg (by omega), if_neg k2, if_neg k3, if_pos (by omega)]
                unfold removeS
                rw [if_neg (show ¬ (false = true) by decide), hfd, hfx]
end Go.Proofs.YtaodpgpepmlfbaaDoor.Ev
