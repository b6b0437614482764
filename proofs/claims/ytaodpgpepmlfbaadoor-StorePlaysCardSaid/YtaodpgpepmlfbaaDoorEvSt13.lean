/-
  The law StoreAgain.
-/
import Derived.Test.YtaodpgpepmlfbaaDoorEvSt12
set_option linter.unusedVariables false
set_option linter.unusedSimpArgs false
namespace Go.Proofs.YtaodpgpepmlfbaaDoor.Ev
attribute [local congr] bind_congr_head
attribute [local go_sem] opd_t opd_c opd_g opd_f opds_nil opds_cons get_cons put_some put_none keep_nil keepC_s keepC_n keep_cons runs_nil runs_cons run_op run_opr run_call run_gand run_gor run_gif seqK_norm seqK_exit seqK_ret blkK_norm blkK_exit blkK_ret runL_skip runL_exit runL_ret runL_items runL_seq runL_cond runL_block runL_loop fin_bind finK_norm finK_ret rvs_nil rvs_cons rv_tmp rv_cell tupOf_one tupOf_nil tupOf_two ev_mov ev_pick ev_alloc ev_box ev_build parts_nil parts_cons fills_nil fills_cons ev_bsl ev_bslo ev_load ev_store ev_nilck ev_bin ev_binb ev_aeq ev_un ev_i2i ev_i2t ev_isnilI nilIF ev_s2b ev_ext ev_fld ev_idxs ev_fa ev_ias ev_len ev_lens ev_s2s ev_mkf ev_rng ev_nxt ev_app bOf_s pvOf_s agOf_s tpOf_s iOf_s sOf_s ite_bind Option.bind_some Option.bind_none if_true if_false ite_true ite_false argEnv_nil argEnv_cons len_av elems_av ias_av cells_av tuple_av AV.tuple AV.cells faF ldAt liveRef aggOf nilckF binV binI binS binB unV Bool.not_true Bool.not_false List.length_nil List.length_cons List.nil_append List.cons_append List.append_nil List.getElem?_cons_zero List.getElem?_cons_succ List.drop_zero List.drop_succ_cons List.drop_nil List.take_zero List.take_succ_cons List.take_nil List.set_cons_zero List.set_cons_succ compact_same compact_new closedB nodupB envIds ids0 upto visit pos sel AV.ids idss idsss Ob.ids AV.ren rens renss Ob.ren renEnv AV.snap snaps stAt okSt putCells List.all_nil List.all_cons List.contains_nil List.contains_cons Bool.and_true Bool.true_and Bool.and_false Bool.false_and Bool.or_true Bool.true_or Bool.or_false Bool.false_or decide_eq_true_eq decide_true decide_false beq_iff_eq bne_iff_ne beq_self_eq_true Bool.not_eq_true' Bool.false_eq_true eq_self and_self and_true true_and and_false false_and or_true true_or or_false false_or not_true_eq_false not_false_eq_true ne_eq Nat.zero_add Nat.add_zero Nat.le_refl Nat.not_lt_zero Nat.lt_irrefl Nat.zero_le Int.toNat_natCast gt_iff_lt ge_iff_le Int.lt_irrefl Int.natCast_nonneg txt_eq get_nil appF elems belows AV.under AV.flat flats List.length_map List.map_append List.map_cons List.map_nil List.length_append take_map_all List.flatten_cons List.flatten_nil bld_nil imp_false false_imp_iff false_implies true_implies implies_true decide_eq_false_iff_not Nat.one_mul Nat.mul_one idsss_app renss_app belowss_app ev_mn ev_mx ev_isnils ev_sls ev_slx evo_none evo_some vals minV maxV minF maxF backId List.getElem?_nil putAll Option.all_none Option.all_some Option.isSome_some intOf aszI compactV_same compactV_new callP_any callQ_eq callN_any boxQ AV.id? ids_avR ren_av under_av snap_av renss_mapf belowss_mapf idsss_mapf isnilsF List.length_eq_zero_iff int_beq int_bne decide_not slx_av Int.toNat_zero ev_mkm ev_lk ev_mup ev_mdl ev_lenm ev_isnilm mpOf_s mapAt_s mapOf_nil mapOf_mp isnilm_nil isnilm_mp lkR Option.getD_some Option.getD_none Option.isSome_none Prim.rdo ev_snp snp_own snp_v
variable {E : Prog}
theorem again_run (hE : Std E fns) (hv : VOK E) (hS : SOK E) {L : Env × Store → Option (Sig × Env × Store)} (acts : Sl ActT) (keep more : Sl Int) (n : Int) (hn : 0 ≤ n ∧ n ≤ 100000) (hal : acts.list.length ≤ 40) (hok : ∀ a, a ∈ acts.list → okA a = true)
    (hL : ∀ e st, L (e, st) = (IR.runL E.glob (callL E) [] ir_usufructlaw05_StoreAgain_L2 e st).bind (seqK fun e st => L (compact [] 2 [0, 1, 2, 7, 8] e st))) :
    ∀ (rest : List ActT) (i : Nat) (l x : List FX) (down : Bool), acts.list.drop i = rest → i ≤ acts.list.length → Inv n l x →
    ∃ down' l' x', L ([(0, acv acts), (1, keep.av 1 inC), (2, more.av 1 inC), (7, .ref 0 0 0 0), (8, vi i)], sto n 0 down l) = some (.exit 0, [(1, keep.av 1 inC), (2, more.av 1 inC), (7, .ref 0 0 0 0)], sto n 0 down' l') ∧ Inv n l' x'
  | [], i, l, x, down, h, hi, hI => by
    have h1 := drop_nil' h hi
    refine ⟨down, l, x, ?_, hI⟩
    rw [hL]
    simp -implicitDefEqProofs only [go_sem, reduceIte, reduceCtorEq, Nat.reduceEqDiff, Nat.reduceAdd, Nat.reduceSub, Nat.reduceLT, Nat.reduceLeDiff, Nat.reduceBEq, Nat.reduceMul, Nat.reduceBNe, Int.reduceEq, Int.reduceLT, Int.reduceLE, Int.reduceNe, Int.reduceToNat, ir_usufructlaw05_StoreAgain_L2, h1, ro_act, ro_in, sto, mapF_ids, mapF_ren]
  | a :: rest, i, l, x, down, h, hi, hI => by
    obtain ⟨h1, h2, h3, h4, h5⟩ := drop_cons h
    have h6 := wrap_succ (i := i) (by omega)
    have ha := hok a (List.mem_of_getElem? h1)
    have hc : 0 ≤ n ∧ n ≤ 4611686018427387904 := ⟨hn.1, by omega⟩
    obtain ⟨e, down2, l2, x2, r1, r2, r3, r4⟩ := run_plain (down := down) hI hc ha
    have hr := fn_run hE hv hS n 0 down l a (run_ok hI hc ha ⟨by omega, by omega⟩)
    rw [r1] at hr
    obtain ⟨d', l', x', ih, hI'⟩ := again_run hE hv hS acts keep more n hn hal hok hL rest (i + 1) l2 x2 down2 h2 h4 r2
    refine ⟨d', l', x', ?_, hI'⟩
    simp only [sto, ActT.cells] at hr ih ⊢
    rw [hL]
    simp -implicitDefEqProofs only [go_sem, reduceIte, reduceCtorEq, Nat.reduceEqDiff, Nat.reduceAdd, Nat.reduceSub, Nat.reduceLT, Nat.reduceLeDiff, Nat.reduceBEq, Nat.reduceMul, Nat.reduceBNe, Int.reduceEq, Int.reduceLT, Int.reduceLE, Int.reduceNe, Int.reduceToNat, ir_usufructlaw05_StoreAgain_L2, ActT.cells, h1, h3, h6, hr, ro_act, ro_by, ro_in, mapF_ids, mapF_ren, ih]
theorem nm_get {x : List FX} {i : Nat} {f : FX} (h : x[i]? = some f) : (slOf (x.map FX.n)).list[i]? = some f.n := by rw [slOf_list, List.getElem?_map, h]; rfl
theorem nm_len (x : List FX) : (slOf (x.map FX.n)).list.length = x.length := by rw [slOf_list, List.length_map]
theorem was_loop (hE : Std E fns) {L : Env × Store → Option (Sig × Env × Store)} (more : Sl Int) (n : Int) (l x : List FX) (hI : Inv n l x)
    (hL : ∀ e st, L (e, st) = (IR.runL E.glob (callL E) [] ir_usufructlaw05_StoreAgain_L1 e st).bind (seqK fun e st => L (compact [] 2 [2, 7, 9, 10, 11] e st))) :
    ∀ (rest : List FX) (i : Nat) (out : List ByteArray) (g : Nat), x.drop i = rest → i ≤ x.length → out = (x.take i).map FX.b →
    ∃ g' : Nat, L ([(2, more.av 1 inC), (7, .ref 0 0 0 0), (9, (slOf (x.map FX.n)).av 1 nmC), (10, (bld 1 nmC g (sto n 0 false l) out).1), (11, vi i)], (bld 1 nmC g (sto n 0 false l) out).2) =
      some (.exit 2, [(2, more.av 1 inC), (7, .ref 0 0 0 0), (9, (slOf (x.map FX.n)).av 1 nmC), (10, (bld 1 nmC g' (sto n 0 false l) (x.map FX.b)).1)], (bld 1 nmC g' (sto n 0 false l) (x.map FX.b)).2)
  | [], i, out, g, h, hi, ho => by
    have h1 := drop_nil' h hi
    refine ⟨g, ?_⟩
    have ho2 : out = x.map FX.b := by rw [ho, List.take_of_length_le (by omega)]
    rw [hL, ho2]
    by_cases hne : x.map FX.b = []
    · rw [hne]
      simp only [bld_nil, sto]
      simp -implicitDefEqProofs only [go_sem, reduceIte, reduceCtorEq, Nat.reduceEqDiff, Nat.reduceAdd, Nat.reduceSub, Nat.reduceLT, Nat.reduceLeDiff, Nat.reduceBEq, Nat.reduceMul, Nat.reduceBNe, Int.reduceEq, Int.reduceLT, Int.reduceLE, Int.reduceNe, Int.reduceToNat, ir_usufructlaw05_StoreAgain_L1, h1, nm_len, ro_in, ro_nm, mapF_ids, mapF_ren]
    · simp only [bld_ne hne, sto, List.length_cons, List.length_nil, List.cons_append, List.nil_append]
      simp -implicitDefEqProofs only [go_sem, reduceIte, reduceCtorEq, Nat.reduceEqDiff, Nat.reduceAdd, Nat.reduceSub, Nat.reduceLT, Nat.reduceLeDiff, Nat.reduceBEq, Nat.reduceMul, Nat.reduceBNe, Int.reduceEq, Int.reduceLT, Int.reduceLE, Int.reduceNe, Int.reduceToNat, ir_usufructlaw05_StoreAgain_L1, h1, nm_len, ro_in, ro_nm, mapF_ids, mapF_ren]
  | f :: rest, i, out, g, h, hi, ho => by
    obtain ⟨h1, h2, h3, h4, h5⟩ := drop_cons h
    have h6 := wrap_succ (i := i) (by have := hI.c; omega)
    have hlen : out.length = i := by rw [ho, List.length_map, List.length_take]; omega
    have hxc := hI.c
    have hb : (out.length + 1) * 16 ≤ 140737488355328 := by omega
    have hfd : fndF f.n l = some f := fnd_of (nod_perm hI.p.symm hI.s.nod) (hI.p.mem_iff.2 (List.mem_of_getElem? h1)) rfl
    have hr := fn_read hE n 0 false l f.n
    rw [hfd] at hr
    have hn1 := nm_get h1
    have hto : out ++ [f.b] = (x.take (i + 1)).map FX.b := by rw [ho, List.take_add_one, h1]; simp
    have kb : b2sF (sto n 0 false l) ((Sl.mk f.b.data.toList).av 1 byC) = some f.b := b2s_by _ _
    simp only [sto, Bool.false_eq_true, if_false] at hr
    by_cases hne : out = []
    · obtain ⟨g', ih⟩ := was_loop hE more n l x hI hL rest (i + 1) [f.b] 0 h2 h4 (by rw [← hto, hne]; rfl)
      refine ⟨g', ?_⟩
      rw [hne, hL, ← ih]
      simp only [bld_nil, bld_ne (List.cons_ne_nil f.b []), sto, List.length_cons, List.length_nil, List.cons_append, List.nil_append]
      simp -implicitDefEqProofs only [go_sem, reduceIte, reduceCtorEq, Nat.reduceEqDiff, Nat.reduceAdd, Nat.reduceSub, Nat.reduceLT, Nat.reduceLeDiff, Nat.reduceBEq, Nat.reduceMul, Nat.reduceBNe, Int.reduceEq, Int.reduceLT, Int.reduceLE, Int.reduceNe, Int.reduceToNat, ir_usufructlaw05_StoreAgain_L1, h3, h6, hn1, nm_len, nmC, hr, ev_b2s, b2s_by, BAl_data, show ∀ xs : List UInt8, (Sl.mk xs).list = xs from fun _ => rfl, ro_in, ro_nm, ro_by, mapF_ids, mapF_ren]
    · obtain ⟨g', ih⟩ := was_loop hE more n l x hI hL rest (i + 1) (out ++ [f.b]) (g + 1) h2 h4 hto
      refine ⟨g', ?_⟩
      rw [hL, ← ih]
      simp only [bld_ne hne, bld_ne (ne_app _ _), sto, List.length_cons, List.length_nil, List.cons_append, List.nil_append]
      simp -implicitDefEqProofs only [go_sem, reduceIte, reduceCtorEq, Nat.reduceEqDiff, Nat.reduceAdd, Nat.reduceSub, Nat.reduceLT, Nat.reduceLeDiff, Nat.reduceBEq, Nat.reduceMul, Nat.reduceBNe, Int.reduceEq, Int.reduceLT, Int.reduceLE, Int.reduceNe, Int.reduceToNat, ir_usufructlaw05_StoreAgain_L1, h3, h6, hn1, nm_len, nmC, hr, hb, ev_b2s, b2s_by, BAl_data, show ∀ xs : List UInt8, (Sl.mk xs).list = xs from fun _ => rfl, ro_in, ro_nm, ro_by, mapF_ids, mapF_ren]
theorem ias_own (st : Store) (k : Nat) (j : Int) (id gen off ln : Nat) : iasF st k j (.own id gen off ln) = if 0 ≤ j then (match st[id]? with
      | some (.row k' g xs _) => if k' = k ∧ g = gen ∧ j.toNat < ln then some (.ref id gen (off + j.toNat) 0) else none
      | _ => none) else none := rfl
theorem same_loop (hE : Std E fns) {L : Env × Store → Option (Sig × Env × Store)} (n : Int) (g : Nat) (l x : List FX) (hI : Inv n l x) (hx : x ≠ [])
    (hL : ∀ e st, L (e, st) = (IR.runL E.glob (callL E) [] ir_usufructlaw05_StoreAgain_L0 e st).bind (seqK fun e st => L (compact [] 3 [7, 9, 10, 14] e st))) :
    ∀ (rest : List FX) (i : Nat), x.drop i = rest → i ≤ x.length →
    L ([(7, .ref 0 0 0 0), (9, (slOf (x.map FX.n)).av 1 nmC), (10, .own 2 g 0 x.length), (14, vi i)], sto n 0 false l ++ [.row 1 g ((x.map FX.b).map nmC) false]) = some (.exit 4, [], sto n 0 false l ++ [.row 1 g ((x.map FX.b).map nmC) false])
  | [], i, h, hi => by
    have h1 := drop_nil' h hi
    rw [hL]
    simp only [sto, List.cons_append, List.nil_append]
    simp -implicitDefEqProofs only [go_sem, reduceIte, reduceCtorEq, Nat.reduceEqDiff, Nat.reduceAdd, Nat.reduceSub, Nat.reduceLT, Nat.reduceLeDiff, Nat.reduceBEq, Nat.reduceMul, Nat.reduceBNe, Int.reduceEq, Int.reduceLT, Int.reduceLE, Int.reduceNe, Int.reduceToNat, ir_usufructlaw05_StoreAgain_L0, h1, nm_len, ro_nm, mapF_ids, mapF_ren]
  | f :: rest, i, h, hi => by
    obtain ⟨h1, h2, h3, h4, h5⟩ := drop_cons h
    have h6 := wrap_succ (i := i) (by have := hI.c; omega)
    have hxc := hI.c
    have hfd : fndF f.n l = some f := fnd_of (nod_perm hI.p.symm hI.s.nod) (hI.p.mem_iff.2 (List.mem_of_getElem? h1)) rfl
    have hr := fn_read hE n 0 false l f.n
    rw [hfd] at hr
    have hn1 := nm_get h1
    have ih := same_loop hE n g l x hI hx hL rest (i + 1) h2 h4
    have hi3 : i < x.length := by omega
    have hw : ((x.map FX.b).map nmC)[i]? = some [vs f.b] := by simp only [List.getElem?_map, h1]; rfl
    simp only [sto, Bool.false_eq_true, if_false, List.cons_append, List.nil_append] at hr ih ⊢
    rw [hL]
    simp -implicitDefEqProofs only [go_sem, reduceIte, reduceCtorEq, Nat.reduceEqDiff, Nat.reduceAdd, Nat.reduceSub, Nat.reduceLT, Nat.reduceLeDiff, Nat.reduceBEq, Nat.reduceMul, Nat.reduceBNe, Int.reduceEq, Int.reduceLT, Int.reduceLE, Int.reduceNe, Int.reduceToNat, ir_usufructlaw05_StoreAgain_L0, h3, h6, hn1, nm_len, nmC, hr, hw, hi3, ias_own, ev_b2s, b2s_by, BAl_data, show ∀ xs : List UInt8, (Sl.mk xs).list = xs from fun _ => rfl, ro_nm, ro_by, mapF_ids, mapF_ren, ih]
/-- Behind a boot all is safe: once more, and nothing has turned. -/
theorem boot_again (more : List Int) : ∀ (x : List FX) (i : Nat), (∀ f, f ∈ x → f.sf = f.b.size ∧ f.sy = true) → bootR more x i = x
  | [], _, _ => rfl
  | f :: r, i, h => by
    obtain ⟨h1, h2⟩ := h f (by simp)
    have hN : leftN f (kp more i) = (f.b.size : Int) := by
      unfold leftN mx0
      rw [h1]
      split <;> split <;> omega
    have hst : stayF f (kp more i) = true := by unfold stayF; rw [h2]; rfl
    have he : f.b.extract 0 f.b.size = f.b := by
      exact ByteArray.ext (by rw [ByteArray.data_extract]; exact Array.extract_size)
    rw [bootR_cons, hst, if_pos rfl, boot_again more r (i + 1) fun g hg => h g (List.mem_cons_of_mem _ hg)]
    unfold leftF
    rw [hN, Int.toNat_natCast, he, ← h1]
    cases f
    simp only at h2
    subst h2
    rfl
set_option maxHeartbeats 1000000 in
theorem fn_StoreAgain (hE : Std E fns) (hv : VOK E) (hS : SOK E) (haw : callP E f_usufructlaw05_awake [] = some (vb true)) (acts : Sl ActT) (keep more : Sl Int) (hx : acts.list.length < 9223372036854775808) :
    callP E f_usufructlaw05_StoreAgain [acv acts, keep.av 1 inC, more.av 1 inC] = some (vb true) := by
  have hfw := fn_few hE acts hx
  cases hf : fewS acts.list with
  | false =>
    rw [hf] at hfw
    rw [hE.run rfl rfl]
    simp -implicitDefEqProofs only [go_sem, reduceIte, reduceCtorEq, Nat.reduceEqDiff, Nat.reduceAdd, Nat.reduceSub, Nat.reduceLT, Nat.reduceLeDiff, Nat.reduceBEq, Nat.reduceMul, Nat.reduceBNe, Int.reduceEq, Int.reduceLT, Int.reduceLE, Int.reduceNe, Int.reduceToNat, ir_usufructlaw05_StoreAgain, haw, hfw, ro_act, ro_in]
  | true =>
    rw [hf] at hfw
    simp only [fewS, Bool.and_eq_true, decide_eq_true_eq] at hf
    by_cases c1 : 60 < (keep.list.length : Int)
    · rw [hE.run rfl rfl]
      simp -implicitDefEqProofs only [go_sem, reduceIte, reduceCtorEq, Nat.reduceEqDiff, Nat.reduceAdd, Nat.reduceSub, Nat.reduceLT, Nat.reduceLeDiff, Nat.reduceBEq, Nat.reduceMul, Nat.reduceBNe, Int.reduceEq, Int.reduceLT, Int.reduceLE, Int.reduceNe, Int.reduceToNat, ir_usufructlaw05_StoreAgain, haw, hfw, ro_act, ro_in, c1]
    · by_cases c2 : 60 < (more.list.length : Int)
      · rw [hE.run rfl rfl]
        simp -implicitDefEqProofs only [go_sem, reduceIte, reduceCtorEq, Nat.reduceEqDiff, Nat.reduceAdd, Nat.reduceSub, Nat.reduceLT, Nat.reduceLeDiff, Nat.reduceBEq, Nat.reduceMul, Nat.reduceBNe, Int.reduceEq, Int.reduceLT, Int.reduceLE, Int.reduceNe, Int.reduceToNat, ir_usufructlaw05_StoreAgain, haw, hfw, ro_act, ro_in, c1, c2]
      · have hN := fn_new hE 10000
        rw [if_neg (by omega)] at hN
        have hcap : (0 : Int) ≤ 10000 ∧ (10000 : Int) ≤ 4611686018427387904 := ⟨by omega, by omega⟩
        obtain ⟨d1, l1, x1, h1, I1⟩ := again_run hE hv hS acts keep more 10000 ⟨by omega, by omega⟩ hf.1 (fun a ha => List.all_eq_true.1 hf.2 a ha) (loopL_eq (IR.runL E.glob (callL E) [] ir_usufructlaw05_StoreAgain_L2) (compact [] 2 [0, 1, 2, 7, 8])) acts.list 0 [] [] false rfl (Nat.zero_le _) (inv_nil _ (by omega))
        have h2 := fn_crash hE 10000 0 d1 l1
        obtain ⟨o1, I2⟩ := inv_boot I1 hcap.2 keep.list
        have len1 : l1.length ≤ 256 := by rw [I1.p.length_eq]; exact I1.c
        have h3 := fn_boot hE hS 10000 0 true l1 keep (by omega) (by omega) (fun f hf => by have := (I1.n f (I1.p.mem_iff.1 hf)).1; omega) o1
        rw [if_pos rfl] at h3
        generalize bootL keep.list (sortN (l1.map FX.n)) 0 l1 = l2 at h3 I2
        have hsafe : ∀ f, f ∈ bootR keep.list x1 0 → f.sf = f.b.size ∧ f.sy = true := fun f hf => ((bootR_in x1 0 fun f hf => I1.okF hcap.2 hf).2.2 f hf).2.2
        generalize bootR keep.list x1 0 = x2 at I2 hsafe
        have len2 : l2.length ≤ 256 := by rw [I2.p.length_eq]; exact I2.c
        have h4 := fn_Names hE hS 10000 0 false l2 (by omega) (fun f hf => by have := (I2.n f (I2.p.mem_iff.1 hf)).1; omega)
        rw [sort_names I2] at h4
        obtain ⟨g, h5⟩ := was_loop hE more 10000 l2 x2 I2 (loopL_eq (IR.runL E.glob (callL E) [] ir_usufructlaw05_StoreAgain_L1) (compact [] 2 [2, 7, 9, 10, 11])) x2 0 [] 0 rfl (Nat.zero_le _) rfl
        have h6 := fn_crash hE 10000 0 false l2
        obtain ⟨o2, I3⟩ := inv_boot I2 hcap.2 more.list
        have h7 := fn_boot hE hS 10000 0 true l2 more (by omega) (by omega) (fun f hf => by have := (I2.n f (I2.p.mem_iff.1 hf)).1; omega) o2
        rw [if_pos rfl] at h7
        rw [boot_again more.list x2 0 hsafe] at I3
        generalize bootL more.list (sortN (l2.map FX.n)) 0 l2 = l3 at h7 I3
        have len3 : l3.length ≤ 256 := by rw [I3.p.length_eq]; exact I3.c
        have h8 := fn_Names hE hS 10000 0 false l3 (by omega) (fun f hf => by have := (I3.n f (I3.p.mem_iff.1 hf)).1; omega)
        rw [sort_names I3] at h8
        simp only [sto, Int.natCast_zero, bld_nil, Bool.false_eq_true, if_false] at hN h1 h2 h3 h4 h5 h6 h7 h8
        by_cases hne : x2 = []
        · subst hne
          simp only [List.map_nil, bld_nil, slOf] at h4 h5 h8
          have h9 : loopL (IR.runL E.glob (callL E) [] ir_usufructlaw05_StoreAgain_L0) (compact [] 2 [7, 9, 10, 14]) ([(7, .ref 0 0 0 0), (9, (Sl.nil : Sl ByteArray).av 1 nmC), (10, .v (.slice none 0 0)), (14, vi 0)], [.box [vi 10000, .mp 1, vb false, vi 0], .map (mapF l3)]) = some (.exit 4, [], [.box [vi 10000, .mp 1, vb false, vi 0], .map (mapF l3)]) := by
            rw [loopL_eq]
            simp -implicitDefEqProofs only [go_sem, reduceIte, reduceCtorEq, Nat.reduceEqDiff, Nat.reduceAdd, Nat.reduceSub, Nat.reduceLT, Nat.reduceLeDiff, Nat.reduceBEq, Nat.reduceMul, Nat.reduceBNe, Int.reduceEq, Int.reduceLT, Int.reduceLE, Int.reduceNe, Int.reduceToNat, ir_usufructlaw05_StoreAgain_L0, Sl.list, ro_nm, mapF_ids, mapF_ren, Int.natCast_zero]
          rw [hE.run rfl rfl]
          simp -implicitDefEqProofs only [go_sem, reduceIte, reduceCtorEq, Nat.reduceEqDiff, Nat.reduceAdd, Nat.reduceSub, Nat.reduceLT, Nat.reduceLeDiff, Nat.reduceBEq, Nat.reduceMul, Nat.reduceBNe, Int.reduceEq, Int.reduceLT, Int.reduceLE, Int.reduceNe, Int.reduceToNat, ir_usufructlaw05_StoreAgain, haw, hfw, ro_act, ro_in, ro_nm, c1, c2, hN, h1, h2, h3, h4, h5, h6, h7, h8, h9, ev_isnil, isnilP_ref, isnilP_nil, mapF_ids, mapF_ren]
        · have hne2 : x2.map FX.b ≠ [] := fun e => hne (List.map_eq_nil_iff.1 e)
          have h9 := same_loop hE 10000 g l3 x2 I3 hne (loopL_eq (IR.runL E.glob (callL E) [] ir_usufructlaw05_StoreAgain_L0) (compact [] 3 [7, 9, 10, 14])) x2 0 rfl (Nat.zero_le _)
          simp only [sto, Int.natCast_zero, List.cons_append, List.nil_append] at h9
          simp only [bld_ne hne2, List.length_map, List.length_cons, List.length_nil, List.cons_append, List.nil_append] at h5
          rw [hE.run rfl rfl]
          simp -implicitDefEqProofs only [go_sem, reduceIte, reduceCtorEq, Nat.reduceEqDiff, Nat.reduceAdd, Nat.reduceSub, Nat.reduceLT, Nat.reduceLeDiff, Nat.reduceBEq, Nat.reduceMul, Nat.reduceBNe, Int.reduceEq, Int.reduceLT, Int.reduceLE, Int.reduceNe, Int.reduceToNat, ir_usufructlaw05_StoreAgain, haw, hfw, ro_act, ro_in, ro_nm, c1, c2, hN, h1, h2, h3, h4, h5, h6, h7, h8, h9, nm_len, ev_isnil, isnilP_ref, isnilP_nil, mapF_ids, mapF_ren]
end Go.Proofs.YtaodpgpepmlfbaaDoor.Ev
