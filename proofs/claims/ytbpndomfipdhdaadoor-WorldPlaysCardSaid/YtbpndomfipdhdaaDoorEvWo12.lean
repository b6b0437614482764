/-
  A world: the law WorldOnce.
-/
import Derived.Test.YtbpndomfipdhdaaDoorEvWo10
set_option linter.unusedVariables false
set_option linter.unusedSimpArgs false
namespace Go.Proofs.YtbpndomfipdhdaaDoor.Ev
attribute [local congr] bind_congr_head
attribute [local go_sem] opd_t opd_c opd_g opd_f opds_nil opds_cons get_cons put_some put_none keep_nil keepC_s keepC_n keep_cons runs_nil runs_cons run_op run_opr run_call run_gand run_gor run_gif seqK_norm seqK_exit seqK_ret blkK_norm blkK_exit blkK_ret runL_skip runL_exit runL_ret runL_items runL_seq runL_cond runL_block runL_loop fin_bind finK_norm finK_ret rvs_nil rvs_cons rv_tmp rv_cell tupOf_one tupOf_nil tupOf_two ev_mov ev_pick ev_alloc ev_box ev_build parts_nil parts_cons fills_nil fills_cons ev_bsl ev_bslo ev_load ev_store ev_nilck ev_bin ev_binb ev_aeq ev_un ev_i2i ev_i2t ev_isnilI nilIF ev_s2b ev_ext ev_fld ev_idxs ev_fa ev_ias ev_len ev_lens ev_s2s ev_mkf ev_rng ev_nxt ev_app bOf_s pvOf_s agOf_s tpOf_s iOf_s sOf_s ite_bind Option.bind_some Option.bind_none if_true if_false ite_true ite_false argEnv_nil argEnv_cons len_av elems_av ias_av cells_av tuple_av AV.tuple AV.cells faF ldAt liveRef aggOf nilckF binV binI binS binB unV Bool.not_true Bool.not_false List.length_nil List.length_cons List.nil_append List.cons_append List.append_nil List.getElem?_cons_zero List.getElem?_cons_succ List.drop_zero List.drop_succ_cons List.drop_nil List.take_zero List.take_succ_cons List.take_nil List.set_cons_zero List.set_cons_succ compact_same compact_new closedB nodupB envIds ids0 upto visit pos sel AV.ids idss idsss Ob.ids AV.ren rens renss Ob.ren renEnv AV.snap snaps stAt okSt putCells List.all_nil List.all_cons List.contains_nil List.contains_cons Bool.and_true Bool.true_and Bool.and_false Bool.false_and Bool.or_true Bool.true_or Bool.or_false Bool.false_or decide_eq_true_eq decide_true decide_false beq_iff_eq bne_iff_ne beq_self_eq_true Bool.not_eq_true' Bool.false_eq_true eq_self and_self and_true true_and and_false false_and or_true true_or or_false false_or not_true_eq_false not_false_eq_true ne_eq Nat.zero_add Nat.add_zero Nat.le_refl Nat.not_lt_zero Nat.lt_irrefl Nat.zero_le Int.toNat_natCast gt_iff_lt ge_iff_le Int.lt_irrefl Int.natCast_nonneg txt_eq get_nil appF elems belows AV.under AV.flat flats List.length_map List.map_append List.map_cons List.map_nil List.length_append take_map_all List.flatten_cons List.flatten_nil bld_nil imp_false false_imp_iff false_implies true_implies implies_true decide_eq_false_iff_not Nat.one_mul Nat.mul_one idsss_app renss_app belowss_app ev_mn ev_mx ev_isnils ev_sls ev_slx evo_none evo_some vals minV maxV minF maxF backId List.getElem?_nil putAll Option.all_none Option.all_some Option.isSome_some intOf aszI compactV_same compactV_new callP_any callQ_eq callN_any boxQ AV.id? ids_avR ren_av under_av snap_av renss_mapf belowss_mapf idsss_mapf isnilsF List.length_eq_zero_iff int_beq int_bne decide_not slx_av Int.toNat_zero ev_mkm ev_lk ev_mup ev_mdl ev_lenm ev_isnilm mpOf_s mapAt_s mapOf_nil mapOf_mp isnilm_nil isnilm_mp lkR Option.getD_some Option.getD_none Option.isSome_none Prim.rdo ev_snp snp_own snp_v exQ_nil exQ_cons exA_ref same_nil same_box same_row same_map sameL_nil sameL_cons sameA_int sameA_bool sameA_str sameA_slice sameA_map sameA_ptr sameA_own sameA_ref sameA_mp callB_eq
variable {E : Prog}
def Wd.ks : Wd → Sl ByteArray
  | .w3 _ _ _ _ _ k => .mk k
  | _ => .nil
def junk : Wd → Store
  | .w3 _ _ _ _ _ k => [.row 1 1 (k.map nmC) true]
  | _ => []
theorem once_pair {w w' : Wd} (hn : Nx w w') (F : Nat) (A : List AV) (r : AV) (hids : idss A = []) (hren : ∀ ρ, rens ρ A = A) (hr : ∀ ρ, r.ren ρ = r) (hc : callL E F (.ref 0 0 0 0 :: A) [] w.sto = some (r, w'.sto)) (x : Sl ActT) (i : Nat) (was : Sl ByteArray) :
    (callM (callL E) .N (.fn F []) (.ref 0 0 0 0 :: A) [] (w.sto ++ junk w)).bind (fun q => some ((.norm, compact [] (w.sto ++ junk w).length [0, 3, 4, 5] (onceE x i (was.av 1 nmC)) q.2) : Sig × Env × Store)) = some (.norm, onceE x i (was.av 1 nmC), w'.sto ++ junk w) := by
  cases w with
  | w0 =>
    rcases hn with rfl | ⟨g', c', rfl⟩
    · simp only [sto0, sto1, sto2, sto3, stom, rowC, rowR, rowK, List.cons_append, List.nil_append, List.append_nil, junk] at hc ⊢
      simp -implicitDefEqProofs only [go_sem, reduceIte, reduceCtorEq, Nat.reduceEqDiff, Nat.reduceAdd, Nat.reduceSub, Nat.reduceLT, Nat.reduceLeDiff, Nat.reduceBEq, Nat.reduceMul, Nat.reduceBNe, Int.reduceEq, Int.reduceLT, Int.reduceLE, Int.reduceNe, Int.reduceToNat, onceE, hids, hren, hr, hc, kmap_ids, kmap_ren, ro_cmd, ro_rep, ro_nm, ro_act]
    · simp only [sto0, sto1, sto2, sto3, stom, rowC, rowR, rowK, List.cons_append, List.nil_append, List.append_nil, junk] at hc ⊢
      simp -implicitDefEqProofs only [go_sem, reduceIte, reduceCtorEq, Nat.reduceEqDiff, Nat.reduceAdd, Nat.reduceSub, Nat.reduceLT, Nat.reduceLeDiff, Nat.reduceBEq, Nat.reduceMul, Nat.reduceBNe, Int.reduceEq, Int.reduceLT, Int.reduceLE, Int.reduceNe, Int.reduceToNat, onceE, hids, hren, hr, hc, kmap_ids, kmap_ren, ro_cmd, ro_rep, ro_nm, ro_act]
  | w1 gc c =>
    rcases hn with ⟨g', c', rfl⟩ | ⟨g', h', c', r', rfl⟩ | ⟨g', h', j', c', r', k', rfl⟩
    · simp only [sto0, sto1, sto2, sto3, stom, rowC, rowR, rowK, List.cons_append, List.nil_append, List.append_nil, junk] at hc ⊢
      simp -implicitDefEqProofs only [go_sem, reduceIte, reduceCtorEq, Nat.reduceEqDiff, Nat.reduceAdd, Nat.reduceSub, Nat.reduceLT, Nat.reduceLeDiff, Nat.reduceBEq, Nat.reduceMul, Nat.reduceBNe, Int.reduceEq, Int.reduceLT, Int.reduceLE, Int.reduceNe, Int.reduceToNat, onceE, hids, hren, hr, hc, kmap_ids, kmap_ren, ro_cmd, ro_rep, ro_nm, ro_act]
    · simp only [sto0, sto1, sto2, sto3, stom, rowC, rowR, rowK, List.cons_append, List.nil_append, List.append_nil, junk] at hc ⊢
      simp -implicitDefEqProofs only [go_sem, reduceIte, reduceCtorEq, Nat.reduceEqDiff, Nat.reduceAdd, Nat.reduceSub, Nat.reduceLT, Nat.reduceLeDiff, Nat.reduceBEq, Nat.reduceMul, Nat.reduceBNe, Int.reduceEq, Int.reduceLT, Int.reduceLE, Int.reduceNe, Int.reduceToNat, onceE, hids, hren, hr, hc, kmap_ids, kmap_ren, ro_cmd, ro_rep, ro_nm, ro_act]
    · simp only [sto0, sto1, sto2, sto3, stom, rowC, rowR, rowK, List.cons_append, List.nil_append, List.append_nil, junk] at hc ⊢
      simp -implicitDefEqProofs only [go_sem, reduceIte, reduceCtorEq, Nat.reduceEqDiff, Nat.reduceAdd, Nat.reduceSub, Nat.reduceLT, Nat.reduceLeDiff, Nat.reduceBEq, Nat.reduceMul, Nat.reduceBNe, Int.reduceEq, Int.reduceLT, Int.reduceLE, Int.reduceNe, Int.reduceToNat, onceE, hids, hren, hr, hc, kmap_ids, kmap_ren, ro_cmd, ro_rep, ro_nm, ro_act]
  | w2 gc gr c r2 =>
    rcases hn with ⟨g', h', c', r', rfl⟩ | ⟨g', h', j', c', r', k', rfl⟩
    · simp only [sto0, sto1, sto2, sto3, stom, rowC, rowR, rowK, List.cons_append, List.nil_append, List.append_nil, junk] at hc ⊢
      simp -implicitDefEqProofs only [go_sem, reduceIte, reduceCtorEq, Nat.reduceEqDiff, Nat.reduceAdd, Nat.reduceSub, Nat.reduceLT, Nat.reduceLeDiff, Nat.reduceBEq, Nat.reduceMul, Nat.reduceBNe, Int.reduceEq, Int.reduceLT, Int.reduceLE, Int.reduceNe, Int.reduceToNat, onceE, hids, hren, hr, hc, kmap_ids, kmap_ren, ro_cmd, ro_rep, ro_nm, ro_act]
    · simp only [sto0, sto1, sto2, sto3, stom, rowC, rowR, rowK, List.cons_append, List.nil_append, List.append_nil, junk] at hc ⊢
      simp -implicitDefEqProofs only [go_sem, reduceIte, reduceCtorEq, Nat.reduceEqDiff, Nat.reduceAdd, Nat.reduceSub, Nat.reduceLT, Nat.reduceLeDiff, Nat.reduceBEq, Nat.reduceMul, Nat.reduceBNe, Int.reduceEq, Int.reduceLT, Int.reduceLE, Int.reduceNe, Int.reduceToNat, onceE, hids, hren, hr, hc, kmap_ids, kmap_ren, ro_cmd, ro_rep, ro_nm, ro_act]
  | w3 gc gr gk c r2 k =>
    obtain ⟨g', h', j', c', r', k', rfl⟩ := hn
    simp only [sto0, sto1, sto2, sto3, stom, rowC, rowR, rowK, List.cons_append, List.nil_append, List.append_nil, junk] at hc ⊢
    simp -implicitDefEqProofs only [go_sem, reduceIte, reduceCtorEq, Nat.reduceEqDiff, Nat.reduceAdd, Nat.reduceSub, Nat.reduceLT, Nat.reduceLeDiff, Nat.reduceBEq, Nat.reduceMul, Nat.reduceBNe, Int.reduceEq, Int.reduceLT, Int.reduceLE, Int.reduceNe, Int.reduceToNat, onceE, hids, hren, hr, hc, kmap_ids, kmap_ren, ro_cmd, ro_rep, ro_nm, ro_act]
  | wm gc gk c k => exact hn.elim
theorem once_B2 (hE : WOK E) {w : Wd} (h : w.ok) (hb : Bd w) (x : Sl ActT) (i : Nat) (a : ActT) (h1 : x.list[i]? = some a) (ha : okA a = true) (was : Sl ByteArray) (kv : AV) :
    IR.runL E.glob (callL E) [] ir_usufructlaw21_WorldOnce_B2 (once27 x i a (was.av 1 nmC) kv) (w.sto ++ junk w) = some (.norm, onceE x i (was.av 1 nmC), (w.step a).sto ++ junk w) := by
  by_cases hk : 0 ≤ a.k ∧ a.k ≤ 7
  · rw [once_call x i a h1 hk]
    have := fun st => (compact_gen (w.sto ++ junk w).length [0, 3, 4, 5] (onceE x i (was.av 1 nmC)) st)
    have hk2 : (onceE x i (was.av 1 nmC)).keep [0, 3, 4, 5] = onceE x i (was.av 1 nmC) := rfl
    rw [hk2] at this
    simp only [← this]
    exact once_pair (step_nx h a) _ _ _ (callA_ids a) (callA_ren a) (ansA_ren w a) (call_act hE h hb a ha hk) x i was
  · rw [once_other x i a h1 (by omega), step_other (by omega)]
theorem once_L0 (x : Sl ActT) (i : Nat) (was now : Sl ByteArray) (st : Store) (n0 : Nat) (hn0 : st.length ≤ n0) (k : Nat) (y : ByteArray) (hy : now.list[k]? = some y) (hk : k < 1000) (hnd : now.list.Nodup) {L : Env × Store → Option (Sig × Env × Store)}
    (hL : ∀ e s, L (e, s) = (IR.runL E.glob (callL E) [] ir_usufructlaw21_WorldOnce_L0 e s).bind (seqK fun e s => L (compact [] n0 [0, 3, 4, 5, 6, 7, 8] e s))) :
    ∀ (m j : Nat), j + m = k → L ([(0, acv x), (3, .ref 0 0 0 0), (4, vi i), (5, was.av 1 nmC), (6, now.av 1 nmC), (7, vi k), (8, vi j)], st) = some (.exit 5, [(0, acv x), (3, .ref 0 0 0 0), (4, vi i), (5, was.av 1 nmC), (6, now.av 1 nmC), (7, vi k)], st)
  | 0, j, h => by
    obtain rfl : j = k := by omega
    have c1 : ¬ (j : Int) < (j : Int) := by omega
    rw [hL]
    simp -implicitDefEqProofs only [go_sem, reduceIte, reduceCtorEq, Nat.reduceEqDiff, Nat.reduceAdd, Nat.reduceSub, Nat.reduceLT, Nat.reduceLeDiff, Nat.reduceBEq, Nat.reduceMul, Nat.reduceBNe, Int.reduceEq, Int.reduceLT, Int.reduceLE, Int.reduceNe, Int.reduceToNat, ir_usufructlaw21_WorldOnce_L0, c1]
  | m + 1, j, h => by
    have c1 : (j : Int) < (k : Int) := by omega
    have h6 := wrap_succ (i := j) (by omega)
    have hkl := (List.getElem?_eq_some_iff.1 hy).1
    have hj : now.list[j]? = some now.list[j] := List.getElem?_eq_getElem (by omega)
    have hne : ¬ now.list[j] = y := fun e => by
      obtain ⟨h2, h3⟩ := List.getElem?_eq_some_iff.1 hy
      exact List.pairwise_iff_getElem.1 hnd j k (by omega) h2 (by omega) (e.trans h3.symm)
    have ih := once_L0 x i was now st n0 hn0 k y hy hk hnd hL m (j + 1) (by omega)
    generalize now.list[j] = z at hj hne
    rw [hL]
    simp -implicitDefEqProofs only [go_sem, reduceIte, reduceCtorEq, Nat.reduceEqDiff, Nat.reduceAdd, Nat.reduceSub, Nat.reduceLT, Nat.reduceLeDiff, Nat.reduceBEq, Nat.reduceMul, Nat.reduceBNe, Int.reduceEq, Int.reduceLT, Int.reduceLE, Int.reduceNe, Int.reduceToNat, ir_usufructlaw21_WorldOnce_L0, c1, h6, hj, hy, nmC, hne, ro_nm, hn0, ih]
theorem once_L1 (x : Sl ActT) (i : Nat) (was now : Sl ByteArray) (st : Store) (n0 : Nat) (hn0 : n0 = st.length) (hl : now.list.length < 1000) (hnd : now.list.Nodup) (hpre : ∀ (k : Nat) (y : ByteArray), was.list[k]? = some y → now.list[k]? = some y) {L : Env × Store → Option (Sig × Env × Store)}
    (hL : ∀ e s, L (e, s) = (IR.runL E.glob (callL E) [] ir_usufructlaw21_WorldOnce_L1 e s).bind (seqK fun e s => L (compact [] n0 [0, 3, 4, 5, 6, 7] e s))) :
    ∀ (m k : Nat), k + m = now.list.length → L ([(0, acv x), (3, .ref 0 0 0 0), (4, vi i), (5, was.av 1 nmC), (6, now.av 1 nmC), (7, vi k)], st) = some (.exit 3, [(0, acv x), (3, .ref 0 0 0 0), (4, vi i)], st)
  | 0, k, h => by
    have c1 : ¬ (k : Int) < (now.list.length : Int) := by omega
    rw [hL]
    simp -implicitDefEqProofs only [go_sem, reduceIte, reduceCtorEq, Nat.reduceEqDiff, Nat.reduceAdd, Nat.reduceSub, Nat.reduceLT, Nat.reduceLeDiff, Nat.reduceBEq, Nat.reduceMul, Nat.reduceBNe, Int.reduceEq, Int.reduceLT, Int.reduceLE, Int.reduceNe, Int.reduceToNat, ir_usufructlaw21_WorldOnce_L1, c1]
  | m + 1, k, h => by
    have c1 : (k : Int) < (now.list.length : Int) := by omega
    have h6 := wrap_succ (i := k) (by omega)
    have hk : now.list[k]? = some now.list[k] := List.getElem?_eq_getElem (by omega)
    have ih := once_L1 x i was now st n0 hn0 hl hnd hpre hL m (k + 1) (by omega)
    have hin := once_L0 x i was now st n0 (by omega) k _ hk (by omega) hnd (loopL_eq (IR.runL E.glob (callL E) [] ir_usufructlaw21_WorldOnce_L0) (compact [] n0 [0, 3, 4, 5, 6, 7, 8])) k 0 (by omega)
    have hn1 : st.length ≤ n0 := by omega
    subst hn0
    simp only [Int.natCast_zero] at hin
    by_cases c2 : (k : Int) < (was.list.length : Int)
    · have hw : was.list[k]? = some was.list[k] := List.getElem?_eq_getElem (by omega)
      have he := hpre k _ hw
      rw [hk] at he
      injection he with he
      rw [← he] at hw
      generalize now.list[k] = z at hk hw
      rw [hL]
      simp -implicitDefEqProofs only [go_sem, reduceIte, reduceCtorEq, Nat.reduceEqDiff, Nat.reduceAdd, Nat.reduceSub, Nat.reduceLT, Nat.reduceLeDiff, Nat.reduceBEq, Nat.reduceMul, Nat.reduceBNe, Int.reduceEq, Int.reduceLT, Int.reduceLE, Int.reduceNe, Int.reduceToNat, ir_usufructlaw21_WorldOnce_L1, c1, c2, h6, hk, hw, nmC, ro_nm, hn1, hin, ih]
    · rw [hL]
      simp -implicitDefEqProofs only [go_sem, reduceIte, reduceCtorEq, Nat.reduceEqDiff, Nat.reduceAdd, Nat.reduceSub, Nat.reduceLT, Nat.reduceLeDiff, Nat.reduceBEq, Nat.reduceMul, Nat.reduceBNe, Int.reduceEq, Int.reduceLT, Int.reduceLE, Int.reduceNe, Int.reduceToNat, ir_usufructlaw21_WorldOnce_L1, c1, c2, h6, hk, nmC, ro_nm, hn1, hin, ih]
/-- What stays true of a world. -/
structure WInv (w : Wd) (i : Nat) : Prop where
  ok : w.ok
  c : w.c.length ≤ 6 * i
  r : w.r.length ≤ i
  k : w.k.length ≤ i
  nd : w.k.Nodup
  g : ∀ x, x ∈ w.c → goodC x = true
theorem keysD_or (k : List ByteArray) (x : CmdT) (good : Bool) : keysD k x good = k ∨ (x.key ∉ k ∧ keysD k x good = k ++ [x.key]) := by
  unfold keysD
  split
  · rename_i h
    simp only [Bool.and_eq_true, Bool.not_eq_true'] at h
    exact .inr ⟨fun q => by rw [hasK_iff.2 q] at h; exact absurd h.2 (by simp), rfl⟩
  · exact .inl rfl
theorem step_k {w : Wd} (h : w.ok) (a : ActT) : (w.step a).k = w.k ∨ ∃ s, s ∉ w.k ∧ (w.step a).k = w.k ++ [s] := by
  unfold Wd.step
  split
  · exact .inl (send_cont _ _).2.2
  · split
    · cases hx : atI w.c a.n with
      | none => rw [deliver_no hx]; exact .inl rfl
      | some x =>
        rw [(deliver_cont h hx _ _).2.2.2]
        rcases keysD_or w.k x a.good with e | ⟨e1, e2⟩
        · exact .inl e
        · exact .inr ⟨_, e1, e2⟩
    · split
      · exact .inl (lose_cont h _).2.2.1
      · split
        · exact .inl (reply_cont h _ _).2.2.1
        · split
          · exact .inl (loseR_cont h _).2.2.1
          · exact .inl rfl
theorem mem_td {α : Type} {x : α} {l : List α} {n m : Nat} (h : x ∈ l.take n ++ l.drop m) : x ∈ l := (List.mem_append.1 h).elim List.mem_of_mem_take List.mem_of_mem_drop
theorem len_td {α : Type} (l : List α) (n : Nat) : (l.take n ++ l.drop (n + 1)).length ≤ l.length := by rw [List.length_append, List.length_take, List.length_drop]; omega
theorem step_inv {w : Wd} {i : Nat} (h : WInv w i) (a : ActT) (ha : okA a = true) : WInv (w.step a) (i + 1) := by
  obtain ⟨h0, hc, hr, hk, hnd, hg⟩ := h
  simp only [okA, Bool.and_eq_true, decide_eq_true_eq] at ha
  have hno : (w.step a).ok := nx_ok (step_nx h0 a)
  have hkk : (w.step a).k.length ≤ i + 1 ∧ (w.step a).k.Nodup := by
    rcases step_k h0 a with e | ⟨s, e1, e2⟩
    · rw [e]; exact ⟨by omega, hnd⟩
    · rw [e2]
      refine ⟨by rw [List.length_append]; simp; omega, ?_⟩
      rw [List.nodup_append]
      refine ⟨hnd, by simp, fun y hy z hz => ?_⟩
      simp only [List.mem_singleton] at hz
      subst hz
      exact fun e => e1 (e ▸ hy)
  refine ⟨hno, ?_, ?_, hkk.1, hkk.2, ?_⟩
  · unfold Wd.step
    split
    · rw [(send_cont _ _).1, List.length_append]
      have := List.length_filter_le goodC a.l.list
      omega
    · split
      · cases hx : atI w.c a.n with
        | none => rw [deliver_no hx]; omega
        | some x =>
          rw [(deliver_cont h0 hx _ _).2.1]
          have := len_td w.c a.n.toNat
          split <;> omega
      · split
        · rw [(lose_cont h0 _).2.2.2]
          have := len_td w.c a.n.toNat
          split <;> omega
        · split
          · rw [(reply_cont h0 _ _).2.1]; omega
          · split
            · rw [(loseR_cont h0 _).2.1]; omega
            · omega
  · unfold Wd.step
    split
    · rw [(send_cont _ _).2.1]; omega
    · split
      · cases hx : atI w.c a.n with
        | none => rw [deliver_no hx]; omega
        | some x => rw [(deliver_cont h0 hx _ _).2.2.1, List.length_append]; simp; omega
      · split
        · rw [(lose_cont h0 _).2.1]; omega
        · split
          · rw [(reply_cont h0 _ _).2.2.2]
            have := len_td w.r a.n.toNat
            split
            · split <;> omega
            · omega
          · split
            · rw [(loseR_cont h0 _).2.2.2]
              have := len_td w.r a.n.toNat
              split <;> omega
            · omega
  · unfold Wd.step
    split
    · rw [(send_cont _ _).1]
      intro y hy
      rcases List.mem_append.1 hy with hy | hy
      · exact hg y hy
      · exact (List.mem_filter.1 hy).2
    · split
      · cases hx : atI w.c a.n with
        | none => rw [deliver_no hx]; exact hg
        | some x =>
          rw [(deliver_cont h0 hx _ _).2.1]
          intro y hy
          split at hy
          · exact hg y hy
          · exact hg y (mem_td hy)
      · split
        · rw [(lose_cont h0 _).2.2.2]
          intro y hy
          split at hy
          · exact hg y (mem_td hy)
          · exact hg y hy
        · split
          · rw [(reply_cont h0 _ _).2.1]; exact hg
          · split
            · rw [(loseR_cont h0 _).2.1]; exact hg
            · exact hg
theorem inv_bd {w : Wd} {i : Nat} (h : WInv w i) (hi : i ≤ 1000) : Bd w := ⟨by have := h.c; omega, by have := h.r; omega, by have := h.k; omega⟩
theorem inv_0 : WInv .w0 0 := ⟨fun _ _ _ _ e => (by cases e), Nat.le_refl _, Nat.le_refl _, Nat.le_refl _, List.Pairwise.nil, fun _ h => (by cases h)⟩
theorem pre_of {k k' : List ByteArray} (h : k' = k ∨ ∃ s, s ∉ k ∧ k' = k ++ [s]) : (∀ (n : Nat) (y : ByteArray), k[n]? = some y → k'[n]? = some y) ∧ k.length ≤ k'.length ∧ k'.length ≤ k.length + 1 := by
  rcases h with rfl | ⟨s, _, rfl⟩
  · exact ⟨fun _ _ h => h, Nat.le_refl _, by omega⟩
  · refine ⟨fun n y h => ?_, by simp, by simp⟩
    rw [List.getElem?_append_left (List.getElem?_eq_some_iff.1 h).1]
    exact h
theorem ks_k {w : Wd} (h : w.ok) : w.ks.list = w.k := by
  cases w with
  | wm gc gk c k => exact absurd rfl (h _ _ _ _)
  | _ => rfl
theorem once_pairL (hE : WOK E) {w w' : Wd} (hn : Nx w w') (hb : Bd w) (hb' : Bd w') (x : Sl ActT) (i : Nat) (hi : i < 1000) (h3 : (i : Int) < (x.list.length : Int)) (a : ActT) (h1 : x.list[i]? = some a)
    (hB : ∀ kv, IR.runL E.glob (callL E) [] ir_usufructlaw21_WorldOnce_B2 (once27 x i a (w.ks.av 1 nmC) kv) (w.sto ++ junk w) = some (.norm, onceE x i (w.ks.av 1 nmC), w'.sto ++ junk w))
    (hk : w'.k = w.k ∨ ∃ s, s ∉ w.k ∧ w'.k = w.k ++ [s]) (hnd : w'.k.Nodup) (hl : w'.k.length < 1000) {L : Env × Store → Option (Sig × Env × Store)}
    (hL : ∀ e s, L (e, s) = (IR.runL E.glob (callL E) [] ir_usufructlaw21_WorldOnce_L2 e s).bind (seqK fun e s => L (compact [] 1 [0, 3, 4] e s))) :
    L ([(0, acv x), (3, .ref 0 0 0 0), (4, vi i)], w.sto) = L ([(0, acv x), (3, .ref 0 0 0 0), (4, vi ((i + 1 : Nat) : Int))], w'.sto) := by
  have h6 := wrap_succ (i := i) (by omega)
  have hw : w.ok := by
    intro gc gk c k e
    subst e
    exact hn
  have hw' := nx_ok hn
  have hK := fn_Keys hE.std w hw (by omega)
  have hK' := fn_Keys hE.std w' hw' (by omega)
  obtain ⟨p1, p2, p3⟩ := pre_of hk
  rw [← ks_k hw'] at p1 p2 p3 hnd hl
  rw [← ks_k hw] at p1 p2 p3
  have c1 : ¬ ((w'.ks.list.length : Nat) : Int) < ((w.ks.list.length : Nat) : Int) := by omega
  have h7 := wrap_succ (i := w.ks.list.length) (by omega)
  have c2 : ¬ (((w.ks.list.length + 1 : Nat) : Int) < ((w'.ks.list.length : Nat) : Int)) := by omega
  have hlp := fun (st : Store) (n : Nat) (h : st.length = n) => once_L1 (E := E) x i w.ks w'.ks st n h.symm hl hnd p1 (loopL_eq (IR.runL E.glob (callL E) [] ir_usufructlaw21_WorldOnce_L1) (compact [] n [0, 3, 4, 5, 6, 7])) w'.ks.list.length 0 (by omega)
  rw [hL]
  cases w with
  | w0 =>
    rcases hn with rfl | ⟨g', c', rfl⟩
    · simp only [copyO, Wd.hasKs, Wd.k, Wd.ks, sto0, sto1, sto2, sto3, stom, rowC, rowR, rowK, List.cons_append, List.nil_append, List.append_nil, junk, if_true, if_false, Bool.false_eq_true, List.length_cons, List.length_nil, Nat.zero_add, Nat.reduceAdd, av_mk, Sl.av, Sl.list, Int.natCast_zero, Int.natCast_one] at hK hK' hB hlp c1 c2 h7 ⊢
      simp -implicitDefEqProofs only [go_sem, reduceIte, reduceCtorEq, Nat.reduceEqDiff, Nat.reduceAdd, Nat.reduceSub, Nat.reduceLT, Nat.reduceLeDiff, Nat.reduceBEq, Nat.reduceMul, Nat.reduceBNe, Int.reduceEq, Int.reduceLT, Int.reduceLE, Int.reduceNe, Int.reduceToNat, ir_usufructlaw21_WorldOnce_L2, once27, onceE, ActT.cells, h1, h3, h6, h7, hK, hK', hB, hlp, c1, c2, take_map, kmap_ids, kmap_ren, ro_cmd, ro_rep, ro_nm, ro_act, List.length_map, Int.natCast_zero, lenA_nil, len_sl, show IntKind.i64.wrap 1 = 1 from rfl]
    · simp only [copyO, Wd.hasKs, Wd.k, Wd.ks, sto0, sto1, sto2, sto3, stom, rowC, rowR, rowK, List.cons_append, List.nil_append, List.append_nil, junk, if_true, if_false, Bool.false_eq_true, List.length_cons, List.length_nil, Nat.zero_add, Nat.reduceAdd, av_mk, Sl.av, Sl.list, Int.natCast_zero, Int.natCast_one] at hK hK' hB hlp c1 c2 h7 ⊢
      simp -implicitDefEqProofs only [go_sem, reduceIte, reduceCtorEq, Nat.reduceEqDiff, Nat.reduceAdd, Nat.reduceSub, Nat.reduceLT, Nat.reduceLeDiff, Nat.reduceBEq, Nat.reduceMul, Nat.reduceBNe, Int.reduceEq, Int.reduceLT, Int.reduceLE, Int.reduceNe, Int.reduceToNat, ir_usufructlaw21_WorldOnce_L2, once27, onceE, ActT.cells, h1, h3, h6, h7, hK, hK', hB, hlp, c1, c2, take_map, kmap_ids, kmap_ren, ro_cmd, ro_rep, ro_nm, ro_act, List.length_map, Int.natCast_zero, lenA_nil, len_sl, show IntKind.i64.wrap 1 = 1 from rfl]
  | w1 gc c =>
    rcases hn with ⟨g', c', rfl⟩ | ⟨g', h', c', r', rfl⟩ | ⟨g', h', j', c', r', k', rfl⟩
    · simp only [copyO, Wd.hasKs, Wd.k, Wd.ks, sto0, sto1, sto2, sto3, stom, rowC, rowR, rowK, List.cons_append, List.nil_append, List.append_nil, junk, if_true, if_false, Bool.false_eq_true, List.length_cons, List.length_nil, Nat.zero_add, Nat.reduceAdd, av_mk, Sl.av, Sl.list, Int.natCast_zero, Int.natCast_one] at hK hK' hB hlp c1 c2 h7 ⊢
      simp -implicitDefEqProofs only [go_sem, reduceIte, reduceCtorEq, Nat.reduceEqDiff, Nat.reduceAdd, Nat.reduceSub, Nat.reduceLT, Nat.reduceLeDiff, Nat.reduceBEq, Nat.reduceMul, Nat.reduceBNe, Int.reduceEq, Int.reduceLT, Int.reduceLE, Int.reduceNe, Int.reduceToNat, ir_usufructlaw21_WorldOnce_L2, once27, onceE, ActT.cells, h1, h3, h6, h7, hK, hK', hB, hlp, c1, c2, take_map, kmap_ids, kmap_ren, ro_cmd, ro_rep, ro_nm, ro_act, List.length_map, Int.natCast_zero, lenA_nil, len_sl, show IntKind.i64.wrap 1 = 1 from rfl]
    · simp only [copyO, Wd.hasKs, Wd.k, Wd.ks, sto0, sto1, sto2, sto3, stom, rowC, rowR, rowK, List.cons_append, List.nil_append, List.append_nil, junk, if_true, if_false, Bool.false_eq_true, List.length_cons, List.length_nil, Nat.zero_add, Nat.reduceAdd, av_mk, Sl.av, Sl.list, Int.natCast_zero, Int.natCast_one] at hK hK' hB hlp c1 c2 h7 ⊢
      simp -implicitDefEqProofs only [go_sem, reduceIte, reduceCtorEq, Nat.reduceEqDiff, Nat.reduceAdd, Nat.reduceSub, Nat.reduceLT, Nat.reduceLeDiff, Nat.reduceBEq, Nat.reduceMul, Nat.reduceBNe, Int.reduceEq, Int.reduceLT, Int.reduceLE, Int.reduceNe, Int.reduceToNat, ir_usufructlaw21_WorldOnce_L2, once27, onceE, ActT.cells, h1, h3, h6, h7, hK, hK', hB, hlp, c1, c2, take_map, kmap_ids, kmap_ren, ro_cmd, ro_rep, ro_nm, ro_act, List.length_map, Int.natCast_zero, lenA_nil, len_sl, show IntKind.i64.wrap 1 = 1 from rfl]
    · simp only [copyO, Wd.hasKs, Wd.k, Wd.ks, sto0, sto1, sto2, sto3, stom, rowC, rowR, rowK, List.cons_append, List.nil_append, List.append_nil, junk, if_true, if_false, Bool.false_eq_true, List.length_cons, List.length_nil, Nat.zero_add, Nat.reduceAdd, av_mk, Sl.av, Sl.list, Int.natCast_zero, Int.natCast_one] at hK hK' hB hlp c1 c2 h7 ⊢
      simp -implicitDefEqProofs only [go_sem, reduceIte, reduceCtorEq, Nat.reduceEqDiff, Nat.reduceAdd, Nat.reduceSub, Nat.reduceLT, Nat.reduceLeDiff, Nat.reduceBEq, Nat.reduceMul, Nat.reduceBNe, Int.reduceEq, Int.reduceLT, Int.reduceLE, Int.reduceNe, Int.reduceToNat, ir_usufructlaw21_WorldOnce_L2, once27, onceE, ActT.cells, h1, h3, h6, h7, hK, hK', hB, hlp, c1, c2, take_map, kmap_ids, kmap_ren, ro_cmd, ro_rep, ro_nm, ro_act, List.length_map, Int.natCast_zero, lenA_nil, len_sl, show IntKind.i64.wrap 1 = 1 from rfl]
  | w2 gc gr c r2 =>
    rcases hn with ⟨g', h', c', r', rfl⟩ | ⟨g', h', j', c', r', k', rfl⟩
    · simp only [copyO, Wd.hasKs, Wd.k, Wd.ks, sto0, sto1, sto2, sto3, stom, rowC, rowR, rowK, List.cons_append, List.nil_append, List.append_nil, junk, if_true, if_false, Bool.false_eq_true, List.length_cons, List.length_nil, Nat.zero_add, Nat.reduceAdd, av_mk, Sl.av, Sl.list, Int.natCast_zero, Int.natCast_one] at hK hK' hB hlp c1 c2 h7 ⊢
      simp -implicitDefEqProofs only [go_sem, reduceIte, reduceCtorEq, Nat.reduceEqDiff, Nat.reduceAdd, Nat.reduceSub, Nat.reduceLT, Nat.reduceLeDiff, Nat.reduceBEq, Nat.reduceMul, Nat.reduceBNe, Int.reduceEq, Int.reduceLT, Int.reduceLE, Int.reduceNe, Int.reduceToNat, ir_usufructlaw21_WorldOnce_L2, once27, onceE, ActT.cells, h1, h3, h6, h7, hK, hK', hB, hlp, c1, c2, take_map, kmap_ids, kmap_ren, ro_cmd, ro_rep, ro_nm, ro_act, List.length_map, Int.natCast_zero, lenA_nil, len_sl, show IntKind.i64.wrap 1 = 1 from rfl]
    · simp only [copyO, Wd.hasKs, Wd.k, Wd.ks, sto0, sto1, sto2, sto3, stom, rowC, rowR, rowK, List.cons_append, List.nil_append, List.append_nil, junk, if_true, if_false, Bool.false_eq_true, List.length_cons, List.length_nil, Nat.zero_add, Nat.reduceAdd, av_mk, Sl.av, Sl.list, Int.natCast_zero, Int.natCast_one] at hK hK' hB hlp c1 c2 h7 ⊢
      simp -implicitDefEqProofs only [go_sem, reduceIte, reduceCtorEq, Nat.reduceEqDiff, Nat.reduceAdd, Nat.reduceSub, Nat.reduceLT, Nat.reduceLeDiff, Nat.reduceBEq, Nat.reduceMul, Nat.reduceBNe, Int.reduceEq, Int.reduceLT, Int.reduceLE, Int.reduceNe, Int.reduceToNat, ir_usufructlaw21_WorldOnce_L2, once27, onceE, ActT.cells, h1, h3, h6, h7, hK, hK', hB, hlp, c1, c2, take_map, kmap_ids, kmap_ren, ro_cmd, ro_rep, ro_nm, ro_act, List.length_map, Int.natCast_zero, lenA_nil, len_sl, show IntKind.i64.wrap 1 = 1 from rfl]
  | w3 gc gr gk c r2 k =>
    obtain ⟨g', h', j', c', r', k', rfl⟩ := hn
    simp only [copyO, Wd.hasKs, Wd.k, Wd.ks, sto0, sto1, sto2, sto3, stom, rowC, rowR, rowK, List.cons_append, List.nil_append, List.append_nil, junk, if_true, if_false, Bool.false_eq_true, List.length_cons, List.length_nil, Nat.zero_add, Nat.reduceAdd, av_mk, Sl.av, Sl.list, Int.natCast_zero, Int.natCast_one] at hK hK' hB hlp c1 c2 h7 ⊢
    simp -implicitDefEqProofs only [go_sem, reduceIte, reduceCtorEq, Nat.reduceEqDiff, Nat.reduceAdd, Nat.reduceSub, Nat.reduceLT, Nat.reduceLeDiff, Nat.reduceBEq, Nat.reduceMul, Nat.reduceBNe, Int.reduceEq, Int.reduceLT, Int.reduceLE, Int.reduceNe, Int.reduceToNat, ir_usufructlaw21_WorldOnce_L2, once27, onceE, ActT.cells, h1, h3, h6, h7, hK, hK', hB, hlp, c1, c2, take_map, kmap_ids, kmap_ren, ro_cmd, ro_rep, ro_nm, ro_act, List.length_map, Int.natCast_zero, lenA_nil, len_sl, show IntKind.i64.wrap 1 = 1 from rfl]
  | wm gc gk c k => exact hn.elim
theorem once_loop (hE : WOK E) (x : Sl ActT) (hx : x.list.length ≤ 40) (ho : ∀ a, a ∈ x.list → okA a = true) {L : Env × Store → Option (Sig × Env × Store)}
    (hL : ∀ e s, L (e, s) = (IR.runL E.glob (callL E) [] ir_usufructlaw21_WorldOnce_L2 e s).bind (seqK fun e s => L (compact [] 1 [0, 3, 4] e s))) :
    ∀ (rest : List ActT) (i : Nat) (w : Wd), x.list.drop i = rest → i ≤ x.list.length → WInv w i →
    ∃ w' : Wd, w'.ok ∧ L ([(0, acv x), (3, .ref 0 0 0 0), (4, vi i)], w.sto) = some (.exit 0, [], w'.sto)
  | [], i, w, h, hi, hw => by
    have h1 := drop_nil' h hi
    refine ⟨w, hw.ok, ?_⟩
    rw [hL]
    generalize w.sto = st
    simp -implicitDefEqProofs only [go_sem, reduceIte, reduceCtorEq, Nat.reduceEqDiff, Nat.reduceAdd, Nat.reduceSub, Nat.reduceLT, Nat.reduceLeDiff, Nat.reduceBEq, Nat.reduceMul, Nat.reduceBNe, Int.reduceEq, Int.reduceLT, Int.reduceLE, Int.reduceNe, Int.reduceToNat, ir_usufructlaw21_WorldOnce_L2, h1]
  | a :: rest, i, w, h, hi, hw => by
    obtain ⟨h1, h2, h3, h4, h5⟩ := drop_cons h
    have ha := ho a (List.mem_of_getElem? h1)
    have hw2 := step_inv hw a ha
    obtain ⟨w', k1, k2⟩ := once_loop hE x hx ho hL rest (i + 1) (w.step a) h2 h4 hw2
    refine ⟨w', k1, ?_⟩
    rw [once_pairL hE (step_nx hw.ok a) (inv_bd hw (by omega)) (inv_bd hw2 (by omega)) x i (by omega) h3 a h1 (fun kv => once_B2 hE hw.ok (inv_bd hw (by omega)) x i a h1 ha w.ks kv) (step_k hw.ok a) hw2.nd (by have := hw2.k; omega) hL]
    exact k2
theorem fn_WorldOnce (hE : WOK E) (haw : callP E f_usufructlaw21_awake [] = some (vb true)) (x : Sl ActT) (hx : x.list.length < 9223372036854775808) : callP E f_usufructlaw21_WorldOnce [acv x] = some (vb true) := by
  have hfw := fn_few hE.std x hx
  cases hf : fewS x.list with
  | false =>
    rw [hf] at hfw
    rw [hE.std.run rfl rfl]
    simp -implicitDefEqProofs only [go_sem, reduceIte, reduceCtorEq, Nat.reduceEqDiff, Nat.reduceAdd, Nat.reduceSub, Nat.reduceLT, Nat.reduceLeDiff, Nat.reduceBEq, Nat.reduceMul, Nat.reduceBNe, Int.reduceEq, Int.reduceLT, Int.reduceLE, Int.reduceNe, Int.reduceToNat, ir_usufructlaw21_WorldOnce, haw, hfw, ro_act]
  | true =>
    rw [hf] at hfw
    simp only [fewS, Bool.and_eq_true, decide_eq_true_eq] at hf
    obtain ⟨w', hok, hlp⟩ := once_loop hE x hf.1 (fun a ha => List.all_eq_true.1 hf.2 a ha) (loopL_eq (IR.runL E.glob (callL E) [] ir_usufructlaw21_WorldOnce_L2) (compact [] 1 [0, 3, 4])) x.list 0 .w0 rfl (Nat.zero_le _) inv_0
    rw [hE.std.run rfl rfl]
    simp only [sto0, Int.natCast_zero] at hlp
    cases w' <;> simp only [sto0, sto1, sto2, sto3, stom, rowC, rowR, rowK] at hlp
    · simp -implicitDefEqProofs only [go_sem, reduceIte, reduceCtorEq, Nat.reduceEqDiff, Nat.reduceAdd, Nat.reduceSub, Nat.reduceLT, Nat.reduceLeDiff, Nat.reduceBEq, Nat.reduceMul, Nat.reduceBNe, Int.reduceEq, Int.reduceLT, Int.reduceLE, Int.reduceNe, Int.reduceToNat, ir_usufructlaw21_WorldOnce, haw, hfw, hlp, kmap_ids, kmap_ren, ro_cmd, ro_rep, ro_nm, ro_act]
    · simp -implicitDefEqProofs only [go_sem, reduceIte, reduceCtorEq, Nat.reduceEqDiff, Nat.reduceAdd, Nat.reduceSub, Nat.reduceLT, Nat.reduceLeDiff, Nat.reduceBEq, Nat.reduceMul, Nat.reduceBNe, Int.reduceEq, Int.reduceLT, Int.reduceLE, Int.reduceNe, Int.reduceToNat, ir_usufructlaw21_WorldOnce, haw, hfw, hlp, kmap_ids, kmap_ren, ro_cmd, ro_rep, ro_nm, ro_act]
    · simp -implicitDefEqProofs only [go_sem, reduceIte, reduceCtorEq, Nat.reduceEqDiff, Nat.reduceAdd, Nat.reduceSub, Nat.reduceLT, Nat.reduceLeDiff, Nat.reduceBEq, Nat.reduceMul, Nat.reduceBNe, Int.reduceEq, Int.reduceLT, Int.reduceLE, Int.reduceNe, Int.reduceToNat, ir_usufructlaw21_WorldOnce, haw, hfw, hlp, kmap_ids, kmap_ren, ro_cmd, ro_rep, ro_nm, ro_act]
    · simp -implicitDefEqProofs only [go_sem, reduceIte, reduceCtorEq, Nat.reduceEqDiff, Nat.reduceAdd, Nat.reduceSub, Nat.reduceLT, Nat.reduceLeDiff, Nat.reduceBEq, Nat.reduceMul, Nat.reduceBNe, Int.reduceEq, Int.reduceLT, Int.reduceLE, Int.reduceNe, Int.reduceToNat, ir_usufructlaw21_WorldOnce, haw, hfw, hlp, kmap_ids, kmap_ren, ro_cmd, ro_rep, ro_nm, ro_act]
    · exact absurd rfl (hok _ _ _ _)
end Go.Proofs.YtbpndomfipdhdaaDoor.Ev
