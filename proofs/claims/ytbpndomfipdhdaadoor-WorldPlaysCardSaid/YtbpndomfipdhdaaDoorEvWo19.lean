/-
  A world: the document's.
-/
import Derived.Test.YtbpndomfipdhdaaDoorEvWk2
import Derived.Test.YtbpndomfipdhdaaDoorEvWo12
set_option linter.unusedVariables false
set_option linter.unusedSimpArgs false
namespace Go.Proofs.YtbpndomfipdhdaaDoor.Ev
attribute [local congr] bind_congr_head
attribute [local go_sem] opd_t opd_c opd_g opd_f opds_nil opds_cons get_cons put_some put_none keep_nil keepC_s keepC_n keep_cons runs_nil runs_cons run_op run_opr run_call run_gand run_gor run_gif seqK_norm seqK_exit seqK_ret blkK_norm blkK_exit blkK_ret runL_skip runL_exit runL_ret runL_items runL_seq runL_cond runL_block runL_loop fin_bind finK_norm finK_ret rvs_nil rvs_cons rv_tmp rv_cell tupOf_one tupOf_nil tupOf_two ev_mov ev_pick ev_alloc ev_box ev_build parts_nil parts_cons fills_nil fills_cons ev_bsl ev_bslo ev_load ev_store ev_nilck ev_bin ev_binb ev_aeq ev_un ev_i2i ev_i2t ev_isnilI nilIF ev_s2b ev_ext ev_fld ev_idxs ev_fa ev_ias ev_len ev_lens ev_s2s ev_mkf ev_rng ev_nxt ev_app bOf_s pvOf_s agOf_s tpOf_s iOf_s sOf_s ite_bind Option.bind_some Option.bind_none if_true if_false ite_true ite_false argEnv_nil argEnv_cons len_av elems_av ias_av cells_av tuple_av AV.tuple AV.cells faF ldAt liveRef aggOf nilckF binV binI binS binB unV Bool.not_true Bool.not_false List.length_nil List.length_cons List.nil_append List.cons_append List.append_nil List.getElem?_cons_zero List.getElem?_cons_succ List.drop_zero List.drop_succ_cons List.drop_nil List.take_zero List.take_succ_cons List.take_nil List.set_cons_zero List.set_cons_succ compact_same compact_new closedB nodupB envIds ids0 upto visit pos sel AV.ids idss idsss Ob.ids AV.ren rens renss Ob.ren renEnv AV.snap snaps stAt okSt putCells List.all_nil List.all_cons List.contains_nil List.contains_cons Bool.and_true Bool.true_and Bool.and_false Bool.false_and Bool.or_true Bool.true_or Bool.or_false Bool.false_or decide_eq_true_eq decide_true decide_false beq_iff_eq bne_iff_ne beq_self_eq_true Bool.not_eq_true' Bool.false_eq_true eq_self and_self and_true true_and and_false false_and or_true true_or or_false false_or not_true_eq_false not_false_eq_true ne_eq Nat.zero_add Nat.add_zero Nat.le_refl Nat.not_lt_zero Nat.lt_irrefl Nat.zero_le Int.toNat_natCast gt_iff_lt ge_iff_le Int.lt_irrefl Int.natCast_nonneg txt_eq get_nil appF elems belows AV.under AV.flat flats List.length_map List.map_append List.map_cons List.map_nil List.length_append take_map_all List.flatten_cons List.flatten_nil bld_nil imp_false false_imp_iff false_implies true_implies implies_true decide_eq_false_iff_not Nat.one_mul Nat.mul_one idsss_app renss_app belowss_app ev_mn ev_mx ev_isnils ev_sls ev_slx evo_none evo_some vals minV maxV minF maxF backId List.getElem?_nil putAll Option.all_none Option.all_some Option.isSome_some intOf aszI compactV_same compactV_new callP_any callQ_eq callN_any boxQ AV.id? ids_avR ren_av under_av snap_av renss_mapf belowss_mapf idsss_mapf isnilsF List.length_eq_zero_iff int_beq int_bne decide_not slx_av Int.toNat_zero ev_mkm ev_lk ev_mup ev_mdl ev_lenm ev_isnilm mpOf_s mapAt_s mapOf_nil mapOf_mp isnilm_nil isnilm_mp lkR Option.getD_some Option.getD_none Option.isSome_none Prim.rdo ev_snp snp_own snp_v exQ_nil exQ_cons exA_ref same_nil same_box same_row same_map sameL_nil sameL_cons sameA_int sameA_bool sameA_str sameA_slice sameA_map sameA_ptr sameA_own sameA_ref sameA_mp callB_eq
theorem fn_refCommand {E : Prog} (hE : Std E fns) (c : CmdT) (hk : c.key.size ≤ 400) (hp : c.party.size < 2305843009213693952) : callP E f_usufructref19_Command [.agg c.cells] = some (vb (goodC c)) := by
  have h1 := fn_rfits hE c.saga
  have h2 := fn_rfits hE c.step
  have h3 := fn_rfits hE c.tr
  have h4 := fn_refGood hE c.party hp
  have h5 := fn_read hE c.key.data.toList hk
  rw [ba_of] at h5
  unfold goodC
  generalize fitI c.saga = a at h1 ⊢
  generalize fitI c.step = b at h2 ⊢
  generalize fitI c.tr = d at h3 ⊢
  generalize labelGood c.party = g at h4 ⊢
  have hcut : ∃ x : Option (Int × List UInt8 × Bool), cutS c.key.data.toList = x := ⟨_, rfl⟩
  obtain ⟨x, hx⟩ := hcut
  rw [hx] at h5 ⊢
  rw [hE.run rfl rfl]
  cases x with
  | none =>
    simp only [cutC] at h5
    cases a
    · simp -implicitDefEqProofs only [go_sem, reduceIte, reduceCtorEq, Nat.reduceEqDiff, Nat.reduceAdd, Nat.reduceSub, Nat.reduceLT, Nat.reduceLeDiff, Nat.reduceBEq, Nat.reduceMul, Nat.reduceBNe, Int.reduceEq, Int.reduceLT, Int.reduceLE, Int.reduceNe, Int.reduceToNat, ir_usufructref19_Command, CmdT.cells, h1, h5]
    · cases b
      · simp -implicitDefEqProofs only [go_sem, reduceIte, reduceCtorEq, Nat.reduceEqDiff, Nat.reduceAdd, Nat.reduceSub, Nat.reduceLT, Nat.reduceLeDiff, Nat.reduceBEq, Nat.reduceMul, Nat.reduceBNe, Int.reduceEq, Int.reduceLT, Int.reduceLE, Int.reduceNe, Int.reduceToNat, ir_usufructref19_Command, CmdT.cells, h1, h2, h5]
      · cases d
        · simp -implicitDefEqProofs only [go_sem, reduceIte, reduceCtorEq, Nat.reduceEqDiff, Nat.reduceAdd, Nat.reduceSub, Nat.reduceLT, Nat.reduceLeDiff, Nat.reduceBEq, Nat.reduceMul, Nat.reduceBNe, Int.reduceEq, Int.reduceLT, Int.reduceLE, Int.reduceNe, Int.reduceToNat, ir_usufructref19_Command, CmdT.cells, h1, h2, h3, h5]
        · cases g
          · simp -implicitDefEqProofs only [go_sem, reduceIte, reduceCtorEq, Nat.reduceEqDiff, Nat.reduceAdd, Nat.reduceSub, Nat.reduceLT, Nat.reduceLeDiff, Nat.reduceBEq, Nat.reduceMul, Nat.reduceBNe, Int.reduceEq, Int.reduceLT, Int.reduceLE, Int.reduceNe, Int.reduceToNat, ir_usufructref19_Command, CmdT.cells, h1, h2, h3, h4, h5]
          · simp -implicitDefEqProofs only [go_sem, reduceIte, reduceCtorEq, Nat.reduceEqDiff, Nat.reduceAdd, Nat.reduceSub, Nat.reduceLT, Nat.reduceLeDiff, Nat.reduceBEq, Nat.reduceMul, Nat.reduceBNe, Int.reduceEq, Int.reduceLT, Int.reduceLE, Int.reduceNe, Int.reduceToNat, ir_usufructref19_Command, CmdT.cells, h1, h2, h3, h4, h5]
  | some q =>
    obtain ⟨n, nm, u⟩ := q
    simp only [cutC] at h5
    dsimp only
    cases a
    · simp -implicitDefEqProofs only [go_sem, reduceIte, reduceCtorEq, Nat.reduceEqDiff, Nat.reduceAdd, Nat.reduceSub, Nat.reduceLT, Nat.reduceLeDiff, Nat.reduceBEq, Nat.reduceMul, Nat.reduceBNe, Int.reduceEq, Int.reduceLT, Int.reduceLE, Int.reduceNe, Int.reduceToNat, ir_usufructref19_Command, CmdT.cells, h1, h5]
    · cases b
      · simp -implicitDefEqProofs only [go_sem, reduceIte, reduceCtorEq, Nat.reduceEqDiff, Nat.reduceAdd, Nat.reduceSub, Nat.reduceLT, Nat.reduceLeDiff, Nat.reduceBEq, Nat.reduceMul, Nat.reduceBNe, Int.reduceEq, Int.reduceLT, Int.reduceLE, Int.reduceNe, Int.reduceToNat, ir_usufructref19_Command, CmdT.cells, h1, h2, h5]
      · cases d
        · simp -implicitDefEqProofs only [go_sem, reduceIte, reduceCtorEq, Nat.reduceEqDiff, Nat.reduceAdd, Nat.reduceSub, Nat.reduceLT, Nat.reduceLeDiff, Nat.reduceBEq, Nat.reduceMul, Nat.reduceBNe, Int.reduceEq, Int.reduceLT, Int.reduceLE, Int.reduceNe, Int.reduceToNat, ir_usufructref19_Command, CmdT.cells, h1, h2, h3, h5]
        · cases g
          · simp -implicitDefEqProofs only [go_sem, reduceIte, reduceCtorEq, Nat.reduceEqDiff, Nat.reduceAdd, Nat.reduceSub, Nat.reduceLT, Nat.reduceLeDiff, Nat.reduceBEq, Nat.reduceMul, Nat.reduceBNe, Int.reduceEq, Int.reduceLT, Int.reduceLE, Int.reduceNe, Int.reduceToNat, ir_usufructref19_Command, CmdT.cells, h1, h2, h3, h4, h5]
          · by_cases q : n = c.saga
            · have q1 := eq_true q
              rw [decide_eq_true q]
              simp -implicitDefEqProofs only [go_sem, reduceIte, reduceCtorEq, Nat.reduceEqDiff, Nat.reduceAdd, Nat.reduceSub, Nat.reduceLT, Nat.reduceLeDiff, Nat.reduceBEq, Nat.reduceMul, Nat.reduceBNe, Int.reduceEq, Int.reduceLT, Int.reduceLE, Int.reduceNe, Int.reduceToNat, ir_usufructref19_Command, CmdT.cells, h1, h2, h3, h4, h5, q1]
              cases u <;> cases c.undo <;> rfl
            · have q1 := eq_false q
              rw [decide_eq_false q]
              simp -implicitDefEqProofs only [go_sem, reduceIte, reduceCtorEq, Nat.reduceEqDiff, Nat.reduceAdd, Nat.reduceSub, Nat.reduceLT, Nat.reduceLeDiff, Nat.reduceBEq, Nat.reduceMul, Nat.reduceBNe, Int.reduceEq, Int.reduceLT, Int.reduceLE, Int.reduceNe, Int.reduceToNat, ir_usufructref19_Command, CmdT.cells, h1, h2, h3, h4, h5, q1]
variable {E : Prog}
abbrev ITOK (E : Prog) : Prop := ∀ n : Int, -9223372036854775808 ≤ n → n ≤ 9223372036854775807 → callP E f_strconv_Itoa_0 [vi n] = some (vs (BA (Lib.itoa n)))
/-- A step of that name. -/
def stC (s : ByteArray) : List AV := [vs s, vs ⟨#[]⟩, vi 0, vi 0, vi 0, vi 0, vi 0, vi 0, vi 0, vi 0, vi 0, vi 0]
def keyB (saga : Int) (s : ByteArray) (u : Bool) : List UInt8 := if saga < 0 then [] else Lib.itoa saga ++ 47 :: (s.data.toList ++ 47 :: wayL u)
theorem fn_key1 (hE : Std E fns) (hi : ITOK E) (saga : Int) (hs : saga ≤ 9223372036854775807) (s : ByteArray) (hsz' : s.size ≤ 100) (u : Bool) :
    callP E f_def_Key [vi saga, .agg [vs ⟨#[]⟩, vi 0, .sl 12 [stC s]], vi 0, vb u] = some (vs (BA (keyB saga s u))) := by
  have hb : BA [] = ⟨#[]⟩ := rfl
  rw [hE.run rfl rfl]
  unfold keyB stC
  by_cases c1 : saga < 0
  · simp -implicitDefEqProofs only [go_sem, reduceIte, reduceCtorEq, Nat.reduceEqDiff, Nat.reduceAdd, Nat.reduceSub, Nat.reduceLT, Nat.reduceLeDiff, Nat.reduceBEq, Nat.reduceMul, Nat.reduceBNe, Int.reduceEq, Int.reduceLT, Int.reduceLE, Int.reduceNe, Int.reduceToNat, ir_def_Key, c1, hb]
  · have hil := itoa_len (by omega) hs
    have hw := way_len u
    have e0 : (⟨#[47]⟩ : ByteArray) = BA [47] := rfl
    have hnm : s = BA s.data.toList := (ba_of _).symm
    have hsz : s.data.toList.length ≤ 100 := by rw [← ba_size, ba_of]; exact hsz'
    have s1 : ¬ (9223372036854775807 : Int) < (((BA (Lib.itoa saga)).size + (BA [47]).size : Nat) : Int) := by simp only [ba_size, List.length_cons, List.length_nil]; omega
    have s2 : ¬ (9223372036854775807 : Int) < (((BA (Lib.itoa saga ++ [47])).size + (BA s.data.toList).size : Nat) : Int) := by simp only [ba_size, List.length_append, List.length_cons, List.length_nil]; omega
    have s3 : ¬ (9223372036854775807 : Int) < (((BA (Lib.itoa saga ++ [47] ++ s.data.toList)).size + (BA [47]).size : Nat) : Int) := by simp only [ba_size, List.length_append, List.length_cons, List.length_nil]; omega
    have s4 : ¬ (9223372036854775807 : Int) < (((BA (Lib.itoa saga ++ [47] ++ s.data.toList ++ [47])).size + (BA (wayL u)).size : Nat) : Int) := by simp only [ba_size, List.length_append, List.length_cons, List.length_nil]; omega
    have hi' := hi saga (by omega) hs
    simp only [List.append_assoc, List.cons_append, List.nil_append] at s2 s3 s4
    generalize s.data.toList = L at hnm s2 s3 s4 ⊢
    subst hnm
    simp -implicitDefEqProofs only [go_sem, reduceIte, reduceCtorEq, Nat.reduceEqDiff, Nat.reduceAdd, Nat.reduceSub, Nat.reduceLT, Nat.reduceLeDiff, Nat.reduceBEq, Nat.reduceMul, Nat.reduceBNe, Int.reduceEq, Int.reduceLT, Int.reduceLE, Int.reduceNe, Int.reduceToNat, ir_def_Key, c1, len_sl, ias_sl, show (((1 : Nat) : Int) ≤ 0) = False from by simp, hi', fn_way hE, e0, ba_app, List.append_assoc, s1, s2, s3, s4]
theorem fn_keyR1 (hE : Std E fns) (saga : Int) (hs : saga ≤ 9223372036854775807) (s : ByteArray) (hsz' : s.size ≤ 100) (u : Bool) :
    callP E f_usufructref13_Key [vi saga, .agg [vs ⟨#[]⟩, vi 0, .sl 12 [stC s]], vi 0, vb u] = some (vs (BA (keyB saga s u))) := by
  have hb : BA [] = ⟨#[]⟩ := rfl
  rw [hE.run rfl rfl]
  unfold keyB stC
  by_cases c1 : saga < 0
  · simp -implicitDefEqProofs only [go_sem, reduceIte, reduceCtorEq, Nat.reduceEqDiff, Nat.reduceAdd, Nat.reduceSub, Nat.reduceLT, Nat.reduceLeDiff, Nat.reduceBEq, Nat.reduceMul, Nat.reduceBNe, Int.reduceEq, Int.reduceLT, Int.reduceLE, Int.reduceNe, Int.reduceToNat, ir_usufructref13_Key, c1, hb]
  · have hil := itoa_len (by omega) hs
    have hw := way_len u
    have e0 : (⟨#[47]⟩ : ByteArray) = BA [47] := rfl
    have e1 : (⟨#[47, 117, 110, 100, 111]⟩ : ByteArray) = BA [47, 117, 110, 100, 111] := rfl
    have e2 : (⟨#[47, 100, 111]⟩ : ByteArray) = BA [47, 100, 111] := rfl
    have hnm : s = BA s.data.toList := (ba_of _).symm
    have hsz : s.data.toList.length ≤ 100 := by rw [← ba_size, ba_of]; exact hsz'
    have s1 : ¬ (9223372036854775807 : Int) < (((BA (Lib.itoa saga)).size + (BA [47]).size : Nat) : Int) := by simp only [ba_size, List.length_cons, List.length_nil]; omega
    have s2 : ¬ (9223372036854775807 : Int) < (((BA (Lib.itoa saga ++ [47])).size + (BA s.data.toList).size : Nat) : Int) := by simp only [ba_size, List.length_append, List.length_cons, List.length_nil]; omega
    have s3 : ¬ (9223372036854775807 : Int) < (((BA (Lib.itoa saga ++ [47] ++ s.data.toList)).size + (BA [47, 117, 110, 100, 111]).size : Nat) : Int) := by simp only [ba_size, List.length_append, List.length_cons, List.length_nil]; omega
    have s4 : ¬ (9223372036854775807 : Int) < (((BA (Lib.itoa saga ++ [47] ++ s.data.toList)).size + (BA [47, 100, 111]).size : Nat) : Int) := by simp only [ba_size, List.length_append, List.length_cons, List.length_nil]; omega
    have hi' := fn_decimal hE saga (by omega) hs
    simp only [List.append_assoc, List.cons_append, List.nil_append] at s2 s3 s4
    generalize s.data.toList = L at hnm s2 s3 s4 ⊢
    subst hnm
    cases u
    · simp -implicitDefEqProofs only [go_sem, reduceIte, reduceCtorEq, Nat.reduceEqDiff, Nat.reduceAdd, Nat.reduceSub, Nat.reduceLT, Nat.reduceLeDiff, Nat.reduceBEq, Nat.reduceMul, Nat.reduceBNe, Int.reduceEq, Int.reduceLT, Int.reduceLE, Int.reduceNe, Int.reduceToNat, ir_usufructref13_Key, c1, len_sl, ias_sl, show (((1 : Nat) : Int) ≤ 0) = False from by simp, hi', e0, e1, e2, ba_app, List.append_assoc, s1, s2, s3, s4, wayL]
    · simp -implicitDefEqProofs only [go_sem, reduceIte, reduceCtorEq, Nat.reduceEqDiff, Nat.reduceAdd, Nat.reduceSub, Nat.reduceLT, Nat.reduceLeDiff, Nat.reduceBEq, Nat.reduceMul, Nat.reduceBNe, Int.reduceEq, Int.reduceLT, Int.reduceLE, Int.reduceNe, Int.reduceToNat, ir_usufructref13_Key, c1, len_sl, ias_sl, show (((1 : Nat) : Int) ≤ 0) = False from by simp, hi', e0, e1, e2, ba_app, List.append_assoc, s1, s2, s3, s4, wayL]
theorem q12r (a b c d e f g h i j k l : Value) : ross [[.v a, .v b, .v c, .v d, .v e, .v f, .v g, .v h, .v i, .v j, .v k, .v l]] = true := rfl
theorem q12b (a b c d e f g h i j k l : Value) (n : Nat) : belowss n [[.v a, .v b, .v c, .v d, .v e, .v f, .v g, .v h, .v i, .v j, .v k, .v l]] = true := rfl
theorem q12i (a b c d e f g h i j k l : Value) : idsss [[.v a, .v b, .v c, .v d, .v e, .v f, .v g, .v h, .v i, .v j, .v k, .v l]] = [] := rfl
theorem q12n (a b c d e f g h i j k l : Value) (ρ : Nat → Nat) : renss ρ [[.v a, .v b, .v c, .v d, .v e, .v f, .v g, .v h, .v i, .v j, .v k, .v l]] = [[.v a, .v b, .v c, .v d, .v e, .v f, .v g, .v h, .v i, .v j, .v k, .v l]] := rfl
/-- What is left of a step. -/
def net2 : Bool → Bool → Int
  | false, false => 0
  | true, false => 1
  | false, true => -1
  | true, true => 0
def netS (k : List ByteArray) (saga : Int) (s : ByteArray) : Int :=
  if labelGood s = false then 0 else net2 (hasK (BA (keyB saga s false)) k) (hasK (BA (keyB saga s true)) k)
theorem fn_Net (hE : Std E fns) (hv : VOK E) (hi : ITOK E) (w : Wd) (hm : w.ok) (saga : Int) (hs : saga ≤ 9223372036854775807) (s : ByteArray) (hsz : s.size ≤ 100) :
    callL E f_world_World_Net [.ref 0 0 0 0, vi saga, vs s] [] w.sto = some (vi (netS w.k saga s), w.sto) := by
  have hg := fn_labelGood hE hv s (by omega)
  have k1 := fn_key1 hE hi saga hs s hsz false
  have k2 := fn_key1 hE hi saga hs s hsz true
  have d1 := fn_Done hE w (BA (keyB saga s false))
  have d2 := fn_Done hE w (BA (keyB saga s true))
  rw [hE.runN rfl rfl]
  unfold netS
  unfold stC at k1 k2
  generalize BA (keyB saga s false) = A at k1 d1 ⊢
  generalize BA (keyB saga s true) = B at k2 d2 ⊢
  cases hl : labelGood s with
  | false =>
    rw [hl] at hg
    cases w <;> simp only [sto0, sto1, sto2, sto3, stom, rowC, rowR, rowK]
    · simp -implicitDefEqProofs only [go_sem, reduceIte, reduceCtorEq, Nat.reduceEqDiff, Nat.reduceAdd, Nat.reduceSub, Nat.reduceLT, Nat.reduceLeDiff, Nat.reduceBEq, Nat.reduceMul, Nat.reduceBNe, Int.reduceEq, Int.reduceLT, Int.reduceLE, Int.reduceNe, Int.reduceToNat, ir_world_World_Net, hg]
    · simp -implicitDefEqProofs only [go_sem, reduceIte, reduceCtorEq, Nat.reduceEqDiff, Nat.reduceAdd, Nat.reduceSub, Nat.reduceLT, Nat.reduceLeDiff, Nat.reduceBEq, Nat.reduceMul, Nat.reduceBNe, Int.reduceEq, Int.reduceLT, Int.reduceLE, Int.reduceNe, Int.reduceToNat, ir_world_World_Net, hg]
    · simp -implicitDefEqProofs only [go_sem, reduceIte, reduceCtorEq, Nat.reduceEqDiff, Nat.reduceAdd, Nat.reduceSub, Nat.reduceLT, Nat.reduceLeDiff, Nat.reduceBEq, Nat.reduceMul, Nat.reduceBNe, Int.reduceEq, Int.reduceLT, Int.reduceLE, Int.reduceNe, Int.reduceToNat, ir_world_World_Net, hg]
    · simp -implicitDefEqProofs only [go_sem, reduceIte, reduceCtorEq, Nat.reduceEqDiff, Nat.reduceAdd, Nat.reduceSub, Nat.reduceLT, Nat.reduceLeDiff, Nat.reduceBEq, Nat.reduceMul, Nat.reduceBNe, Int.reduceEq, Int.reduceLT, Int.reduceLE, Int.reduceNe, Int.reduceToNat, ir_world_World_Net, hg]
    · exact absurd rfl (hm _ _ _ _)
  | true =>
    rw [hl] at hg
    generalize hasK A w.k = a at d1 ⊢
    generalize hasK B w.k = b at d2 ⊢
    rw [if_neg (by simp)]
    cases w <;> simp only [sto0, sto1, sto2, sto3, stom, rowC, rowR, rowK] at d1 d2 ⊢
    · cases a <;> cases b <;> simp -implicitDefEqProofs only [go_sem, reduceIte, reduceCtorEq, Nat.reduceEqDiff, Nat.reduceAdd, Nat.reduceSub, Nat.reduceLT, Nat.reduceLeDiff, Nat.reduceBEq, Nat.reduceMul, Nat.reduceBNe, Int.reduceEq, Int.reduceLT, Int.reduceLE, Int.reduceNe, Int.reduceToNat, ir_world_World_Net, net2, hg, k1, k2, d1, d2, kmap_ids, kmap_ren, ro_cmd, ro_rep, ro_nm, q12r, q12b, q12i, q12n, show IntKind.i64.wrap (0 + 1) = 1 from rfl, show IntKind.i64.wrap (1 - 1) = 0 from rfl, show IntKind.i64.wrap (0 - 1) = -1 from rfl, show IntKind.i64.wrap 1 = 1 from rfl, show IntKind.i64.wrap 0 = 0 from rfl, show IntKind.i64.wrap (-1) = -1 from rfl]
    · cases a <;> cases b <;> simp -implicitDefEqProofs only [go_sem, reduceIte, reduceCtorEq, Nat.reduceEqDiff, Nat.reduceAdd, Nat.reduceSub, Nat.reduceLT, Nat.reduceLeDiff, Nat.reduceBEq, Nat.reduceMul, Nat.reduceBNe, Int.reduceEq, Int.reduceLT, Int.reduceLE, Int.reduceNe, Int.reduceToNat, ir_world_World_Net, net2, hg, k1, k2, d1, d2, kmap_ids, kmap_ren, ro_cmd, ro_rep, ro_nm, q12r, q12b, q12i, q12n, show IntKind.i64.wrap (0 + 1) = 1 from rfl, show IntKind.i64.wrap (1 - 1) = 0 from rfl, show IntKind.i64.wrap (0 - 1) = -1 from rfl, show IntKind.i64.wrap 1 = 1 from rfl, show IntKind.i64.wrap 0 = 0 from rfl, show IntKind.i64.wrap (-1) = -1 from rfl]
    · cases a <;> cases b <;> simp -implicitDefEqProofs only [go_sem, reduceIte, reduceCtorEq, Nat.reduceEqDiff, Nat.reduceAdd, Nat.reduceSub, Nat.reduceLT, Nat.reduceLeDiff, Nat.reduceBEq, Nat.reduceMul, Nat.reduceBNe, Int.reduceEq, Int.reduceLT, Int.reduceLE, Int.reduceNe, Int.reduceToNat, ir_world_World_Net, net2, hg, k1, k2, d1, d2, kmap_ids, kmap_ren, ro_cmd, ro_rep, ro_nm, q12r, q12b, q12i, q12n, show IntKind.i64.wrap (0 + 1) = 1 from rfl, show IntKind.i64.wrap (1 - 1) = 0 from rfl, show IntKind.i64.wrap (0 - 1) = -1 from rfl, show IntKind.i64.wrap 1 = 1 from rfl, show IntKind.i64.wrap 0 = 0 from rfl, show IntKind.i64.wrap (-1) = -1 from rfl]
    · cases a <;> cases b <;> simp -implicitDefEqProofs only [go_sem, reduceIte, reduceCtorEq, Nat.reduceEqDiff, Nat.reduceAdd, Nat.reduceSub, Nat.reduceLT, Nat.reduceLeDiff, Nat.reduceBEq, Nat.reduceMul, Nat.reduceBNe, Int.reduceEq, Int.reduceLT, Int.reduceLE, Int.reduceNe, Int.reduceToNat, ir_world_World_Net, net2, hg, k1, k2, d1, d2, kmap_ids, kmap_ren, ro_cmd, ro_rep, ro_nm, q12r, q12b, q12i, q12n, show IntKind.i64.wrap (0 + 1) = 1 from rfl, show IntKind.i64.wrap (1 - 1) = 0 from rfl, show IntKind.i64.wrap (0 - 1) = -1 from rfl, show IntKind.i64.wrap 1 = 1 from rfl, show IntKind.i64.wrap 0 = 0 from rfl, show IntKind.i64.wrap (-1) = -1 from rfl]
    · exact absurd rfl (hm _ _ _ _)
theorem parts_two (x y : List UInt8) : 2 ≤ (parts (x ++ 47 :: y)).length := by
  by_cases h : 47 ∈ x
  · obtain ⟨a, b, rfl, ha⟩ := List.eq_append_cons_of_mem h
    rw [List.append_assoc, List.cons_append, parts_app _ _ ha]
    have := List.length_pos_iff.2 (parts_ne (b ++ 47 :: y))
    simp only [List.length_cons]
    omega
  · rw [parts_app _ _ h]
    have := List.length_pos_iff.2 (parts_ne y)
    simp only [List.length_cons]
    omega
theorem itoa_no {n : Int} (h : 0 ≤ n) : 47 ∉ Lib.itoa n := by
  obtain ⟨u, rfl⟩ := Int.eq_ofNat_of_zero_le h
  have e : Lib.itoa (u : Int) = Lib.decDigits u := by unfold Lib.itoa; rw [if_neg (by omega), Int.toNat_natCast]
  rw [e, Lib.decDigits_eq]
  intro hm
  obtain ⟨t, _, h2⟩ := List.mem_map.1 hm
  unfold Lib.dg at h2
  have h3 := congrArg UInt8.toNat h2
  rw [UInt8.toNat_ofNat'] at h3
  have h4 : (47 : UInt8).toNat = 47 := rfl
  rw [h4] at h3
  omega
theorem cut_key {saga : Int} {s : ByteArray} {u : Bool} (h : (cutS (keyB saga s u)).isSome = true) : labelGood s = true := by
  unfold keyB at h
  split at h
  · have : cutS [] = none := by unfold cutS; rw [parts_none [] (by simp)]
    rw [this] at h; cases h
  · rename_i c
    unfold cutS at h
    rw [parts_app _ _ (itoa_no (by omega))] at h
    by_cases hm : 47 ∈ s.data.toList
    · obtain ⟨x, y, e, hx⟩ := List.eq_append_cons_of_mem hm
      rw [e, List.append_assoc, List.cons_append, parts_app _ _ hx] at h
      have h2 := parts_two y (wayL u)
      generalize parts (y ++ 47 :: wayL u) = q at h h2
      match q, h2 with
      | a :: b :: q, _ => cases h
    · rw [parts_app _ _ hm, parts_none _ (wayL_no u)] at h
      dsimp only at h
      unfold cut3 at h
      split at h
      · rename_i q
        rw [ba_of] at q
        exact q.1
      · cases h
def KG (k : List ByteArray) : Prop := ∀ s, s ∈ k → (cutS s.data.toList).isSome = true
theorem good_cut {x : CmdT} (h : goodC x = true) : (cutS x.key.data.toList).isSome = true := by
  unfold goodC at h
  cases hc : cutS x.key.data.toList with
  | none => rw [hc] at h; simp at h
  | some q => rfl
theorem keysD_kg {k : List ByteArray} {x : CmdT} {good : Bool} (h : KG k) (hx : goodC x = true) : KG (keysD k x good) := by
  rcases keysD_or k x good with e | ⟨_, e⟩
  · rw [e]; exact h
  · rw [e]
    intro s hs
    rcases List.mem_append.1 hs with hs | hs
    · exact h s hs
    · simp only [List.mem_singleton] at hs
      subst hs
      exact good_cut hx
theorem step_kg {w : Wd} {i : Nat} (hw : WInv w i) (h : KG w.k) (a : ActT) : KG (w.step a).k := by
  unfold Wd.step
  split
  · rw [(send_cont _ _).2.2]; exact h
  · split
    · cases hx : atI w.c a.n with
      | none => rw [deliver_no hx]; exact h
      | some x =>
        rw [(deliver_cont hw.ok hx _ _).2.2.2]
        obtain ⟨n, _, h2, _⟩ := atI_some hx
        exact keysD_kg h (hw.g x (List.mem_of_getElem? h2))
    · split
      · rw [(lose_cont hw.ok _).2.2.1]; exact h
      · split
        · rw [(reply_cont hw.ok _ _).2.2.1]; exact h
        · split
          · rw [(loseR_cont hw.ok _).2.2.1]; exact h
          · exact h
theorem key_no {k : List ByteArray} (h : KG k) {saga : Int} {s : ByteArray} (hl : labelGood s = false) (u : Bool) : hasK (BA (keyB saga s u)) k = false := by
  cases hk : hasK (BA (keyB saga s u)) k with
  | false => rfl
  | true =>
    have := h _ (hasK_iff.1 hk)
    rw [ba_data] at this
    rw [cut_key this] at hl
    cases hl
theorem key_neg {k : List ByteArray} (h : KG k) {saga : Int} {s : ByteArray} (hl : saga < 0) (u : Bool) : hasK (BA (keyB saga s u)) k = false := by
  cases hk : hasK (BA (keyB saga s u)) k with
  | false => rfl
  | true =>
    have := h _ (hasK_iff.1 hk)
    rw [ba_data] at this
    unfold keyB at this
    rw [if_pos hl] at this
    have e : cutS [] = none := by unfold cutS; rw [parts_none [] (by simp)]
    rw [e] at this
    cases this
structure XW where
  (c : Sl CmdT) (r : Sl RepT) (k : Sl ByteArray)
def XW.cells (x : XW) : List AV := [x.c.av 6 CmdT.cells, x.r.av 5 RepT.cells, x.k.av 1 nmC]
def td {α : Type} (l : List α) (n : Nat) : List α := l.take n ++ l.drop (n + 1)
theorem hasK_cons (s y : ByteArray) (r : List ByteArray) : hasK s (y :: r) = (decide (y = s) || hasK s r) := by
  rw [Bool.eq_iff_iff]
  simp only [hasK_iff, List.mem_cons, Bool.or_eq_true, decide_eq_true_eq]
  exact ⟨fun h => h.imp Eq.symm id, fun h => h.imp Eq.symm id⟩
theorem has_loop (x : XW) (hx : x.k.list.length ≤ 100000) (s : ByteArray) {L : Env × Store → Option (Sig × Env × Store)}
    (hL : ∀ e st, L (e, st) = (IR.runL E.glob (callL E) [] ir_usufructref21_Has_L0 e st).bind (seqK fun e st => L (compact [] 1 [1, 2, 5] e st))) :
    ∀ (rest : List ByteArray) (i : Nat), x.k.list.drop i = rest → i ≤ x.k.list.length →
    L ([(1, vs s), (2, .ref 0 0 0 0), (5, vi i)], [.box x.cells]) = if hasK s rest = true then some (.ret, [(4, vb true)], [.box x.cells]) else some (.exit 0, [], [.box x.cells])
  | [], i, h, hi => by
    have h1 := drop_nil' h hi
    rw [hL]
    simp only [XW.cells]
    simp -implicitDefEqProofs only [go_sem, reduceIte, reduceCtorEq, Nat.reduceEqDiff, Nat.reduceAdd, Nat.reduceSub, Nat.reduceLT, Nat.reduceLeDiff, Nat.reduceBEq, Nat.reduceMul, Nat.reduceBNe, Int.reduceEq, Int.reduceLT, Int.reduceLE, Int.reduceNe, Int.reduceToNat, ir_usufructref21_Has_L0, h1, hasK_nil, ro_cmd, ro_rep, ro_nm]
  | y :: rest, i, h, hi => by
    obtain ⟨h1, h2, h3, h4, h5⟩ := drop_cons h
    have h6 := wrap_succ (i := i) (by omega)
    have ih := has_loop x hx s hL rest (i + 1) h2 h4
    rw [hL, hasK_cons]
    simp only [XW.cells] at ih ⊢
    by_cases c : y = s
    · simp -implicitDefEqProofs only [go_sem, reduceIte, reduceCtorEq, Nat.reduceEqDiff, Nat.reduceAdd, Nat.reduceSub, Nat.reduceLT, Nat.reduceLeDiff, Nat.reduceBEq, Nat.reduceMul, Nat.reduceBNe, Int.reduceEq, Int.reduceLT, Int.reduceLE, Int.reduceNe, Int.reduceToNat, ir_usufructref21_Has_L0, h1, h3, h6, nmC, c, ih, ro_cmd, ro_rep, ro_nm]
    · simp -implicitDefEqProofs only [go_sem, reduceIte, reduceCtorEq, Nat.reduceEqDiff, Nat.reduceAdd, Nat.reduceSub, Nat.reduceLT, Nat.reduceLeDiff, Nat.reduceBEq, Nat.reduceMul, Nat.reduceBNe, Int.reduceEq, Int.reduceLT, Int.reduceLE, Int.reduceNe, Int.reduceToNat, ir_usufructref21_Has_L0, h1, h3, h6, nmC, c, ih, ro_cmd, ro_rep, ro_nm]
theorem fn_Has (hE : Std E fns) (x : XW) (hx : x.k.list.length ≤ 100000) (s : ByteArray) : callP E f_usufructref21_Has [.agg x.cells, vs s] = some (vb (hasK s x.k.list)) := by
  have h := has_loop x hx s (loopL_eq (IR.runL E.glob (callL E) [] ir_usufructref21_Has_L0) (compact [] 1 [1, 2, 5])) x.k.list 0 rfl (Nat.zero_le _)
  rw [hE.run rfl rfl]
  cases hb : hasK s x.k.list with
  | true =>
    rw [hb, if_pos rfl] at h
    simp only [XW.cells, Int.natCast_zero] at h ⊢
    simp -implicitDefEqProofs only [go_sem, reduceIte, reduceCtorEq, Nat.reduceEqDiff, Nat.reduceAdd, Nat.reduceSub, Nat.reduceLT, Nat.reduceLeDiff, Nat.reduceBEq, Nat.reduceMul, Nat.reduceBNe, Int.reduceEq, Int.reduceLT, Int.reduceLE, Int.reduceNe, Int.reduceToNat, ir_usufructref21_Has, h, ro_cmd, ro_rep, ro_nm]
  | false =>
    rw [hb, if_neg (by simp)] at h
    simp only [XW.cells, Int.natCast_zero] at h ⊢
    simp -implicitDefEqProofs only [go_sem, reduceIte, reduceCtorEq, Nat.reduceEqDiff, Nat.reduceAdd, Nat.reduceSub, Nat.reduceLT, Nat.reduceLeDiff, Nat.reduceBEq, Nat.reduceMul, Nat.reduceBNe, Int.reduceEq, Int.reduceLT, Int.reduceLE, Int.reduceNe, Int.reduceToNat, ir_usufructref21_Has, h, ro_cmd, ro_rep, ro_nm]
theorem fn_drop (hE : Std E fns) (l : List CmdT) (n : Nat) (h : n < l.length) (hb : l.length ≤ 100000) : callP E f_usufructref21_drop [(Sl.mk l).av 6 CmdT.cells, vi n] = some ((Sl.mk (td l n)).av 6 CmdT.cells) := by
  have h6 := wrap_succ (i := n) (by omega)
  have c1 : (n : Int) ≤ (l.length : Int) := by omega
  have c2 : ((n + 1 : Nat) : Int) ≤ (l.length : Int) := by omega
  have e1 : (Sl.mk l).sub 0 n = .mk (l.take n) := by simp [Sl.sub]
  have e2 : (Sl.mk l).sub (n + 1) l.length = .mk (l.drop (n + 1)) := by
    have : (l.drop (n + 1)).take (l.length - (n + 1)) = l.drop (n + 1) := List.take_of_length_le (by rw [List.length_drop]; omega)
    simp [Sl.sub, this]
  have g1 : (l.take n).length * 64 ≤ 140737488355328 := by rw [List.length_take]; omega
  have g2 : ((l.take n).length + (l.drop (n + 1)).length) * 64 ≤ 140737488355328 := by rw [List.length_take, List.length_drop]; omega
  have c0 : (0 : Int) ≤ (n : Int) := by omega
  rw [hE.run rfl rfl]
  unfold td
  have el : (Sl.mk l).list = l := rfl
  generalize Sl.mk l = s at e1 e2 el ⊢
  simp -implicitDefEqProofs only [go_sem, reduceIte, reduceCtorEq, Nat.reduceEqDiff, Nat.reduceAdd, Nat.reduceSub, Nat.reduceLT, Nat.reduceLeDiff, Nat.reduceBEq, Nat.reduceMul, Nat.reduceBNe, Int.reduceEq, Int.reduceLT, Int.reduceLE, Int.reduceNe, Int.reduceToNat, ir_usufructref21_drop, h6, c0, c1, c2, el, e1, e2, g1, g2, ro_cmd, all_cmd, av_mk, List.length_map]
  have ht : List.take ((l.take n).length + (l.drop (n + 1)).length) ((l.take n).map CmdT.cells ++ (l.drop (n + 1)).map CmdT.cells) = (l.take n).map CmdT.cells ++ (l.drop (n + 1)).map CmdT.cells := List.take_of_length_le (by simp)
  rw [ht]
  cases s <;> simp [Sl.av]
end Go.Proofs.YtbpndomfipdhdaaDoor.Ev
