/-
  A store's small methods: Down, Crash, Fuse, Free, Names, the deeds' counter, finding.
-/
import Derived.Test.YtaodpgpepmlfbaaDoorEvSt1
import Derived.Test.YtaodpgpepmlfbaaDoorEvIR
import Derived.Test.YtaodpgpepmlfbaaDoorEvUtf3
set_option linter.unusedVariables false
set_option linter.unusedSimpArgs false
namespace Go.Proofs.YtaodpgpepmlfbaaDoor.Ev
attribute [local congr] bind_congr_head
attribute [local go_sem] opd_t opd_c opd_g opd_f opds_nil opds_cons get_cons put_some put_none keep_nil keepC_s keepC_n keep_cons runs_nil runs_cons run_op run_opr run_call run_gand run_gor run_gif seqK_norm seqK_exit seqK_ret blkK_norm blkK_exit blkK_ret runL_skip runL_exit runL_ret runL_items runL_seq runL_cond runL_block runL_loop fin_bind finK_norm finK_ret rvs_nil rvs_cons rv_tmp rv_cell tupOf_one tupOf_nil tupOf_two ev_mov ev_pick ev_alloc ev_box ev_build parts_nil parts_cons fills_nil fills_cons ev_bsl ev_bslo ev_load ev_store ev_nilck ev_bin ev_binb ev_aeq ev_un ev_i2i ev_i2t ev_isnilI nilIF ev_s2b ev_ext ev_fld ev_idxs ev_fa ev_ias ev_len ev_lens ev_s2s ev_mkf ev_rng ev_nxt ev_app bOf_s pvOf_s agOf_s tpOf_s iOf_s sOf_s ite_bind Option.bind_some Option.bind_none if_true if_false ite_true ite_false argEnv_nil argEnv_cons len_av elems_av ias_av cells_av tuple_av AV.tuple AV.cells faF ldAt liveRef aggOf nilckF binV binI binS binB unV Bool.not_true Bool.not_false List.length_nil List.length_cons List.nil_append List.cons_append List.append_nil List.getElem?_cons_zero List.getElem?_cons_succ List.drop_zero List.drop_succ_cons List.drop_nil List.take_zero List.take_succ_cons List.take_nil List.set_cons_zero List.set_cons_succ compact_same compact_new closedB nodupB envIds ids0 upto visit pos sel AV.ids idss idsss Ob.ids AV.ren rens renss Ob.ren renEnv AV.snap snaps stAt okSt putCells List.all_nil List.all_cons List.contains_nil List.contains_cons Bool.and_true Bool.true_and Bool.and_false Bool.false_and Bool.or_true Bool.true_or Bool.or_false Bool.false_or decide_eq_true_eq decide_true decide_false beq_iff_eq bne_iff_ne beq_self_eq_true Bool.not_eq_true' Bool.false_eq_true eq_self and_self and_true true_and and_false false_and or_true true_or or_false false_or not_true_eq_false not_false_eq_true ne_eq Nat.zero_add Nat.add_zero Nat.le_refl Nat.not_lt_zero Nat.lt_irrefl Nat.zero_le Int.toNat_natCast gt_iff_lt ge_iff_le Int.lt_irrefl Int.natCast_nonneg txt_eq get_nil appF elems belows AV.under AV.flat flats List.length_map List.map_append List.map_cons List.map_nil List.length_append take_map_all List.flatten_cons List.flatten_nil bld_nil imp_false false_imp_iff false_implies true_implies implies_true decide_eq_false_iff_not Nat.one_mul Nat.mul_one idsss_app renss_app belowss_app ev_mn ev_mx ev_isnils ev_sls ev_slx evo_none evo_some vals minV maxV minF maxF backId List.getElem?_nil putAll Option.all_none Option.all_some Option.isSome_some intOf aszI compactV_same compactV_new callP_any callQ_eq callN_any boxQ AV.id? ids_avR ren_av under_av snap_av renss_mapf belowss_mapf idsss_mapf isnilsF List.length_eq_zero_iff int_beq int_bne decide_not slx_av Int.toNat_zero ev_mkm ev_lk ev_mup ev_mdl ev_lenm ev_isnilm mpOf_s mapAt_s mapOf_nil mapOf_mp isnilm_nil isnilm_mp lkR Option.getD_some Option.getD_none Option.isSome_none Prim.rdo ev_snp snp_own snp_v
def sto (cap fuse : Int) (down : Bool) (l : List FX) : Store := [.box [vi cap, .mp 1, vb down, vi fuse], .map (mapF l)]
theorem mapF_ids (l : List FX) : ((mapF l).map fun p => p.2.ids).flatten = [] := by
  unfold mapF
  rw [List.map_map, List.flatten_eq_nil_iff]
  intro x hx
  obtain ⟨f, _, rfl⟩ := List.mem_map.1 hx
  rfl
theorem mapF_ren (ρ : Nat → Nat) (l : List FX) : ((mapF l).map fun p => (p.1, p.2.ren ρ)) = mapF l := by
  unfold mapF
  rw [List.map_map]
  exact List.map_congr_left fun f _ => rfl
theorem mapF_len (l : List FX) : (mapF l).length = l.length := by simp [mapF]
theorem mapF_nil : mapF [] = [] := rfl
theorem mapF_nil' : ([] : List (Value × AV)) = mapF [] := rfl
variable {E : Prog}
theorem fn_down (hE : Std E fns) (cap fuse : Int) (down : Bool) (l : List FX) : callL E f_store_Store_Down [.ref 0 0 0 0] [] (sto cap fuse down l) = some (vb down, sto cap fuse down l) := by
  rw [hE.runN rfl rfl]
  simp -implicitDefEqProofs only [go_sem, reduceIte, reduceCtorEq, Nat.reduceEqDiff, Nat.reduceAdd, Nat.reduceSub, Nat.reduceLT, Nat.reduceLeDiff, Nat.reduceBEq, Nat.reduceMul, Nat.reduceBNe, Int.reduceEq, Int.reduceLT, Int.reduceLE, Int.reduceNe, Int.reduceToNat, ir_store_Store_Down, sto]
theorem fn_crash (hE : Std E fns) (cap fuse : Int) (down : Bool) (l : List FX) : callL E f_store_Store_Crash [.ref 0 0 0 0] [] (sto cap fuse down l) = some (.tup [], sto cap 0 true l) := by
  rw [hE.runN rfl rfl]
  simp -implicitDefEqProofs only [go_sem, reduceIte, reduceCtorEq, Nat.reduceEqDiff, Nat.reduceAdd, Nat.reduceSub, Nat.reduceLT, Nat.reduceLeDiff, Nat.reduceBEq, Nat.reduceMul, Nat.reduceBNe, Int.reduceEq, Int.reduceLT, Int.reduceLE, Int.reduceNe, Int.reduceToNat, ir_store_Store_Crash, sto]
/-- Nothing below 0. -/
def mx0 (n : Int) : Int := if n < 0 then 0 else n
theorem fn_fuse (hE : Std E fns) (cap fuse n : Int) (down : Bool) (l : List FX) : callL E f_store_Store_Fuse [.ref 0 0 0 0, vi n] [] (sto cap fuse down l) = some (.tup [], sto cap (mx0 n) down l) := by
  rw [hE.runN rfl rfl]
  simp -implicitDefEqProofs only [go_sem, reduceIte, reduceCtorEq, Nat.reduceEqDiff, Nat.reduceAdd, Nat.reduceSub, Nat.reduceLT, Nat.reduceLeDiff, Nat.reduceBEq, Nat.reduceMul, Nat.reduceBNe, Int.reduceEq, Int.reduceLT, Int.reduceLE, Int.reduceNe, Int.reduceToNat, ir_store_Store_Fuse, sto, mx0]
/-- The deeds' counter: whether the power goes, and what is left. -/
def burnt (fuse : Int) : Bool := !decide (fuse = 0) && decide (fuse - 1 = 0)
def fuseD (fuse : Int) : Int := if fuse = 0 then 0 else fuse - 1
def downD (fuse : Int) (down : Bool) : Bool := if fuse = 0 then down else decide (fuse - 1 = 0)
theorem fn_burns (hE : Std E fns) (cap fuse : Int) (down : Bool) (l : List FX) (hf : 0 ≤ fuse ∧ fuse ≤ 9223372036854775807) :
    callL E f_store_Store_burns [.ref 0 0 0 0] [] (sto cap fuse down l) = some (vb (burnt fuse), sto cap (fuseD fuse) (downD fuse down) l) := by
  have hw : IntKind.i64.wrap (fuse - 1) = fuse - 1 := by rw [IntKind.wrap_i64]; omega
  rw [hE.runN rfl rfl]
  by_cases h : fuse = 0
  · subst h
    simp -implicitDefEqProofs only [go_sem, reduceIte, reduceCtorEq, Nat.reduceEqDiff, Nat.reduceAdd, Nat.reduceSub, Nat.reduceLT, Nat.reduceLeDiff, Nat.reduceBEq, Nat.reduceMul, Nat.reduceBNe, Int.reduceEq, Int.reduceLT, Int.reduceLE, Int.reduceNe, Int.reduceToNat, ir_store_Store_burns, sto, burnt, fuseD, downD]
  · simp -implicitDefEqProofs only [go_sem, reduceIte, reduceCtorEq, Nat.reduceEqDiff, Nat.reduceAdd, Nat.reduceSub, Nat.reduceLT, Nat.reduceLeDiff, Nat.reduceBEq, Nat.reduceMul, Nat.reduceBNe, Int.reduceEq, Int.reduceLT, Int.reduceLE, Int.reduceNe, Int.reduceToNat, ir_store_Store_burns, sto, burnt, fuseD, downD, h, hw]
/-- A file that is there, and an error's number. -/
def findS (l : List FX) (down : Bool) (n : ByteArray) : AV :=
  if down = true then .tup [.agg [vs ⟨#[]⟩, vi 0, vb false], vi 12] else match fndF n l with
    | none => .tup [.agg [vs ⟨#[]⟩, vi 0, vb false], vi 7]
    | some f => .tup [f.val, vi 0]
theorem fn_find (hE : Std E fns) (cap fuse : Int) (down : Bool) (l : List FX) (n : ByteArray) :
    callL E f_store_Store_find [.ref 0 0 0 0, vs n] [] (sto cap fuse down l) = some (findS l down n, sto cap fuse down l) := by
  rw [hE.runN rfl rfl]
  cases down with
  | true => cases h : fndF n l with
    | none => simp -implicitDefEqProofs only [go_sem, reduceIte, reduceCtorEq, Nat.reduceEqDiff, Nat.reduceAdd, Nat.reduceSub, Nat.reduceLT, Nat.reduceLeDiff, Nat.reduceBEq, Nat.reduceMul, Nat.reduceBNe, Int.reduceEq, Int.reduceLT, Int.reduceLE, Int.reduceNe, Int.reduceToNat, ir_store_Store_find, sto, findS, mfind_F, mapF_ids, mapF_ren, h, Option.map_none]
    | some f => simp -implicitDefEqProofs only [go_sem, reduceIte, reduceCtorEq, Nat.reduceEqDiff, Nat.reduceAdd, Nat.reduceSub, Nat.reduceLT, Nat.reduceLeDiff, Nat.reduceBEq, Nat.reduceMul, Nat.reduceBNe, Int.reduceEq, Int.reduceLT, Int.reduceLE, Int.reduceNe, Int.reduceToNat, ir_store_Store_find, sto, findS, mfind_F, mapF_ids, mapF_ren, h, Option.map_some, FX.val]
  | false => cases h : fndF n l with
    | none => simp -implicitDefEqProofs only [go_sem, reduceIte, reduceCtorEq, Nat.reduceEqDiff, Nat.reduceAdd, Nat.reduceSub, Nat.reduceLT, Nat.reduceLeDiff, Nat.reduceBEq, Nat.reduceMul, Nat.reduceBNe, Int.reduceEq, Int.reduceLT, Int.reduceLE, Int.reduceNe, Int.reduceToNat, ir_store_Store_find, sto, findS, mfind_F, mapF_ids, mapF_ren, h, Option.map_none]
    | some f => simp -implicitDefEqProofs only [go_sem, reduceIte, reduceCtorEq, Nat.reduceEqDiff, Nat.reduceAdd, Nat.reduceSub, Nat.reduceLT, Nat.reduceLeDiff, Nat.reduceBEq, Nat.reduceMul, Nat.reduceBNe, Int.reduceEq, Int.reduceLT, Int.reduceLE, Int.reduceNe, Int.reduceToNat, ir_store_Store_find, sto, findS, mfind_F, mapF_ids, mapF_ren, h, Option.map_some, FX.val]
structure SOK (E : Prog) : Prop where
  free : E.prim f_store_Store_free = some pFree
  names : E.prim f_store_Store_names = some pNames
theorem fn_free (hS : SOK E) (cap fuse : Int) (down : Bool) (l : List FX) (h : 0 ≤ cap ∧ cap ≤ 4611686018427387904 ∧ (totF l : Int) ≤ cap) :
    callL E f_store_Store_free [.ref 0 0 0 0] [] (sto cap fuse down l) = some (vi (cap - totF l), sto cap fuse down l) := by
  rw [call_prim hS.free]
  simp only [pFree, sto, List.getElem?_cons_zero, List.getElem?_cons_succ, filesOf_map, h, and_self, if_true]
theorem fn_names (hS : SOK E) (cap fuse : Int) (down : Bool) (l : List FX) (h : l.length ≤ 100000) (h2 : ∀ f, f ∈ l → f.n.size ≤ 100000) :
    callL E f_store_Store_names [.ref 0 0 0 0] [] (sto cap fuse down l) = some ((slOf (sortN (l.map FX.n))).av 1 nmC, sto cap fuse down l) := by
  have h3 : (l.all fun f => decide (f.n.size ≤ 100000)) = true := List.all_eq_true.2 fun f hf => decide_eq_true (h2 f hf)
  rw [call_prim hS.names]
  simp only [pNames, sto, List.getElem?_cons_zero, List.getElem?_cons_succ, filesOf_map, h, h3, and_self, if_true]
theorem fn_Free (hE : Std E fns) (hS : SOK E) (cap fuse : Int) (down : Bool) (l : List FX) (h : 0 ≤ cap ∧ cap ≤ 4611686018427387904 ∧ (totF l : Int) ≤ cap) :
    callL E f_store_Store_Free [.ref 0 0 0 0] [] (sto cap fuse down l) = some (if down = true then vi 0 else vi (cap - totF l), sto cap fuse down l) := by
  have h1 := fn_free hS cap fuse down l h
  rw [hE.runN rfl rfl]
  cases down with
  | true => simp -implicitDefEqProofs only [go_sem, reduceIte, reduceCtorEq, Nat.reduceEqDiff, Nat.reduceAdd, Nat.reduceSub, Nat.reduceLT, Nat.reduceLeDiff, Nat.reduceBEq, Nat.reduceMul, Nat.reduceBNe, Int.reduceEq, Int.reduceLT, Int.reduceLE, Int.reduceNe, Int.reduceToNat, ir_store_Store_Free, sto]
  | false =>
    simp only [sto] at h1
    simp -implicitDefEqProofs only [go_sem, reduceIte, reduceCtorEq, Nat.reduceEqDiff, Nat.reduceAdd, Nat.reduceSub, Nat.reduceLT, Nat.reduceLeDiff, Nat.reduceBEq, Nat.reduceMul, Nat.reduceBNe, Int.reduceEq, Int.reduceLT, Int.reduceLE, Int.reduceNe, Int.reduceToNat, ir_store_Store_Free, sto, h1, mapF_ids, mapF_ren]
theorem fn_Names (hE : Std E fns) (hS : SOK E) (cap fuse : Int) (down : Bool) (l : List FX) (h : l.length ≤ 100000) (h2 : ∀ f, f ∈ l → f.n.size ≤ 100000) :
    callL E f_store_Store_Names [.ref 0 0 0 0] [] (sto cap fuse down l) = some (if down = true then .v (.slice none 0 0) else (slOf (sortN (l.map FX.n))).av 1 nmC, sto cap fuse down l) := by
  have h1 := fn_names hS cap fuse down l h h2
  rw [hE.runN rfl rfl]
  cases down with
  | true => simp -implicitDefEqProofs only [go_sem, reduceIte, reduceCtorEq, Nat.reduceEqDiff, Nat.reduceAdd, Nat.reduceSub, Nat.reduceLT, Nat.reduceLeDiff, Nat.reduceBEq, Nat.reduceMul, Nat.reduceBNe, Int.reduceEq, Int.reduceLT, Int.reduceLE, Int.reduceNe, Int.reduceToNat, ir_store_Store_Names, sto]
  | false =>
    simp only [sto] at h1
    simp -implicitDefEqProofs only [go_sem, reduceIte, reduceCtorEq, Nat.reduceEqDiff, Nat.reduceAdd, Nat.reduceSub, Nat.reduceLT, Nat.reduceLeDiff, Nat.reduceBEq, Nat.reduceMul, Nat.reduceBNe, Int.reduceEq, Int.reduceLT, Int.reduceLE, Int.reduceNe, Int.reduceToNat, ir_store_Store_Names, sto, h1, mapF_ids, mapF_ren, ro_nm]
end Go.Proofs.YtaodpgpepmlfbaaDoor.Ev
