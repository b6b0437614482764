/-
  A store's power back: what is left of each file, by the files' names.
-/
import Derived.Test.YtaodpgpepmlfbaaDoorEvSt3
set_option linter.unusedVariables false
set_option linter.unusedSimpArgs false
namespace Go.Proofs.YtaodpgpepmlfbaaDoor.Ev
attribute [local congr] bind_congr_head
attribute [local go_sem] opd_t opd_c opd_g opd_f opds_nil opds_cons get_cons put_some put_none keep_nil keepC_s keepC_n keep_cons runs_nil runs_cons run_op run_opr run_call run_gand run_gor run_gif seqK_norm seqK_exit seqK_ret blkK_norm blkK_exit blkK_ret runL_skip runL_exit runL_ret runL_items runL_seq runL_cond runL_block runL_loop fin_bind finK_norm finK_ret rvs_nil rvs_cons rv_tmp rv_cell tupOf_one tupOf_nil tupOf_two ev_mov ev_pick ev_alloc ev_box ev_build parts_nil parts_cons fills_nil fills_cons ev_bsl ev_bslo ev_load ev_store ev_nilck ev_bin ev_binb ev_aeq ev_un ev_i2i ev_i2t ev_isnilI nilIF ev_s2b ev_ext ev_fld ev_idxs ev_fa ev_ias ev_len ev_lens ev_s2s ev_mkf ev_rng ev_nxt ev_app bOf_s pvOf_s agOf_s tpOf_s iOf_s sOf_s ite_bind Option.bind_some Option.bind_none if_true if_false ite_true ite_false argEnv_nil argEnv_cons len_av elems_av ias_av cells_av tuple_av AV.tuple AV.cells faF ldAt liveRef aggOf nilckF binV binI binS binB unV Bool.not_true Bool.not_false List.length_nil List.length_cons List.nil_append List.cons_append List.append_nil List.getElem?_cons_zero List.getElem?_cons_succ List.drop_zero List.drop_succ_cons List.drop_nil List.take_zero List.take_succ_cons List.take_nil List.set_cons_zero List.set_cons_succ compact_same compact_new closedB nodupB envIds ids0 upto visit pos sel AV.ids idss idsss Ob.ids AV.ren rens renss Ob.ren renEnv AV.snap snaps stAt okSt putCells List.all_nil List.all_cons List.contains_nil List.contains_cons Bool.and_true Bool.true_and Bool.and_false Bool.false_and Bool.or_true Bool.true_or Bool.or_false Bool.false_or decide_eq_true_eq decide_true decide_false beq_iff_eq bne_iff_ne beq_self_eq_true Bool.not_eq_true' Bool.false_eq_true eq_self and_self and_true true_and and_false false_and or_true true_or or_false false_or not_true_eq_false not_false_eq_true ne_eq Nat.zero_add Nat.add_zero Nat.le_refl Nat.not_lt_zero Nat.lt_irrefl Nat.zero_le Int.toNat_natCast gt_iff_lt ge_iff_le Int.lt_irrefl Int.natCast_nonneg txt_eq get_nil appF elems belows AV.under AV.flat flats List.length_map List.map_append List.map_cons List.map_nil List.length_append take_map_all List.flatten_cons List.flatten_nil bld_nil imp_false false_imp_iff false_implies true_implies implies_true decide_eq_false_iff_not Nat.one_mul Nat.mul_one idsss_app renss_app belowss_app ev_mn ev_mx ev_isnils ev_sls ev_slx evo_none evo_some vals minV maxV minF maxF backId List.getElem?_nil putAll Option.all_none Option.all_some Option.isSome_some intOf aszI compactV_same compactV_new callP_any callQ_eq callN_any boxQ AV.id? ids_avR ren_av under_av snap_av renss_mapf belowss_mapf idsss_mapf isnilsF List.length_eq_zero_iff int_beq int_bne decide_not slx_av Int.toNat_zero ev_mkm ev_lk ev_mup ev_mdl ev_lenm ev_isnilm mpOf_s mapAt_s mapOf_nil mapOf_mp isnilm_nil isnilm_mp lkR Option.getD_some Option.getD_none Option.isSome_none Prim.rdo ev_snp snp_own snp_v
def inC (n : Int) : List AV := [vi n]
theorem ro_in : Ro inC := fun _ => rfl
def kp (keep : List Int) (i : Nat) : Int := (keep[i]?).getD 0
def leftF (f : FX) (k : Int) : FX := ⟨f.n, f.b.extract 0 (leftN f k).toNat, leftN f k, true⟩
def stayF (f : FX) (k : Int) : Bool := f.sy || decide (0 < leftN f k)
def stepB (l : List FX) (n : ByteArray) (k : Int) : List FX := match fndF n l with
  | none => l
  | some f => if stayF f k = true then putL ⟨n, f.b.extract 0 (leftN f k).toNat, leftN f k, true⟩ l else delL n l
def bootL (keep : List Int) : List ByteArray → Nat → List FX → List FX
  | [], _, l => l
  | n :: r, i, l => bootL keep r (i + 1) (stepB l n (kp keep i))
def okB (keep : List Int) : List ByteArray → Nat → List FX → Prop
  | [], _, _ => True
  | n :: r, i, l => (∃ f, fndF n l = some f ∧ (0 ≤ f.sf ∧ f.sf ≤ f.b.size) ∧ f.b.size ≤ 4611686018427387904) ∧ okB keep r (i + 1) (stepB l n (kp keep i))
variable {E : Prog}
theorem boot_loop (hE : Std E fns) {L : Env × Store → Option (Sig × Env × Store)} (cap fuse : Int) (keep : Sl Int) (ns : Sl ByteArray) (hn : ns.list.length ≤ 100000) (hk : keep.list.length ≤ 100000)
    (hL : ∀ e st, L (e, st) = (IR.runL E.glob (callL E) [] ir_store_Store_Boot_L0 e st).bind (seqK fun e st => L (compact [] 2 [0, 1, 16, 17, 18] e st))) :
    ∀ (rest : List ByteArray) (i : Nat) (l : List FX), ns.list.drop i = rest → i ≤ ns.list.length → okB keep.list rest i l →
    L ([(0, .ref 0 0 0 0), (1, keep.av 1 inC), (16, ns.av 1 nmC), (17, vi ns.list.length), (18, vi i)], sto cap fuse true l) =
      some (.exit 0, [(0, .ref 0 0 0 0)], sto cap fuse true (bootL keep.list rest i l))
  | [], i, l, h, hi, ho => by
    have h1 := drop_nil' h hi
    rw [hL]
    simp -implicitDefEqProofs only [go_sem, reduceIte, reduceCtorEq, Nat.reduceEqDiff, Nat.reduceAdd, Nat.reduceSub, Nat.reduceLT, Nat.reduceLeDiff, Nat.reduceBEq, Nat.reduceMul, Nat.reduceBNe, Int.reduceEq, Int.reduceLT, Int.reduceLE, Int.reduceNe, Int.reduceToNat, ir_store_Store_Boot_L0, h1, bootL, sto]
  | n :: rest, i, l, h, hi, ho => by
    obtain ⟨h1, h2, h3, h4, h5⟩ := drop_cons h
    have h6 := wrap_succ (i := i) (by omega)
    obtain ⟨⟨f, hf, hw, hb⟩, ho2⟩ := ho
    have ih := boot_loop hE cap fuse keep ns hn hk hL rest (i + 1) _ h2 h4 ho2
    have hk1 : kp keep.list i = if h : i < keep.list.length then keep.list[i] else 0 := by
      unfold kp
      split
      · rename_i q; rw [List.getElem?_eq_getElem q]; rfl
      · rename_i q; rw [List.getElem?_eq_none (by omega)]; rfl
    have hl := fn_left hE f (kp keep.list i) hw hb
    simp only [FX.val] at hl
    rw [hL]
    simp only [sto] at ih ⊢
    unfold bootL
    by_cases c : i < keep.list.length
    · have c' : (i : Int) < (keep.list.length : Int) := by omega
      have hg : keep.list[i]? = some (kp keep.list i) := by rw [hk1, dif_pos c, List.getElem?_eq_getElem c]
      cases hs : stayF f (kp keep.list i) <;>
        simp only [stayF] at hs <;>
        simp only [stepB, hf, stayF, hs, Bool.false_eq_true, if_true, if_false] at ih ⊢ <;>
        rw [hs] at hl <;>
        simp -implicitDefEqProofs only [go_sem, reduceIte, reduceCtorEq, Nat.reduceEqDiff, Nat.reduceAdd, Nat.reduceSub, Nat.reduceLT, Nat.reduceLeDiff, Nat.reduceBEq, Nat.reduceMul, Nat.reduceBNe, Int.reduceEq, Int.reduceLT, Int.reduceLE, Int.reduceNe, Int.reduceToNat, ir_store_Store_Boot_L0, h1, h3, h6, nmC, inC, ro_nm, ro_in, c', hg, mfind_F, hf, Option.map_some, FX.val, hl, mapF_ids, mapF_ren, mput_F', mdel_F, eqV_s, ih]
    · have c' : ¬ (i : Int) < (keep.list.length : Int) := by omega
      have hg : kp keep.list i = 0 := by rw [hk1, dif_neg c]
      cases hs : stayF f (kp keep.list i) <;>
        simp only [stayF] at hs <;>
        simp only [stepB, hf, stayF, hs, Bool.false_eq_true, if_true, if_false] at ih ⊢ <;>
        rw [hs] at hl <;> simp only [hg] at hl ih ⊢ <;>
        simp -implicitDefEqProofs only [go_sem, reduceIte, reduceCtorEq, Nat.reduceEqDiff, Nat.reduceAdd, Nat.reduceSub, Nat.reduceLT, Nat.reduceLeDiff, Nat.reduceBEq, Nat.reduceMul, Nat.reduceBNe, Int.reduceEq, Int.reduceLT, Int.reduceLE, Int.reduceNe, Int.reduceToNat, ir_store_Store_Boot_L0, h1, h3, h6, nmC, inC, ro_nm, ro_in, c', mfind_F, hf, Option.map_some, FX.val, hl, mapF_ids, mapF_ren, mput_F', mdel_F, eqV_s, ih]
theorem fn_boot (hE : Std E fns) (hS : SOK E) (cap fuse : Int) (down : Bool) (l : List FX) (keep : Sl Int) (hk : keep.list.length ≤ 100000) (hn : l.length ≤ 100000) (hm : ∀ f, f ∈ l → f.n.size ≤ 100000) (ho : okB keep.list (sortN (l.map FX.n)) 0 l) :
    callL E f_store_Store_Boot [.ref 0 0 0 0, keep.av 1 inC] [] (sto cap fuse down l) = some (if down = true then (vi 0, sto cap fuse false (bootL keep.list (sortN (l.map FX.n)) 0 l)) else (vi 9, sto cap fuse down l)) := by
  have h1 := fn_names hS cap fuse down l hn hm
  rw [hE.runN rfl rfl]
  cases down with
  | false => simp -implicitDefEqProofs only [go_sem, reduceIte, reduceCtorEq, Nat.reduceEqDiff, Nat.reduceAdd, Nat.reduceSub, Nat.reduceLT, Nat.reduceLeDiff, Nat.reduceBEq, Nat.reduceMul, Nat.reduceBNe, Int.reduceEq, Int.reduceLT, Int.reduceLE, Int.reduceNe, Int.reduceToNat, ir_store_Store_Boot, sto]
  | true =>
    have hnl : (sortN (l.map FX.n)).length = l.length := by rw [(sortN_perm _).length_eq]; simp
    have hlp := boot_loop hE cap fuse keep (slOf (sortN (l.map FX.n))) (by rw [slOf_list]; omega) hk (loopL_eq (IR.runL E.glob (callL E) [] ir_store_Store_Boot_L0) (compact [] 2 [0, 1, 16, 17, 18])) (sortN (l.map FX.n)) 0 l (by rw [slOf_list]; rfl) (Nat.zero_le _) ho
    simp only [sto, Int.natCast_zero] at h1 hlp
    simp -implicitDefEqProofs only [go_sem, reduceIte, reduceCtorEq, Nat.reduceEqDiff, Nat.reduceAdd, Nat.reduceSub, Nat.reduceLT, Nat.reduceLeDiff, Nat.reduceBEq, Nat.reduceMul, Nat.reduceBNe, Int.reduceEq, Int.reduceLT, Int.reduceLE, Int.reduceNe, Int.reduceToNat, ir_store_Store_Boot, sto, h1, mapF_ids, mapF_ren, ro_nm, ro_in, hlp]
def okF (f : FX) : Prop := (0 ≤ f.sf ∧ f.sf ≤ f.b.size) ∧ f.b.size ≤ 4611686018427387904
theorem leftN_in {f : FX} (h : okF f) (k : Int) : 0 ≤ leftN f k ∧ leftN f k ≤ f.b.size ∧ f.sf ≤ leftN f k := by
  obtain ⟨⟨h1, h2⟩, h3⟩ := h
  unfold leftN mx0
  split <;> split <;> omega
def bootR (keep : List Int) : List FX → Nat → List FX
  | [], _ => []
  | f :: r, i => (if stayF f (kp keep i) = true then [leftF f (kp keep i)] else []) ++ bootR keep r (i + 1)
theorem bootR_cons (keep : List Int) (f : FX) (r : List FX) (i : Nat) : bootR keep (f :: r) i = (if stayF f (kp keep i) = true then [leftF f (kp keep i)] else []) ++ bootR keep r (i + 1) := rfl
end Go.Proofs.YtaodpgpepmlfbaaDoor.Ev
