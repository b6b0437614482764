/-
  The law StoreSafe.
-/
import Derived.Test.YtaodpgpepmlfbaaDoorEvSt4
set_option linter.unusedVariables false
set_option linter.unusedSimpArgs false
namespace Go.Proofs.YtaodpgpepmlfbaaDoor.Ev
attribute [local congr] bind_congr_head
attribute [local go_sem] opd_t opd_c opd_g opd_f opds_nil opds_cons get_cons put_some put_none keep_nil keepC_s keepC_n keep_cons runs_nil runs_cons run_op run_opr run_call run_gand run_gor run_gif seqK_norm seqK_exit seqK_ret blkK_norm blkK_exit blkK_ret runL_skip runL_exit runL_ret runL_items runL_seq runL_cond runL_block runL_loop fin_bind finK_norm finK_ret rvs_nil rvs_cons rv_tmp rv_cell tupOf_one tupOf_nil tupOf_two ev_mov ev_pick ev_alloc ev_box ev_build parts_nil parts_cons fills_nil fills_cons ev_bsl ev_bslo ev_load ev_store ev_nilck ev_bin ev_binb ev_aeq ev_un ev_i2i ev_i2t ev_isnilI nilIF ev_s2b ev_ext ev_fld ev_idxs ev_fa ev_ias ev_len ev_lens ev_s2s ev_mkf ev_rng ev_nxt ev_app bOf_s pvOf_s agOf_s tpOf_s iOf_s sOf_s ite_bind Option.bind_some Option.bind_none if_true if_false ite_true ite_false argEnv_nil argEnv_cons len_av elems_av ias_av cells_av tuple_av AV.tuple AV.cells faF ldAt liveRef aggOf nilckF binV binI binS binB unV Bool.not_true Bool.not_false List.length_nil List.length_cons List.nil_append List.cons_append List.append_nil List.getElem?_cons_zero List.getElem?_cons_succ List.drop_zero List.drop_succ_cons List.drop_nil List.take_zero List.take_succ_cons List.take_nil List.set_cons_zero List.set_cons_succ compact_same compact_new closedB nodupB envIds ids0 upto visit pos sel AV.ids idss idsss Ob.ids AV.ren rens renss Ob.ren renEnv AV.snap snaps stAt okSt putCells List.all_nil List.all_cons List.contains_nil List.contains_cons Bool.and_true Bool.true_and Bool.and_false Bool.false_and Bool.or_true Bool.true_or Bool.or_false Bool.false_or decide_eq_true_eq decide_true decide_false beq_iff_eq bne_iff_ne beq_self_eq_true Bool.not_eq_true' Bool.false_eq_true eq_self and_self and_true true_and and_false false_and or_true true_or or_false false_or not_true_eq_false not_false_eq_true ne_eq Nat.zero_add Nat.add_zero Nat.le_refl Nat.not_lt_zero Nat.lt_irrefl Nat.zero_le Int.toNat_natCast gt_iff_lt ge_iff_le Int.lt_irrefl Int.natCast_nonneg txt_eq get_nil appF elems belows AV.under AV.flat flats List.length_map List.map_append List.map_cons List.map_nil List.length_append take_map_all List.flatten_cons List.flatten_nil bld_nil imp_false false_imp_iff false_implies true_implies implies_true decide_eq_false_iff_not Nat.one_mul Nat.mul_one idsss_app renss_app belowss_app ev_mn ev_mx ev_isnils ev_sls ev_slx evo_none evo_some vals minV maxV minF maxF backId List.getElem?_nil putAll Option.all_none Option.all_some Option.isSome_some intOf aszI compactV_same compactV_new callP_any callQ_eq callN_any boxQ AV.id? ids_avR ren_av under_av snap_av renss_mapf belowss_mapf idsss_mapf isnilsF List.length_eq_zero_iff int_beq int_bne decide_not slx_av Int.toNat_zero ev_mkm ev_lk ev_mup ev_mdl ev_lenm ev_isnilm mpOf_s mapAt_s mapOf_nil mapOf_mp isnilm_nil isnilm_mp lkR Option.getD_some Option.getD_none Option.isSome_none Prim.rdo ev_snp snp_own snp_v
theorem good_x : labelGood ⟨#[120]⟩ = true := by decide +kernel
/-- Is a pointer nil? -/
def isnilPF (neg : Bool) (st : Store) : AV → Option AV
  | .ref id g _ _ => if liveRef st id g then some (.v (.bool neg)) else none
  | .v (.pointer none) => some (.v (.bool !neg))
  | _ => none
theorem isnilP_ref (neg : Bool) (st : Store) (id g i o : Nat) : isnilPF neg st (.ref id g i o) = if liveRef st id g then some (.v (.bool neg)) else none := rfl
theorem isnilP_nil (neg : Bool) (st : Store) : isnilPF neg st (.v (.pointer none)) = some (.v (.bool !neg)) := rfl
theorem ev_isnil {G : Nat → Option (List AV)} {bs : List Nat} {e : Env} {st : Store} (neg : Bool) (x : Opd) : Prim.ev G bs e st (.isnil neg x) = (x.ev G e).bind fun a => (isnilPF neg st a).bind fun r => some (r, st) := by
  simp only [Prim.ev]
  cases x.ev G e with
  | none => rfl
  | some a => cases a with
    | ref id g i o => simp only [Option.bind_some, isnilPF]; split <;> rfl
    | v p => cases p with
      | pointer q => cases q <;> rfl
      | _ => rfl
    | _ => rfl
variable {E : Prog}
theorem data_len (s : ByteArray) : s.data.toList.length = s.size := by
  cases s with
  | mk d => exact Array.length_toList
theorem sort_one (n : ByteArray) : sortN [n] = [n] := rfl
theorem tot_one (f : FX) : totF [f] = f.b.size := by simp [totF]
theorem ext_size (s : ByteArray) (k : Nat) (h : k ≤ s.size) : (s.extract 0 k).size = k := by simp; omega
set_option maxHeartbeats 1000000 in
set_option maxRecDepth 4000 in
theorem fn_StoreSafe (hE : Std E fns) (hv : VOK E) (hS : SOK E) (haw : callP E f_usufructlaw05_awake [] = some (vb true)) (a b : Sl UInt8) (keep : Int) :
    callP E f_usufructlaw05_StoreSafe [a.av 1 byC, b.av 1 byC, vi keep] = some (vb true) := by
  by_cases c1 : 60 < (a.list.length : Int)
  · rw [hE.run rfl rfl]
    simp -implicitDefEqProofs only [go_sem, reduceIte, reduceCtorEq, Nat.reduceEqDiff, Nat.reduceAdd, Nat.reduceSub, Nat.reduceLT, Nat.reduceLeDiff, Nat.reduceBEq, Nat.reduceMul, Nat.reduceBNe, Int.reduceEq, Int.reduceLT, Int.reduceLE, Int.reduceNe, Int.reduceToNat, ir_usufructlaw05_StoreSafe, haw, c1, ro_by]
  · by_cases c2 : 60 < (b.list.length : Int)
    · rw [hE.run rfl rfl]
      simp -implicitDefEqProofs only [go_sem, reduceIte, reduceCtorEq, Nat.reduceEqDiff, Nat.reduceAdd, Nat.reduceSub, Nat.reduceLT, Nat.reduceLeDiff, Nat.reduceBEq, Nat.reduceMul, Nat.reduceBNe, Int.reduceEq, Int.reduceLT, Int.reduceLE, Int.reduceNe, Int.reduceToNat, ir_usufructlaw05_StoreSafe, haw, c1, c2, ro_by]
    · have sa := BAl_size a.list
      have sb := BAl_size b.list
      have hN := fn_new hE 200
      have h0 : totF [] = 0 := rfl
      have b0 : burnt 0 = false := rfl
      have fd : fuseD 0 = 0 := rfl
      have dd : ∀ d, downD 0 d = d := fun _ => rfl
      have sx : ((⟨#[120]⟩ : ByteArray).size) = 1 := rfl
      have fo : ∀ s k y, fndF ⟨#[120]⟩ [⟨⟨#[120]⟩, s, k, y⟩] = some ⟨⟨#[120]⟩, s, k, y⟩ := fun s k y => by simp [fndF]
      have po : ∀ s k y s' k' y', putL ⟨⟨#[120]⟩, s', k', y'⟩ [⟨⟨#[120]⟩, s, k, y⟩] = [⟨⟨#[120]⟩, s', k', y'⟩] := fun s k y s' k' y' => by simp [putL]
      have h1 := fn_append hE hv hS 200 0 false [] ⟨#[120]⟩ a ⟨by omega, by omega⟩ (by omega) ⟨by omega, by omega, by omega⟩
      have e1 : appS 200 [] false 0 ⟨#[120]⟩ a.list = (0, 0, false, [⟨⟨#[120]⟩, BAl a.list, 0, false⟩]) := by
        unfold appS
        rw [good_x]
        simp only [Bool.false_eq_true, if_false, fndF, List.find?_nil, List.length_nil, b0, fd, dd, putL]
        rw [if_neg (by decide), if_neg (by omega), if_neg (by rw [h0]; omega)]
      rw [e1] at h1
      have h2 := fn_sync hE 200 0 false [⟨⟨#[120]⟩, BAl a.list, 0, false⟩] ⟨#[120]⟩ ⟨by omega, by omega⟩
      have e2 : syncS [⟨⟨#[120]⟩, BAl a.list, 0, false⟩] false 0 ⟨#[120]⟩ = (0, 0, false, [⟨⟨#[120]⟩, BAl a.list, (BAl a.list).size, true⟩]) := by
        simp only [syncS, fo, b0, fd, dd, po, Bool.false_eq_true, if_false]
      rw [e2] at h2
      have h3 := fn_append hE hv hS 200 0 false [⟨⟨#[120]⟩, BAl a.list, (BAl a.list).size, true⟩] ⟨#[120]⟩ b ⟨by omega, by omega⟩ (by omega) ⟨by omega, by omega, by rw [tot_one]; show ((BAl a.list).size : Int) ≤ 200; omega⟩
      have e3 : appS 200 [⟨⟨#[120]⟩, BAl a.list, (BAl a.list).size, true⟩] false 0 ⟨#[120]⟩ b.list = (0, 0, false, [⟨⟨#[120]⟩, BAl a.list ++ BAl b.list, (BAl a.list).size, true⟩]) := by
        unfold appS
        rw [good_x]
        simp only [Bool.false_eq_true, if_false, fo, b0, fd, dd, po]
        rw [if_neg (by decide), if_neg (by rw [tot_one]; show ¬ (200 - ((BAl a.list).size : Int) < _); omega)]
      rw [e3] at h3
      have sab : (BAl a.list ++ BAl b.list).size = a.list.length + b.list.length := by rw [ByteArray.size_append, sa, sb]
      obtain ⟨f, hf⟩ : ∃ f : FX, f = ⟨⟨#[120]⟩, BAl a.list ++ BAl b.list, (BAl a.list).size, true⟩ := ⟨_, rfl⟩
      have h4 := fn_crash hE 200 0 false [f]
      have h5 := fn_append hE hv hS 200 0 true [f] ⟨#[120]⟩ a ⟨by omega, by omega⟩ (by omega) ⟨by omega, by omega, by rw [tot_one, hf]; show ((BAl a.list ++ BAl b.list).size : Int) ≤ _; omega⟩
      have e5 : appS 200 [f] true 0 ⟨#[120]⟩ a.list = (12, 0, true, [f]) := rfl
      rw [e5] at h5
      have ff : fndF ⟨#[120]⟩ [f] = some f := by rw [hf]; exact fo _ _ _
      have kk : kp [keep] 0 = keep := rfl
      have hok : okB [keep] (sortN ([f].map FX.n)) 0 [f] := by
        have : [f].map FX.n = [⟨#[120]⟩] := by rw [hf]; rfl
        rw [this, sort_one]
        refine ⟨⟨f, ff, ?_, ?_⟩, trivial⟩
        · rw [hf]; refine ⟨by show (0 : Int) ≤ ((BAl a.list).size : Nat); omega, by show ((BAl a.list).size : Int) ≤ ((BAl a.list ++ BAl b.list).size : Nat); omega⟩
        · rw [hf]; show (BAl a.list ++ BAl b.list).size ≤ _; omega
      have h6 := fn_boot hE hS 200 0 true [f] (.mk [keep]) (by simp [Sl.list]) (by simp) (by intro g hg; rw [List.mem_singleton.1 hg, hf]; show (1 : Nat) ≤ 100000; omega) hok
      obtain ⟨N, hN1, hN2, hN3⟩ : ∃ N : Nat, leftN f keep = (N : Int) ∧ a.list.length ≤ N ∧ N ≤ a.list.length + b.list.length := by
        have q1 : f.sf = (a.list.length : Int) := by rw [hf]; show ((BAl a.list).size : Int) = _; omega
        have q2 : (f.b.size : Int) = (a.list.length : Int) + (b.list.length : Int) := by rw [hf]; show ((BAl a.list ++ BAl b.list).size : Int) = _; omega
        have q3 : (a.list.length : Int) ≤ leftN f keep ∧ leftN f keep ≤ (a.list.length : Int) + (b.list.length : Int) := by
          unfold leftN mx0; rw [q1, q2]; split <;> split <;> omega
        exact ⟨(leftN f keep).toNat, by omega, by omega, by omega⟩
      have fb : f.b = BAl a.list ++ BAl b.list := by rw [hf]
      have e6 : bootL (Sl.mk [keep]).list (sortN ([f].map FX.n)) 0 [f] = [⟨⟨#[120]⟩, f.b.extract 0 N, N, true⟩] := by
        have : [f].map FX.n = [⟨#[120]⟩] := by rw [hf]; rfl
        rw [this, sort_one]
        have hst : stayF f keep = true := by rw [stayF, hf]; rfl
        show stepB [f] ⟨#[120]⟩ (kp [keep] 0) = _
        rw [kk]
        simp only [stepB, ff, hst, if_true, hN1, Int.toNat_natCast]
        rw [hf]
        exact po _ _ _ _ _ _
      rw [e6] at h6
      have h7 := fn_read hE 200 0 false [⟨⟨#[120]⟩, f.b.extract 0 N, N, true⟩] ⟨#[120]⟩
      rw [fo] at h7
      have sN : (f.b.extract 0 N).data.toList.length = N := by
        rw [data_len, ext_size f.b N (by rw [fb]; omega)]
      rw [fb] at h6 h7 sN
      rw [hf] at h4 h5 h6
      have hadd : ¬ (9223372036854775807 : Int) < (((BAl a.list).size + (BAl b.list).size : Nat) : Int) := by omega
      have g1 : (a.list.length : Int) ≤ (N : Int) := by omega
      have g2 : (N : Int) ≤ (((BAl a.list).size + (BAl b.list).size : Nat) : Int) := by omega
      rw [if_neg (by omega)] at hN
      have kv : AV.sl 1 [[vi keep]] = (Sl.mk [keep]).av 1 inC := rfl
      simp only [sto, if_true, Bool.false_eq_true, if_false] at hN h1 h2 h3 h4 h5 h6 h7
      rw [hE.run rfl rfl]
      obtain ⟨X, hX⟩ : ∃ X : ByteArray, X = (BAl a.list ++ BAl b.list).extract 0 N := ⟨_, rfl⟩
      have hl : (Sl.mk X.data.toList).list.length = N := by rw [hX]; exact sN
      have hm : BAl (Sl.mk X.data.toList).list = X := rfl
      rw [← hX] at h6 h7
      simp -implicitDefEqProofs only [go_sem, reduceIte, reduceCtorEq, Nat.reduceEqDiff, Nat.reduceAdd, Nat.reduceSub, Nat.reduceLT, Nat.reduceLeDiff, Nat.reduceBEq, Nat.reduceMul, Nat.reduceBNe, Int.reduceEq, Int.reduceLT, Int.reduceLE, Int.reduceNe, Int.reduceToNat, ir_usufructlaw05_StoreSafe, haw, c1, c2, ro_by, ro_in, hN, h1, h2, h3, h4, h5, h6, h7, mapF_ids, mapF_ren, kv, ev_b2s, b2s_by, hadd, hl, hm, g1, g2, ev_isnil, isnilP_ref, isnilP_nil, ← hX]
end Go.Proofs.YtaodpgpepmlfbaaDoor.Ev
