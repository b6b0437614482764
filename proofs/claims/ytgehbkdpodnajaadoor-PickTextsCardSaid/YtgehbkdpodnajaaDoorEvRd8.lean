/-
  Picks as texts: the code's Text, of all terms.
-/
import Derived.Test.YtgehbkdpodnajaaDoorEvRd5
set_option linter.unusedVariables false
set_option linter.unusedSimpArgs false
namespace Go.Proofs.YtgehbkdpodnajaaDoor.Ev
attribute [local congr] bind_congr_head
attribute [local go_sem] opd_t opd_c opd_g opd_f opds_nil opds_cons get_cons put_some put_none keep_nil keepC_s keepC_n keep_cons runs_nil runs_cons run_op run_opr run_call run_gand run_gor run_gif seqK_norm seqK_exit seqK_ret blkK_norm blkK_exit blkK_ret runL_skip runL_exit runL_ret runL_items runL_seq runL_cond runL_block runL_loop fin_bind finK_norm finK_ret rvs_nil rvs_cons rv_tmp rv_cell tupOf_one tupOf_nil tupOf_two ev_mov ev_pick ev_alloc ev_box ev_build parts_nil parts_cons fills_nil fills_cons ev_bsl ev_bslo ev_load ev_store ev_nilck ev_bin ev_binb ev_aeq ev_un ev_i2i ev_i2t ev_s2b ev_ext ev_fld ev_idxs ev_fa ev_ias ev_len ev_lens ev_s2s ev_mkf ev_rng ev_nxt ev_app bOf_s pvOf_s agOf_s tpOf_s iOf_s sOf_s ite_bind Option.bind_some Option.bind_none if_true if_false ite_true ite_false argEnv_nil argEnv_cons len_av elems_av ias_av cells_av tuple_av AV.tuple AV.cells faF ldAt liveRef aggOf nilckF binV binI binS binB unV Bool.not_true Bool.not_false List.length_nil List.length_cons List.nil_append List.cons_append List.append_nil List.getElem?_cons_zero List.getElem?_cons_succ List.drop_zero List.drop_succ_cons List.drop_nil List.take_zero List.take_succ_cons List.take_nil List.set_cons_zero List.set_cons_succ compact_same compact_new closedB nodupB envIds ids0 upto visit pos sel AV.ids idss idsss Ob.ids AV.ren rens renss Ob.ren renEnv AV.snap snaps stAt okSt putCells List.all_nil List.all_cons List.contains_nil List.contains_cons Bool.and_true Bool.true_and Bool.and_false Bool.false_and Bool.or_true Bool.true_or Bool.or_false Bool.false_or decide_eq_true_eq decide_true decide_false beq_iff_eq bne_iff_ne beq_self_eq_true Bool.not_eq_true' Bool.false_eq_true eq_self and_self and_true true_and and_false false_and or_true true_or or_false false_or not_true_eq_false not_false_eq_true ne_eq Nat.zero_add Nat.add_zero Nat.le_refl Nat.not_lt_zero Nat.lt_irrefl Nat.zero_le Int.toNat_natCast gt_iff_lt ge_iff_le Int.lt_irrefl Int.natCast_nonneg txt_eq get_nil appF elems belows AV.under AV.flat flats List.length_map List.map_append List.map_cons List.map_nil List.length_append take_map_all List.flatten_cons List.flatten_nil bld_nil imp_false false_imp_iff false_implies true_implies implies_true decide_eq_false_iff_not Nat.one_mul Nat.mul_one idsss_app renss_app belowss_app ev_mn ev_mx ev_isnils ev_sls ev_slx evo_none evo_some vals minV maxV minF maxF backId List.getElem?_nil putAll Option.all_none Option.all_some Option.isSome_some intOf aszI compactV_same compactV_new callP_any callQ_eq callN_any boxQ AV.id? ids_avR ren_av under_av snap_av renss_mapf belowss_mapf idsss_mapf isnilsF List.length_eq_zero_iff int_beq int_bne decide_not slx_av Int.toNat_zero
theorem snapC {r : AV} {st : Store} (h : r.ids = []) : AV.snap (compactV [] 0 (r, st)).2 (compactV [] 0 (r, st)).1 = some r := by
  by_cases h0 : st.length ≤ 0
  · rw [compactV_same h0]; exact snap_of h
  · rw [compactV_new (by omega)]
    split
    · dsimp only
      rw [ren_of _ h]; exact snap_of h
    · exact snap_of h
def strL (b : List UInt8) : List AV := [vs (BA b)]
theorem ro_strL : Ro strL := fun _ => rfl
abbrev SPOK (E : Prog) : Prop := ∀ s : ByteArray, s.size < 4294967281 → callP E f_strings_Split [vs s, vs ⟨#[32]⟩] = some ((Sl.mk (pcs s.data.toList)).av 1 strL)
theorem fn_term' {E : Prog} (hE : Std E fns) (hv : VOK E) (hp : PHOK E) (hib : IBOK E) (has : ASOK E) (w : List UInt8) (hl : w.length < 4611686018427387904) :
    callP E f_pick_term [vs (BA w)] = some (.tup [.agg [vb (termS w).1.not, vs (termS w).1.field, vi (termS w).1.sign, vi (termS w).1.n, vs (termS w).1.s], vi (termS w).2]) := fn_term hE hv hp hib has w hl
set_option maxHeartbeats 8000000 in
theorem read_loop {E : Prog} (hE : Std E fns) (hv : VOK E) (hp : PHOK E) (hib : IBOK E) (has : ASOK E) {L : Env × Store → Option (Sig × Env × Store)} (ps : List (List UInt8)) (hps : ∀ p, p ∈ ps → p.length < 4611686018427387904) (hn : ps.length < 4611686018427387904)
    (hL : ∀ e st, L (e, st) = (IR.runL E.glob (callL E) [] ir_pick_Read_L0 e st).bind (seqK fun e st => L (compact [] 0 [2, 12, 13, 14] e st))) :
    ∀ (rest : List (List UInt8)) (i : Nat) (acc : List TermT) (g : Nat), ps.drop i = rest → i ≤ ps.length → acc.length = i → i ≤ 32 →
    ((readP rest i acc).2.2 = 0 ∧ ∃ g', L ([(2, (bld 5 TermT.cells g [] acc).1), (12, (Sl.mk ps).av 1 strL), (13, vi ps.length), (14, vi i)], (bld 5 TermT.cells g [] acc).2) =
      some (.exit 0, [(2, (bld 5 TermT.cells g' [] (readP rest i acc).1).1)], (bld 5 TermT.cells g' [] (readP rest i acc).1).2)) ∨
    ((readP rest i acc).2.2 ≠ 0 ∧ (readP rest i acc).1 = [] ∧ ∃ st', L ([(2, (bld 5 TermT.cells g [] acc).1), (12, (Sl.mk ps).av 1 strL), (13, vi ps.length), (14, vi i)], (bld 5 TermT.cells g [] acc).2) =
      some (.ret, [(2, .v (.slice none 0 0)), (3, vi (readP rest i acc).2.1), (4, vi (readP rest i acc).2.2)], st'))
  | [], i, acc, g, h, hi, ha, h32 => by
    have h1 := drop_nil' h hi
    refine .inl ⟨rfl, g, ?_⟩
    rw [hL]
    simp only [go_sem, reduceIte, reduceCtorEq, Nat.reduceEqDiff, Nat.reduceAdd, Nat.reduceSub, Nat.reduceLT, Nat.reduceLeDiff, Nat.reduceBEq, Nat.reduceMul, Nat.reduceBNe, Int.reduceEq, Int.reduceLT, Int.reduceLE, Int.reduceNe, Int.reduceToNat, ir_pick_Read_L0, h1, readP]
  | p :: rest, i, acc, g, h, hi, ha, h32 => by
    obtain ⟨h1, h2, h3, h4, h5⟩ := drop_cons h
    have h6 := wrap_succ (i := i) (by omega)
    have hpl := hps p (List.mem_of_getElem? h1)
    have ht := fn_term' hE hv hp hib has p hpl
    have hav : (Sl.mk ps).av 1 strL = .sl 1 (ps.map strL) := rfl
    have h9 : (ps.map strL)[i]? = some (strL p) := by rw [List.getElem?_map, h1]; rfl
    have hlist : (Sl.mk ps).list = ps := rfl
    have h1' : (Sl.mk ps).list[i]? = some p := h1
    by_cases c32 : i = 32
    · have e : readP (p :: rest) i acc = ([], 32, 4) := by simp only [readP]; rw [if_pos c32]
      rw [e]
      refine .inr ⟨by decide, rfl, ?_⟩
      have c32' : ((i : Int) = 32) = True := eq_true (by omega)
      by_cases hne : acc = []
      · subst hne
        simp at ha; omega
      · refine ⟨(bld 5 TermT.cells g [] acc).2, ?_⟩
        rw [hL]
        simp only [go_sem, reduceIte, reduceCtorEq, Nat.reduceEqDiff, Nat.reduceAdd, Nat.reduceSub, Nat.reduceLT, Nat.reduceLeDiff, Nat.reduceBEq, Nat.reduceMul, Nat.reduceBNe, Int.reduceEq, Int.reduceLT, Int.reduceLE, Int.reduceNe, Int.reduceToNat, ir_pick_Read_L0, h1', h3, strL, c32', bld_ne hne, ro_term, ro_strL]
        rw [show (i : Int) = 32 by omega]
        rfl
    · have c32' : ((i : Int) = 32) = False := eq_false (by omega)
      by_cases h0 : (termS p).2 = 0
      · have e : readP (p :: rest) i acc = readP rest (i + 1) (acc ++ [(termS p).1]) := by simp only [readP]; rw [if_neg c32, if_pos h0]
        rw [e]
        have hb : (acc.length + 1) * 56 ≤ 140737488355328 := by omega
        by_cases hne : acc = []
        · subst hne
          have ih := read_loop hE hv hp hib has ps hps hn hL rest (i + 1) [(termS p).1] 0 h2 h4 (by simp at ha ⊢; omega) (by omega)
          rw [List.nil_append]
          have key : L ([(2, (bld 5 TermT.cells g [] []).1), (12, (Sl.mk ps).av 1 strL), (13, vi ps.length), (14, vi i)], (bld 5 TermT.cells g [] []).2) = L ([(2, (bld 5 TermT.cells 0 [] [(termS p).1]).1), (12, (Sl.mk ps).av 1 strL), (13, vi ps.length), (14, vi ((i + 1 : Nat) : Int))], (bld 5 TermT.cells 0 [] [(termS p).1]).2) := by
            rw [hL]
            simp only [go_sem, reduceIte, reduceCtorEq, Nat.reduceEqDiff, Nat.reduceAdd, Nat.reduceSub, Nat.reduceLT, Nat.reduceLeDiff, Nat.reduceBEq, Nat.reduceMul, Nat.reduceBNe, Int.reduceEq, Int.reduceLT, Int.reduceLE, Int.reduceNe, Int.reduceToNat, ir_pick_Read_L0, h1', h3, h6, strL, c32', ht, h0, TermT.cells, bld_ne (List.cons_ne_nil (termS p).1 []), ro_term, ro_strL]
          rw [key]
          exact ih
        · have ih := read_loop hE hv hp hib has ps hps hn hL rest (i + 1) (acc ++ [(termS p).1]) (g + 1) h2 h4 (by simp; omega) (by omega)
          have key : L ([(2, (bld 5 TermT.cells g [] acc).1), (12, (Sl.mk ps).av 1 strL), (13, vi ps.length), (14, vi i)], (bld 5 TermT.cells g [] acc).2) = L ([(2, (bld 5 TermT.cells (g + 1) [] (acc ++ [(termS p).1])).1), (12, (Sl.mk ps).av 1 strL), (13, vi ps.length), (14, vi ((i + 1 : Nat) : Int))], (bld 5 TermT.cells (g + 1) [] (acc ++ [(termS p).1])).2) := by
            rw [hL]
            simp only [go_sem, reduceIte, reduceCtorEq, Nat.reduceEqDiff, Nat.reduceAdd, Nat.reduceSub, Nat.reduceLT, Nat.reduceLeDiff, Nat.reduceBEq, Nat.reduceMul, Nat.reduceBNe, Int.reduceEq, Int.reduceLT, Int.reduceLE, Int.reduceNe, Int.reduceToNat, ir_pick_Read_L0, h1', h3, h6, hb, strL, c32', ht, h0, TermT.cells, bld_ne hne, bld_ne (ne_app acc (termS p).1), ro_term, ro_strL]
          rw [key]
          exact ih
      · have e : readP (p :: rest) i acc = ([], i, (termS p).2) := by simp only [readP]; rw [if_neg c32, if_neg h0]
        rw [e]
        refine .inr ⟨h0, rfl, ?_⟩
        by_cases hne : acc = []
        · subst hne
          refine ⟨[.box (termS p).1.cells], ?_⟩
          rw [hL]
          simp only [go_sem, reduceIte, reduceCtorEq, Nat.reduceEqDiff, Nat.reduceAdd, Nat.reduceSub, Nat.reduceLT, Nat.reduceLeDiff, Nat.reduceBEq, Nat.reduceMul, Nat.reduceBNe, Int.reduceEq, Int.reduceLT, Int.reduceLE, Int.reduceNe, Int.reduceToNat, ir_pick_Read_L0, h1', h3, strL, c32', ht, h0, TermT.cells, ro_term, ro_strL]
        · refine ⟨[.row 5 g (acc.map TermT.cells) false, .box (termS p).1.cells], ?_⟩
          rw [hL]
          simp only [go_sem, reduceIte, reduceCtorEq, Nat.reduceEqDiff, Nat.reduceAdd, Nat.reduceSub, Nat.reduceLT, Nat.reduceLeDiff, Nat.reduceBEq, Nat.reduceMul, Nat.reduceBNe, Int.reduceEq, Int.reduceLT, Int.reduceLE, Int.reduceNe, Int.reduceToNat, ir_pick_Read_L0, h1', h3, strL, c32', ht, h0, TermT.cells, bld_ne hne, ro_term, ro_strL]
theorem pcs_len : ∀ (l : List UInt8), (pcs l).length ≤ l.length + 1 ∧ ∀ p, p ∈ pcs l → p.length ≤ l.length
  | [] => ⟨Nat.le_refl _, fun p hp => by rw [pcs, List.mem_singleton] at hp; rw [hp]; exact Nat.le_refl _⟩
  | c :: l => by
    obtain ⟨i1, i2⟩ := pcs_len l
    have hne := pcs_ne l
    rw [pcs]
    split
    · refine ⟨by simp; omega, fun p hp => ?_⟩
      rcases List.mem_cons.1 hp with rfl | hp
      · simp
      · have := i2 p hp; simp; omega
    · cases hps : pcs l with
      | nil => exact absurd hps hne
      | cons a ps =>
        rw [hps] at i1 i2
        refine ⟨by simp at i1 ⊢; omega, fun p hp => ?_⟩
        rcases List.mem_cons.1 hp with rfl | hp
        · have := i2 a (by simp); simpa using this
        · have := i2 p (List.mem_cons_of_mem _ hp); simp; omega
theorem readP_at : ∀ (ps : List (List UInt8)) (i : Nat) (acc : List TermT), (readP ps i acc).2.2 = 0 → (readP ps i acc).2.1 = 0
  | [], i, acc, _ => rfl
  | p :: ps, i, acc, h => by
    simp only [readP] at h ⊢
    split at h
    · rename_i c; rw [if_pos c] at *; simp at h
    · rename_i c
      rw [if_neg c]
      split at h
      · rename_i c2; rw [if_pos c2]; exact readP_at ps (i + 1) _ h
      · rename_i c2; exact absurd h c2
/-- What is read, as cells. -/
def readR (w : List UInt8) : AV := .tup [(slOf (readS w).1).av 5 TermT.cells, vi (readS w).2.1, vi (readS w).2.2]
set_option maxHeartbeats 8000000 in
theorem fn_pickRead {E : Prog} (hE : Std E fns) (hv : VOK E) (hp : PHOK E) (hib : IBOK E) (has : ASOK E) (hsp : SPOK E) (w : List UInt8) (hl : w.length ≤ 1000000) : callP E f_pick_Read [vs (BA w)] = some (readR w) := by
  have hs := hsp (BA w) (by rw [ba_size]; omega)
  rw [ba_data] at hs
  obtain ⟨q1, q2⟩ := pcs_len w
  have hnil : (BA w = ⟨#[]⟩) = (w = []) := propext ba_nil
  have hn := read_loop hE hv hp hib has (pcs w) (fun p hp => by have := q2 p hp; omega) (by omega) (loopL_eq (IR.runL E.glob (callL E) [] ir_pick_Read_L0) (compact [] 0 [2, 12, 13, 14])) (pcs w) 0 [] 0 rfl (by omega) rfl (by omega)
  have hlist : (Sl.mk (pcs w)).list = pcs w := rfl
  rw [hE.run rfl rfl]
  unfold readR readS
  by_cases hw : w = []
  · rw [if_pos hw]
    simp only [go_sem, reduceIte, reduceCtorEq, Nat.reduceEqDiff, Nat.reduceAdd, Nat.reduceSub, Nat.reduceLT, Nat.reduceLeDiff, Nat.reduceBEq, Nat.reduceMul, Nat.reduceBNe, Int.reduceEq, Int.reduceLT, Int.reduceLE, Int.reduceNe, Int.reduceToNat, ir_pick_Read, hnil, hw, slOf, ro_term]
    rfl
  · rw [if_neg hw]
    have hz := readP_at (pcs w) 0 []
    generalize readP (pcs w) 0 [] = r at *
    obtain ⟨l, at_, e⟩ := r
    simp only [Int.natCast_zero, bld_nil] at hn
    rcases hn with ⟨h0, g', h⟩ | ⟨h0, h1, st', h⟩
    · subst h0
      have hz' : at_ = 0 := hz rfl
      subst hz'
      by_cases hne : l = []
      · subst hne
        simp only [bld_nil] at h
        simp only [go_sem, reduceIte, reduceCtorEq, Nat.reduceEqDiff, Nat.reduceAdd, Nat.reduceSub, Nat.reduceLT, Nat.reduceLeDiff, Nat.reduceBEq, Nat.reduceMul, Nat.reduceBNe, Int.reduceEq, Int.reduceLT, Int.reduceLE, Int.reduceNe, Int.reduceToNat, ir_pick_Read, hnil, hw, hs, hlist, h, ro_term, ro_strL]
        rfl
      · simp only [bld_ne hne] at h
        simp only [go_sem, reduceIte, reduceCtorEq, Nat.reduceEqDiff, Nat.reduceAdd, Nat.reduceSub, Nat.reduceLT, Nat.reduceLeDiff, Nat.reduceBEq, Nat.reduceMul, Nat.reduceBNe, Int.reduceEq, Int.reduceLT, Int.reduceLE, Int.reduceNe, Int.reduceToNat, ir_pick_Read, hnil, hw, hs, hlist, h, ro_term, ro_strL]
        rw [slOf_ne hne]; rfl
    · subst h1
      simp only [go_sem, reduceIte, reduceCtorEq, Nat.reduceEqDiff, Nat.reduceAdd, Nat.reduceSub, Nat.reduceLT, Nat.reduceLeDiff, Nat.reduceBEq, Nat.reduceMul, Nat.reduceBNe, Int.reduceEq, Int.reduceLT, Int.reduceLE, Int.reduceNe, Int.reduceToNat, ir_pick_Read, hnil, hw, hs, hlist, h, ro_term, ro_strL]
      exact snapC rfl
end Go.Proofs.YtgehbkdpodnajaaDoor.Ev
set_option linter.unusedVariables false
set_option linter.unusedSimpArgs false
namespace Go.Proofs.YtgehbkdpodnajaaDoor.Ev
attribute [local congr] bind_congr_head
attribute [local go_sem] opd_t opd_c opd_g opd_f opds_nil opds_cons get_cons put_some put_none keep_nil keepC_s keepC_n keep_cons runs_nil runs_cons run_op run_opr run_call run_gand run_gor run_gif seqK_norm seqK_exit seqK_ret blkK_norm blkK_exit blkK_ret runL_skip runL_exit runL_ret runL_items runL_seq runL_cond runL_block runL_loop fin_bind finK_norm finK_ret rvs_nil rvs_cons rv_tmp rv_cell tupOf_one tupOf_nil tupOf_two ev_mov ev_pick ev_alloc ev_box ev_build parts_nil parts_cons fills_nil fills_cons ev_bsl ev_bslo ev_load ev_store ev_nilck ev_bin ev_binb ev_aeq ev_un ev_i2i ev_i2t ev_s2b ev_ext ev_fld ev_idxs ev_fa ev_ias ev_len ev_lens ev_s2s ev_mkf ev_rng ev_nxt ev_app bOf_s pvOf_s agOf_s tpOf_s iOf_s sOf_s ite_bind Option.bind_some Option.bind_none if_true if_false ite_true ite_false argEnv_nil argEnv_cons len_av elems_av ias_av cells_av tuple_av AV.tuple AV.cells faF ldAt liveRef aggOf nilckF binV binI binS binB unV Bool.not_true Bool.not_false List.length_nil List.length_cons List.nil_append List.cons_append List.append_nil List.getElem?_cons_zero List.getElem?_cons_succ List.drop_zero List.drop_succ_cons List.drop_nil List.take_zero List.take_succ_cons List.take_nil List.set_cons_zero List.set_cons_succ compact_same compact_new closedB nodupB envIds ids0 upto visit pos sel AV.ids idss idsss Ob.ids AV.ren rens renss Ob.ren renEnv AV.snap snaps stAt okSt putCells List.all_nil List.all_cons List.contains_nil List.contains_cons Bool.and_true Bool.true_and Bool.and_false Bool.false_and Bool.or_true Bool.true_or Bool.or_false Bool.false_or decide_eq_true_eq decide_true decide_false beq_iff_eq bne_iff_ne beq_self_eq_true Bool.not_eq_true' Bool.false_eq_true eq_self and_self and_true true_and and_false false_and or_true true_or or_false false_or not_true_eq_false not_false_eq_true ne_eq Nat.zero_add Nat.add_zero Nat.le_refl Nat.not_lt_zero Nat.lt_irrefl Nat.zero_le Int.toNat_natCast gt_iff_lt ge_iff_le Int.lt_irrefl Int.natCast_nonneg txt_eq get_nil appF elems belows AV.under AV.flat flats List.length_map List.map_append List.map_cons List.map_nil List.length_append take_map_all List.flatten_cons List.flatten_nil bld_nil imp_false false_imp_iff false_implies true_implies implies_true decide_eq_false_iff_not Nat.one_mul Nat.mul_one idsss_app renss_app belowss_app ev_mn ev_mx ev_isnils ev_sls ev_slx evo_none evo_some vals minV maxV minF maxF backId List.getElem?_nil putAll Option.all_none Option.all_some Option.isSome_some intOf aszI compactV_same compactV_new callP_any callQ_eq callN_any boxQ AV.id? ids_avR ren_av under_av snap_av renss_mapf belowss_mapf idsss_mapf isnilsF List.length_eq_zero_iff int_beq int_bne decide_not slx_av Int.toNat_zero
theorem sz {a b : List UInt8} (h : a.length + b.length ≤ 9223372036854775807) : ¬ (9223372036854775807 : Int) < (((BA a).size + (BA b).size : Nat) : Int) := by rw [ba_size, ba_size]; omega
theorem ev_idxa {G : Nat → Option (List AV)} {bs : List Nat} {e : Env} {st : Store} (k : Nat) (n : Option Nat) (ln : Nat) (x i : Opd) : Prim.ev G bs e st (.idxa k n ln x i) = (agOf (x.ev G e)).bind fun cs => (iOf (i.ev G e)).bind fun j => if 0 ≤ j ∧ j < ln then (aggOf n (cs.drop (j.toNat * k))).bind fun a => some (a, st) else none := by
  simp only [Prim.ev]
  cases x.ev G e with
  | none => rfl
  | some a => cases a with
    | agg cs =>
      simp only [agOf_s, Option.bind_some]
      cases i.ev G e with
      | none => rfl
      | some b => cases b with
        | v q => cases q with
          | int kk j =>
            simp only [iOf_s, Option.bind_some]
            split
            · cases aggOf n (cs.drop (j.toNat * k)) <;> rfl
            · rfl
          | _ => rfl
        | _ => rfl
    | _ => rfl
abbrev ITOK (E : Prog) : Prop := ∀ n : Int, -9223372036854775808 ≤ n → n ≤ 9223372036854775807 → callP E f_strconv_Itoa_0 [vi n] = some (vs (BA (Lib.itoa n)))
theorem ph_len (n : Int) : (phWord n).length ≤ 11 := by
  unfold phWord
  split
  · by_cases h6 : n.toNat < 6
    · have : ∀ i : Fin 6, (phW.getD i.val []).length ≤ 11 := by decide
      exact this ⟨n.toNat, h6⟩
    · rw [List.getD_eq_getElem?_getD, List.getElem?_eq_none (by show 6 ≤ _; omega)]; simp
  · simp
theorem itoa_len15 {n : Int} (h0 : 0 ≤ n) (h1 : n ≤ 999999999999999) : (Lib.itoa n).length ≤ 15 := by
  obtain ⟨q, _⟩ := itoa15 h0 h1
  simp only [num15, Bool.and_eq_true, decide_eq_true_eq] at q
  exact q.1.1.2
theorem enc60 : Utf8.encode 60 = BA [60] := rfl
theorem enc61 : Utf8.encode 61 = BA [61] := rfl
theorem enc62 : Utf8.encode 62 = BA [62] := rfl
theorem e33 : (⟨#[33]⟩ : ByteArray) = BA [33] := rfl
theorem eNo : (⟨#[110, 111]⟩ : ByteArray) = BA wNo := rfl
theorem eYes : (⟨#[121, 101, 115]⟩ : ByteArray) = BA wYes := rfl
theorem bS0 : byteAt ⟨#[60, 61, 62]⟩ 0 = some 60 := rfl
theorem bS1 : byteAt ⟨#[60, 61, 62]⟩ 1 = some 61 := rfl
theorem bS2 : byteAt ⟨#[60, 61, 62]⟩ 2 = some 62 := rfl
theorem wS0 : IntKind.i64.wrap ((-1 : Int) + 1) = 0 := IntWalk.i64_in _ (by omega)
theorem wS1 : IntKind.i64.wrap ((0 : Int) + 1) = 1 := IntWalk.i64_in _ (by omega)
theorem wS2 : IntKind.i64.wrap ((1 : Int) + 1) = 2 := IntWalk.i64_in _ (by omega)
theorem cast2 : ((2 : Nat) : Int) = 2 := rfl
set_option maxHeartbeats 16000000 in
theorem fn_textC {E : Prog} (hE : Std E fns) (hp : PHOK E) (hi : ITOK E) (t : TermT) (hg : goodB t = true) (ht : t.s.size ≤ 1000000) : callP E f_pick_text [.agg t.cells] = some (vs (BA (textT t))) := by
  obtain ⟨n1, n2, n3, n4, n5⟩ := name_at hg
  have h9 := good_ne9 hg
  have c := cmp_of t.field
  have hf : t.field = BA t.field.data.toList := (ba_of _).symm
  have hs : t.s = BA t.s.data.toList := (ba_of _).symm
  have hsl : t.s.data.toList.length ≤ 1000000 := by rw [← ba_size, ba_of]; exact ht
  obtain ⟨nt, f, sg, n, s⟩ := t
  dsimp only at *
  generalize hfl : f.data.toList = fl at *
  generalize hsl' : s.data.toList = sl at *
  unfold textT valueT
  dsimp only
  rw [hfl, hsl']
  unfold goodB at hg
  have hk9 := c.le
  dsimp only at hg
  generalize fieldK f = k at *
  rw [hE.run rfl rfl]
  rw [hf] at c
  subst hs
  have q1 : ∀ b : UInt8, ¬ (9223372036854775807 : Int) < (((BA fl).size + (BA [b]).size : Nat) : Int) := fun b => sz (by simp; omega)
  have q2 : ∀ b : UInt8, ¬ (9223372036854775807 : Int) < (((BA [33]).size + (BA (fl ++ [b])).size : Nat) : Int) := fun b => sz (by simp; omega)
  have q3 : ∀ (b : UInt8) (v : List UInt8), v.length ≤ 1000000 → ¬ (9223372036854775807 : Int) < (((BA (fl ++ [b])).size + (BA v).size : Nat) : Int) := fun b v hv => sz (by simp; omega)
  have q4 : ∀ (b : UInt8) (v : List UInt8), v.length ≤ 1000000 → ¬ (9223372036854775807 : Int) < (((BA (33 :: (fl ++ [b]))).size + (BA v).size : Nat) : Int) := fun b v hv => sz (by simp; omega)
  have cc : TermT.cells ⟨nt, f, sg, n, BA sl⟩ = [vb nt, vs (BA fl), vi sg, vi n, vs (BA sl)] := by rw [← hf]; rfl
  rw [cc]
  have : k = 6 ∨ k = 7 ∨ k = 8 ∨ k < 6 := by omega
  rcases this with rfl | rfl | rfl | hk6
  · simp only [goodK, Bool.and_eq_true, decide_eq_true_eq] at hg
    obtain ⟨⟨rfl, rfl⟩, hgl⟩ := hg
    have q3' := q3 61 sl hsl
    have q4' := q4 61 sl hsl
    cases nt <;> simp only [go_sem, reduceIte, reduceCtorEq, Nat.reduceEqDiff, Nat.reduceAdd, Nat.reduceSub, Nat.reduceLT, Nat.reduceLeDiff, Nat.reduceBEq, Nat.reduceMul, Nat.reduceBNe, Int.reduceEq, Int.reduceLT, Int.reduceLE, Int.reduceNe, Int.reduceToNat, ir_pick_text, c.c6, wS1, bS1, enc61, ba_app, e33, q1, q2, q3', q4', cmpB] <;> simp
  · simp only [goodK, Bool.and_eq_true, decide_eq_true_eq] at hg
    obtain ⟨⟨⟨rfl, h2⟩, h3⟩, h4⟩ := hg
    have hph := fn_phase hE hp n h3 h4
    have q3' := q3 61 (phWord n) (by have := ph_len n; omega)
    have q4' := q4 61 (phWord n) (by have := ph_len n; omega)
    cases nt <;> simp only [go_sem, reduceIte, reduceCtorEq, Nat.reduceEqDiff, Nat.reduceAdd, Nat.reduceSub, Nat.reduceLT, Nat.reduceLeDiff, Nat.reduceBEq, Nat.reduceMul, Nat.reduceBNe, Int.reduceEq, Int.reduceLT, Int.reduceLE, Int.reduceNe, Int.reduceToNat, ir_pick_text, c.c6, c.c7, wS1, bS1, enc61, ba_app, e33, q1, q2, hph, q3', q4', cmpB] <;> simp
  · simp only [goodK, Bool.and_eq_true, Bool.or_eq_true, decide_eq_true_eq] at hg
    obtain ⟨⟨rfl, h2⟩, h3⟩ := hg
    have q3a := q3 61 wNo (by decide)
    have q4a := q4 61 wNo (by decide)
    have q3b := q3 61 wYes (by decide)
    have q4b := q4 61 wYes (by decide)
    rcases h3 with rfl | rfl <;> cases nt <;> simp only [go_sem, reduceIte, reduceCtorEq, Nat.reduceEqDiff, Nat.reduceAdd, Nat.reduceSub, Nat.reduceLT, Nat.reduceLeDiff, Nat.reduceBEq, Nat.reduceMul, Nat.reduceBNe, Int.reduceEq, Int.reduceLT, Int.reduceLE, Int.reduceNe, Int.reduceToNat, ir_pick_text, c.c6, c.c7, c.c8, wS1, bS1, enc61, ba_app, e33, eNo, eYes, ev_idxa, cast2, q1, q2, q3a, q4a, q3b, q4b, cmpB] <;> simp
  · rw [goodK_lt _ hk6] at hg
    simp only [Bool.and_eq_true, decide_eq_true_eq] at hg
    obtain ⟨⟨⟨⟨h1, h2⟩, h3⟩, h4⟩, h5⟩ := hg
    have hit := hi n (by omega) (by omega)
    have hil := itoa_len15 h4 h5
    have e6 : ¬ k = 6 := by omega
    have e7 : ¬ k = 7 := by omega
    have e8 : ¬ k = 8 := by omega
    have q3a := q3 60 (Lib.itoa n) (by omega)
    have q4a := q4 60 (Lib.itoa n) (by omega)
    have q3b := q3 61 (Lib.itoa n) (by omega)
    have q4b := q4 61 (Lib.itoa n) (by omega)
    have q3c := q3 62 (Lib.itoa n) (by omega)
    have q4c := q4 62 (Lib.itoa n) (by omega)
    have : sg = -1 ∨ sg = 0 ∨ sg = 1 := by omega
    rcases this with rfl | rfl | rfl <;> cases nt <;> simp only [go_sem, reduceIte, reduceCtorEq, Nat.reduceEqDiff, Nat.reduceAdd, Nat.reduceSub, Nat.reduceLT, Nat.reduceLeDiff, Nat.reduceBEq, Nat.reduceMul, Nat.reduceBNe, Int.reduceEq, Int.reduceLT, Int.reduceLE, Int.reduceNe, Int.reduceToNat, ir_pick_text, c.c6, c.c7, c.c8, e6, e7, e8, wS0, wS1, wS2, bS0, bS1, bS2, enc60, enc61, enc62, ba_app, e33, hit, q1, q2, q3a, q4a, q3b, q4b, q3c, q4c, cmpB] <;> simp
end Go.Proofs.YtgehbkdpodnajaaDoor.Ev
set_option linter.unusedVariables false
set_option linter.unusedSimpArgs false
namespace Go.Proofs.YtgehbkdpodnajaaDoor.Ev
attribute [local congr] bind_congr_head
attribute [local go_sem] opd_t opd_c opd_g opd_f opds_nil opds_cons get_cons put_some put_none keep_nil keepC_s keepC_n keep_cons runs_nil runs_cons run_op run_opr run_call run_gand run_gor run_gif seqK_norm seqK_exit seqK_ret blkK_norm blkK_exit blkK_ret runL_skip runL_exit runL_ret runL_items runL_seq runL_cond runL_block runL_loop fin_bind finK_norm finK_ret rvs_nil rvs_cons rv_tmp rv_cell tupOf_one tupOf_nil tupOf_two ev_mov ev_pick ev_alloc ev_box ev_build parts_nil parts_cons fills_nil fills_cons ev_bsl ev_bslo ev_load ev_store ev_nilck ev_bin ev_binb ev_aeq ev_un ev_i2i ev_i2t ev_s2b ev_ext ev_fld ev_idxs ev_fa ev_ias ev_len ev_lens ev_s2s ev_mkf ev_rng ev_nxt ev_app bOf_s pvOf_s agOf_s tpOf_s iOf_s sOf_s ite_bind Option.bind_some Option.bind_none if_true if_false ite_true ite_false argEnv_nil argEnv_cons len_av elems_av ias_av cells_av tuple_av AV.tuple AV.cells faF ldAt liveRef aggOf nilckF binV binI binS binB unV Bool.not_true Bool.not_false List.length_nil List.length_cons List.nil_append List.cons_append List.append_nil List.getElem?_cons_zero List.getElem?_cons_succ List.drop_zero List.drop_succ_cons List.drop_nil List.take_zero List.take_succ_cons List.take_nil List.set_cons_zero List.set_cons_succ compact_same compact_new closedB nodupB envIds ids0 upto visit pos sel AV.ids idss idsss Ob.ids AV.ren rens renss Ob.ren renEnv AV.snap snaps stAt okSt putCells List.all_nil List.all_cons List.contains_nil List.contains_cons Bool.and_true Bool.true_and Bool.and_false Bool.false_and Bool.or_true Bool.true_or Bool.or_false Bool.false_or decide_eq_true_eq decide_true decide_false beq_iff_eq bne_iff_ne beq_self_eq_true Bool.not_eq_true' Bool.false_eq_true eq_self and_self and_true true_and and_false false_and or_true true_or or_false false_or not_true_eq_false not_false_eq_true ne_eq Nat.zero_add Nat.add_zero Nat.le_refl Nat.not_lt_zero Nat.lt_irrefl Nat.zero_le Int.toNat_natCast gt_iff_lt ge_iff_le Int.lt_irrefl Int.natCast_nonneg txt_eq get_nil appF elems belows AV.under AV.flat flats List.length_map List.map_append List.map_cons List.map_nil List.length_append take_map_all List.flatten_cons List.flatten_nil bld_nil imp_false false_imp_iff false_implies true_implies implies_true decide_eq_false_iff_not Nat.one_mul Nat.mul_one idsss_app renss_app belowss_app ev_mn ev_mx ev_isnils ev_sls ev_slx evo_none evo_some vals minV maxV minF maxF backId List.getElem?_nil putAll Option.all_none Option.all_some Option.isSome_some intOf aszI compactV_same compactV_new callP_any callQ_eq callN_any boxQ AV.id? ids_avR ren_av under_av snap_av renss_mapf belowss_mapf idsss_mapf isnilsF List.length_eq_zero_iff int_beq int_bne decide_not slx_av Int.toNat_zero
abbrev JOK (E : Prog) : Prop := ∀ ts : List (List UInt8), ts.length ≤ 1000 → (∀ p, p ∈ ts → p.length ≤ 2000000) → callP E f_strings_Join [(slOf ts).av 1 strL, vs ⟨#[32]⟩] = some (vs (BA (joinB ts)))
theorem fn_textC' {E : Prog} (hE : Std E fns) (hp : PHOK E) (hi : ITOK E) (t : TermT) (hg : goodB t = true) (ht : t.s.size ≤ 1000000) : callP E f_pick_text [.agg [vb t.not, vs t.field, vi t.sign, vi t.n, vs t.s]] = some (vs (BA (textT t))) := fn_textC hE hp hi t hg ht
theorem textC_loop {E : Prog} (hE : Std E fns) (hp : PHOK E) (hi : ITOK E) {L : Env × Store → Option (Sig × Env × Store)} (l : Sl TermT) (hl : l.list.length ≤ 40) (hg : ∀ t, t ∈ l.list → goodB t = true ∧ t.s.size ≤ 1000000)
    (hL : ∀ e st, L (e, st) = (IR.runL E.glob (callL E) [] ir_pick_Text_L0 e st).bind (seqK fun e st => L (compact [] 0 [3, 9, 10, 11] e st))) :
    ∀ (rest : List TermT) (i : Nat) (acc : List (List UInt8)) (g : Nat), l.list.drop i = rest → i ≤ l.list.length → acc.length = i →
    ∃ g', L ([(3, (bld 1 strL g [] acc).1), (9, l.av 5 TermT.cells), (10, vi l.list.length), (11, vi i)], (bld 1 strL g [] acc).2) =
      some (.exit 0, [(3, (bld 1 strL g' [] (acc ++ rest.map textT)).1)], (bld 1 strL g' [] (acc ++ rest.map textT)).2)
  | [], i, acc, g, h, hi', ha => by
    have h1 := drop_nil' h hi'
    refine ⟨g, ?_⟩
    rw [hL]
    simp only [go_sem, reduceIte, reduceCtorEq, Nat.reduceEqDiff, Nat.reduceAdd, Nat.reduceSub, Nat.reduceLT, Nat.reduceLeDiff, Nat.reduceBEq, Nat.reduceMul, Nat.reduceBNe, Int.reduceEq, Int.reduceLT, Int.reduceLE, Int.reduceNe, Int.reduceToNat, ir_pick_Text_L0, h1, List.map_nil, List.append_nil]
  | t :: rest, i, acc, g, h, hi', ha => by
    obtain ⟨h1, h2, h3, h4, h5⟩ := drop_cons h
    have h6 := wrap_succ (i := i) (by omega)
    obtain ⟨k1, k2⟩ := hg t (List.mem_of_getElem? h1)
    have ht := fn_textC' hE hp hi t k1 k2
    have hb : (acc.length + 1) * 16 ≤ 140737488355328 := by omega
    by_cases hne : acc = []
    · subst hne
      obtain ⟨g', ih⟩ := textC_loop hE hp hi l hl hg hL rest (i + 1) [textT t] 0 h2 h4 (by simp at ha ⊢; omega)
      refine ⟨g', ?_⟩
      have e : [] ++ (t :: rest).map textT = [textT t] ++ rest.map textT := rfl
      rw [e, ← ih, hL]
      simp only [go_sem, reduceIte, reduceCtorEq, Nat.reduceEqDiff, Nat.reduceAdd, Nat.reduceSub, Nat.reduceLT, Nat.reduceLeDiff, Nat.reduceBEq, Nat.reduceMul, Nat.reduceBNe, Int.reduceEq, Int.reduceLT, Int.reduceLE, Int.reduceNe, Int.reduceToNat, ir_pick_Text_L0, h1, h3, h6, strL, ht, TermT.cells, bld_ne (List.cons_ne_nil (textT t) []), ro_term, ro_strL]
    · obtain ⟨g', ih⟩ := textC_loop hE hp hi l hl hg hL rest (i + 1) (acc ++ [textT t]) (g + 1) h2 h4 (by simp; omega)
      refine ⟨g', ?_⟩
      have e : acc ++ (t :: rest).map textT = acc ++ [textT t] ++ rest.map textT := by simp
      rw [e, ← ih, hL]
      simp only [go_sem, reduceIte, reduceCtorEq, Nat.reduceEqDiff, Nat.reduceAdd, Nat.reduceSub, Nat.reduceLT, Nat.reduceLeDiff, Nat.reduceBEq, Nat.reduceMul, Nat.reduceBNe, Int.reduceEq, Int.reduceLT, Int.reduceLE, Int.reduceNe, Int.reduceToNat, ir_pick_Text_L0, h1, h3, h6, hb, strL, ht, TermT.cells, bld_ne hne, bld_ne (ne_app acc (textT t)), ro_term, ro_strL]
/-- The names of the terms are no longer than that. -/
abbrev LOK' (l : List TermT) : Prop := ∀ t, t ∈ l → t.s.size ≤ 1000000
theorem fn_good1' {E : Prog} (hE : Std E fns) (hv : VOK E) (t : TermT) (ht : t.s.size ≤ 1000000) : callL E f_pick_Good_1 [.agg t.cells] [] [] = some (vb (!goodB t), []) := by
  have h1 := fn_pickGood hE hv t (by omega)
  simp only [TermT.cells] at h1
  rw [hE.runN rfl rfl]
  simp only [go_sem, reduceIte, reduceCtorEq, Nat.reduceEqDiff, Nat.reduceAdd, Nat.reduceSub, Nat.reduceLT, Nat.reduceLeDiff, Nat.reduceBEq, Nat.reduceMul, Nat.reduceBNe, Int.reduceEq, Int.reduceLT, Int.reduceLE, Int.reduceNe, Int.reduceToNat, ir_pick_Good_1, TermT.cells, h1]
theorem fn_pickGoods' {E : Prog} (hE : Std E fns) (hv : VOK E) (l : Sl TermT) (hl : l.list.length < 9223372036854775807) (ht : LOK' l.list) : callP E f_pick_Good [l.av 5 TermT.cells] = some (vb (goodsB l.list)) := by
  have h1 := fn_ctf0 hE f_pick_Good_1 (fun t => !goodB t) l hl (fun t h => fn_good1' hE hv t (ht t h))
  rw [hE.run rfl rfl]
  unfold goodsB
  by_cases c : l.list.length ≤ 32
  · simp only [go_sem, reduceIte, reduceCtorEq, Nat.reduceEqDiff, Nat.reduceAdd, Nat.reduceSub, Nat.reduceLT, Nat.reduceLeDiff, Nat.reduceBEq, Nat.reduceMul, Nat.reduceBNe, Int.reduceEq, Int.reduceLT, Int.reduceLE, Int.reduceNe, Int.reduceToNat, ir_pick_Good, h1, ro_term, c, show (l.list.length : Int) ≤ 32 by omega]
    rw [any_not goodB]; simp
  · simp only [go_sem, reduceIte, reduceCtorEq, Nat.reduceEqDiff, Nat.reduceAdd, Nat.reduceSub, Nat.reduceLT, Nat.reduceLeDiff, Nat.reduceBEq, Nat.reduceMul, Nat.reduceBNe, Int.reduceEq, Int.reduceLT, Int.reduceLE, Int.reduceNe, Int.reduceToNat, ir_pick_Good, h1, ro_term, c, show ¬ (l.list.length : Int) ≤ 32 by omega]
theorem text_len {t : TermT} (h : goodB t = true) (ht : t.s.size ≤ 1000000) : (textT t).length ≤ 1000008 := by
  obtain ⟨n1, n2, n3, n4, n5⟩ := name_at h
  have h9 := good_ne9 h
  have hk9 := (cmp_of t.field).le
  have hv : (valueT t).length ≤ 1000000 := by
    unfold valueT
    split
    · rw [← ba_size, ba_of]; exact ht
    · split
      · have := ph_len t.n; omega
      · split
        · split <;> decide
        · unfold goodB at h
          rw [goodK_lt t (by omega)] at h
          simp only [Bool.and_eq_true, decide_eq_true_eq] at h
          have := itoa_len15 h.1.2 h.2; omega
  unfold textT
  have h1 : (if t.not = true then [(33 : UInt8)] else []).length ≤ 1 := by split <;> simp
  simp only [List.length_append, List.length_cons]
  omega
theorem fn_pickText {E : Prog} (hE : Std E fns) (hv : VOK E) (hp : PHOK E) (hi : ITOK E) (hj : JOK E) (l : Sl TermT) (hl : l.list.length < 9223372036854775807) (ht : LOK' l.list) :
    callP E f_pick_Text [l.av 5 TermT.cells] = some (vs (BA (if goodsB l.list = true then textS l.list else []))) := by
  have h1 := fn_pickGoods' hE hv l hl ht
  rw [hE.run rfl rfl]
  cases hg : goodsB l.list
  · rw [hg] at h1
    simp only [go_sem, reduceIte, reduceCtorEq, Nat.reduceEqDiff, Nat.reduceAdd, Nat.reduceSub, Nat.reduceLT, Nat.reduceLeDiff, Nat.reduceBEq, Nat.reduceMul, Nat.reduceBNe, Int.reduceEq, Int.reduceLT, Int.reduceLE, Int.reduceNe, Int.reduceToNat, ir_pick_Text, h1, ro_term]
    rfl
  · rw [hg] at h1
    have hg' := hg
    simp only [goodsB, Bool.and_eq_true, decide_eq_true_eq, List.all_eq_true] at hg'
    obtain ⟨g', ih⟩ := textC_loop hE hp hi l (by omega) (fun t m => ⟨hg'.2 t m, ht t m⟩) (loopL_eq (IR.runL E.glob (callL E) [] ir_pick_Text_L0) (compact [] 0 [3, 9, 10, 11])) l.list 0 [] 0 rfl (by omega) rfl
    simp only [Int.natCast_zero, bld_nil, List.nil_append] at ih
    have hjj := hj (l.list.map textT) (by rw [List.length_map]; omega) (fun p hp => by
      obtain ⟨t, m, rfl⟩ := List.mem_map.1 hp
      have := text_len (hg'.2 t m) (ht t m)
      omega)
    rw [if_pos rfl]
    unfold textS
    generalize l.list.map textT = ys at *
    by_cases h0 : ys = []
    · subst h0
      simp only [bld_nil] at ih
      simp only [slOf, av_nil] at hjj
      simp only [go_sem, reduceIte, reduceCtorEq, Nat.reduceEqDiff, Nat.reduceAdd, Nat.reduceSub, Nat.reduceLT, Nat.reduceLeDiff, Nat.reduceBEq, Nat.reduceMul, Nat.reduceBNe, Int.reduceEq, Int.reduceLT, Int.reduceLE, Int.reduceNe, Int.reduceToNat, ir_pick_Text, h1, ih, hjj, ro_term, ro_strL]
    · simp only [bld_ne h0] at ih
      rw [slOf_ne h0] at hjj
      simp only [av_mk] at hjj
      simp only [go_sem, reduceIte, reduceCtorEq, Nat.reduceEqDiff, Nat.reduceAdd, Nat.reduceSub, Nat.reduceLT, Nat.reduceLeDiff, Nat.reduceBEq, Nat.reduceMul, Nat.reduceBNe, Int.reduceEq, Int.reduceLT, Int.reduceLE, Int.reduceNe, Int.reduceToNat, ir_pick_Text, h1, ih, hjj, ro_term, ro_strL]
end Go.Proofs.YtgehbkdpodnajaaDoor.Ev
