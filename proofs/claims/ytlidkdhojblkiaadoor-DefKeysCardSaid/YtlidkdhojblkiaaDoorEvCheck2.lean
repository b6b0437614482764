/-
  Check: a step, a definition.
-/
import Derived.Test.YtlidkdhojblkiaaDoorEvCheck
set_option linter.unusedVariables false
set_option linter.unusedSimpArgs false
namespace Go.Proofs.YtlidkdhojblkiaaDoor.Ev
attribute [local congr] bind_congr_head
attribute [local go_sem] opd_t opd_c opd_g opd_f opds_nil opds_cons get_cons put_some put_none keep_nil keepC_s keepC_n keep_cons runs_nil runs_cons run_op run_opr run_call run_gand run_gor run_gif seqK_norm seqK_exit seqK_ret blkK_norm blkK_exit blkK_ret runL_skip runL_exit runL_ret runL_items runL_seq runL_cond runL_block runL_loop fin_bind finK_norm finK_ret rvs_nil rvs_cons rv_tmp rv_cell tupOf_one tupOf_nil tupOf_two ev_mov ev_pick ev_alloc ev_box ev_build parts_nil parts_cons fills_nil fills_cons ev_bsl ev_bslo ev_load ev_store ev_nilck ev_bin ev_binb ev_aeq ev_un ev_i2i ev_s2b ev_ext ev_fld ev_idxs ev_fa ev_ias ev_len ev_lens ev_s2s ev_mkf ev_rng ev_nxt ev_app bOf_s pvOf_s agOf_s tpOf_s iOf_s sOf_s ite_bind Option.bind_some Option.bind_none if_true if_false ite_true ite_false argEnv_nil argEnv_cons len_av elems_av ias_av cells_av tuple_av AV.tuple AV.cells faF ldAt liveRef aggOf nilckF binV binI binS binB unV Bool.not_true Bool.not_false List.length_nil List.length_cons List.nil_append List.cons_append List.append_nil List.getElem?_cons_zero List.getElem?_cons_succ List.drop_zero List.drop_succ_cons List.drop_nil List.take_zero List.take_succ_cons List.take_nil List.set_cons_zero List.set_cons_succ compact_same compact_new closedB nodupB envIds ids0 upto visit pos sel AV.ids idss idsss Ob.ids AV.ren rens renss Ob.ren renEnv AV.snap snaps stAt okSt putCells List.all_nil List.all_cons List.contains_nil List.contains_cons Bool.and_true Bool.true_and Bool.and_false Bool.false_and Bool.or_true Bool.true_or Bool.or_false Bool.false_or decide_eq_true_eq decide_true decide_false beq_iff_eq bne_iff_ne beq_self_eq_true Bool.not_eq_true' Bool.false_eq_true eq_self and_self and_true true_and and_false false_and or_true true_or or_false false_or not_true_eq_false not_false_eq_true ne_eq Nat.zero_add Nat.add_zero Nat.le_refl Nat.not_lt_zero Nat.lt_irrefl Nat.zero_le Int.toNat_natCast gt_iff_lt ge_iff_le Int.lt_irrefl Int.natCast_nonneg txt_eq get_nil appF elems belows AV.under AV.flat flats List.length_map List.map_append List.map_cons List.map_nil List.length_append take_map_all List.flatten_cons List.flatten_nil bld_nil imp_false false_imp_iff false_implies true_implies implies_true decide_eq_false_iff_not Nat.one_mul Nat.mul_one idsss_app renss_app belowss_app ev_mn ev_mx ev_isnils ev_sls ev_slx evo_none evo_some vals minV maxV minF maxF backId List.getElem?_nil putAll Option.all_none Option.all_some Option.isSome_some intOf aszI compactV_same compactV_new callP_any callN_any ids_avR ren_av under_av snap_av renss_mapf belowss_mapf idsss_mapf isnilsF List.length_eq_zero_iff int_beq int_bne decide_not slx_av Int.toNat_zero

/-! ### a step -/
def timeBad (s : StepT) : Bool := decide (s.timeout < 1) || !tickGood s.timeout || decide (s.prio < 0) || decide (255 < s.prio)
def stepE (pre : List StepT) (s : StepT) : Int :=
  if (!labelGood s.name || !labelGood s.party) = true then 10 else if (pre.any fun x => decide (x.name = s.name)) = true then 6 else if timeBad s = true then 1 else if (!planS s.tr || !planS s.un) = true then 3 else 0
theorem fn_step {E : Prog} (hE : Std E fns) (hv : ∀ s : ByteArray, s.size < 9223372036854775807 → callP E f_utf8_ValidString [vs s] = some (vb (Lib.validD s.data.toList))) (l : Sl StepT) (i : Nat) (s : StepT) (hl : l.list.length < 9223372036854775807)
    (hi : l.list[i]? = some s) (hn : s.name.size < 9223372036854775807) (hp : s.party.size < 9223372036854775807) : callP E f_def_step [l.av 12 StepT.cells, vi i] = some (vi (stepE (l.list.take i) s)) := by
  have h1 := fn_labelGood hE hv s.name hn
  have h2 := fn_labelGood hE hv s.party hp
  have h3 := fn_containsf hE (l.sub 0 i) s (by rw [sub_list]; simp; omega)
  have h4 := fn_backoffGood hE s.tr
  have h5 := fn_backoffGood hE s.un
  have hlt : (i : Int) ≤ (l.list.length : Int) := by have := (List.getElem?_eq_some_iff.1 hi).1; omega
  rw [sub_list, List.drop_zero, Nat.sub_zero] at h3
  simp only [PlanT.cells] at h4 h5
  simp only [StepT.cells] at h3
  rw [hE.run rfl rfl]
  simp only [go_sem, reduceIte, reduceCtorEq, Nat.reduceEqDiff, Nat.reduceAdd, Nat.reduceSub, Nat.reduceLT, Nat.reduceLeDiff, Nat.reduceBEq, Nat.reduceMul, Nat.reduceBNe, Int.reduceEq, Int.reduceLT, Int.reduceLE, Int.reduceNe, Int.reduceToNat, ir_def_step, hi, StepT.cells, h1, h2, h3, h4, h5, hlt, fn_tickGood hE, ro_step, stepE, timeBad]
  cases labelGood s.name
  · simp
  · cases labelGood s.party
    · simp
    · cases (List.take i l.list).any fun x => decide (x.name = s.name)
      · by_cases c1 : s.timeout < 1
        · simp [c1]
        · by_cases c4 : tickGood s.timeout = false
          · simp [c1, c4]
          · by_cases c2 : s.prio < 0
            · simp [c1, c2, c4]
            · by_cases c3 : 255 < s.prio
              · simp [c1, c2, c3, c4]
              · by_cases c5 : planS s.tr = false
                · simp [c1, c2, c3, c4, c5]
                · by_cases c6 : planS s.un = false <;> simp [c1, c2, c3, c4, c5, c6]
      · simp

/-! ### a definition -/
def checkF (pre : List StepT) : List StepT → Int × Int
  | [] => (-1, 0)
  | s :: rest => if stepE pre s = 0 then checkF (pre ++ [s]) rest else (pre.length, stepE pre s)
theorem checkF_zero : ∀ (rest pre : List StepT), (checkF pre rest).2 = 0 → (checkF pre rest).1 = -1
  | [], pre, _ => rfl
  | s :: rest, pre, h => by
    unfold checkF at h ⊢
    split
    · rename_i c
      rw [if_pos c] at h
      exact checkF_zero rest _ h
    · rename_i c
      rw [if_neg c] at h
      exact absurd h c
def checkS (d : DefT) : Int × Int :=
  if labelGood d.name = false then (-1, 10) else if tickGood d.deadline = false then (-1, 1) else if d.steps.list.length = 0 then (-1, 2) else if 32 < d.steps.list.length then (-1, 4) else checkF [] d.steps.list
/-- The names are short. -/
def shortD (d : DefT) : Prop := d.name.size ≤ 100 ∧ d.steps.list.length ≤ 40 ∧ ∀ s, s ∈ d.steps.list → s.name.size ≤ 100 ∧ s.party.size ≤ 100
theorem short_of {d : DefT} (h : smallS d = 0) : shortD d := by
  unfold smallS at h
  split at h
  · cases h
  · split at h
    · cases h
    · split at h
      · cases h
      · rename_i q1 q2 q3
        refine ⟨by omega, by omega, fun x hx => ?_⟩
        simp only [List.any_eq_true, not_exists, not_and, longS, Bool.or_eq_true, decide_eq_true_eq, not_or] at q3
        have := q3 x hx
        omega
theorem check_loop {E : Prog} (hE : Std E fns) (hv : ∀ s : ByteArray, s.size < 9223372036854775807 → callP E f_utf8_ValidString [vs s] = some (vb (Lib.validD s.data.toList))) {L : Env × Store → Option (Sig × Env × Store)} (d : DefT) (hd : shortD d)
    (hL : ∀ e st, L (e, st) = (IR.runL E.glob (callL E) [] ir_def_Check_L0 e st).bind (seqK fun e st => L (compact [] 1 [1, 28, 29] e st))) :
    ∀ (rest : List StepT) (i : Nat), d.steps.list.drop i = rest → i ≤ d.steps.list.length →
    L ([(1, AV.ref 0 0 0 0), (28, vi d.steps.list.length), (29, vi i)], stDef d) = if (checkF (d.steps.list.take i) rest).2 = 0 then some (.exit 1, [], stDef d) else
      some (.ret, [(2, vi (checkF (d.steps.list.take i) rest).1), (3, vi (checkF (d.steps.list.take i) rest).2)], stDef d)
  | [], i, h, hi => by
    have h1 := drop_nil' h hi
    rw [hL]
    simp only [go_sem, reduceIte, reduceCtorEq, Nat.reduceEqDiff, Nat.reduceAdd, Nat.reduceSub, Nat.reduceLT, Nat.reduceLeDiff, Nat.reduceBEq, Nat.reduceMul, Nat.reduceBNe, Int.reduceEq, Int.reduceLT, Int.reduceLE, Int.reduceNe, Int.reduceToNat, ir_def_Check_L0, h1, checkF]
  | x :: rest, i, h, hi => by
    obtain ⟨h1, h2, h3, h4, h5⟩ := drop_cons h
    have hb := hd.2.1
    have h6 := wrap_succ (i := i) (by omega)
    have hm := hd.2.2 x (List.mem_of_getElem? h1)
    have hs := fn_step hE hv d.steps i x (by have := hd.2.1; omega) h1 (by omega) (by omega)
    have et : d.steps.list.take (i + 1) = d.steps.list.take i ++ [x] := by rw [List.take_add_one, h1]; rfl
    have ih := check_loop hE hv d hd hL rest (i + 1) h2 h4
    rw [et] at ih
    have hlen : (d.steps.list.take i).length = i := by simp; omega
    rw [hL]
    by_cases c : stepE (d.steps.list.take i) x = 0
    · rw [c] at hs
      simp only [go_sem, reduceIte, reduceCtorEq, Nat.reduceEqDiff, Nat.reduceAdd, Nat.reduceSub, Nat.reduceLT, Nat.reduceLeDiff, Nat.reduceBEq, Nat.reduceMul, Nat.reduceBNe, Int.reduceEq, Int.reduceLT, Int.reduceLE, Int.reduceNe, Int.reduceToNat, ir_def_Check_L0, h3, hs, h6, checkF, c, ih, ro_step]
    · simp only [go_sem, reduceIte, reduceCtorEq, Nat.reduceEqDiff, Nat.reduceAdd, Nat.reduceSub, Nat.reduceLT, Nat.reduceLeDiff, Nat.reduceBEq, Nat.reduceMul, Nat.reduceBNe, Int.reduceEq, Int.reduceLT, Int.reduceLE, Int.reduceNe, Int.reduceToNat, ir_def_Check_L0, h3, hs, h6, checkF, c, hlen, ro_step]
theorem fn_check {E : Prog} (hE : Std E fns) (hv : ∀ s : ByteArray, s.size < 9223372036854775807 → callP E f_utf8_ValidString [vs s] = some (vb (Lib.validD s.data.toList))) (d : DefT) (hd : shortD d) :
    callP E f_def_Check [.agg d.cells] = some (.tup [vi (checkS d).1, vi (checkS d).2]) := by
  have h1 := fn_labelGood hE hv d.name (by have := hd.1; omega)
  have hl := check_loop hE hv d hd (loopL_eq (IR.runL E.glob (callL E) [] ir_def_Check_L0) (compact [] 1 [1, 28, 29])) _ 0 rfl (by omega)
  simp only [Int.natCast_zero, List.take_zero, List.drop_zero] at hl
  have e0 : ((d.steps.list.length : Int) = 0) = (d.steps.list.length = 0) := by simp
  have e1 : ((32 : Int) < (d.steps.list.length : Int)) = (32 < d.steps.list.length) := by simp; omega
  rw [hE.run rfl rfl]
  simp only [go_sem, reduceIte, reduceCtorEq, Nat.reduceEqDiff, Nat.reduceAdd, Nat.reduceSub, Nat.reduceLT, Nat.reduceLeDiff, Nat.reduceBEq, Nat.reduceMul, Nat.reduceBNe, Int.reduceEq, Int.reduceLT, Int.reduceLE, Int.reduceNe, Int.reduceToNat, ir_def_Check, DefT.cells, h1, fn_tickGood hE, hl, e0, e1, ro_step, checkS]
  by_cases c1 : labelGood d.name = false
  · simp [c1]
  · by_cases c2 : tickGood d.deadline = false
    · simp [c1, c2]
    · by_cases c3 : d.steps.list = []
      · simp [c1, c2, c3]
      · by_cases c4 : 32 < d.steps.list.length
        · simp [c1, c2, c3, c4]
        · by_cases c5 : (checkF [] d.steps.list).2 = 0
          · simp [c1, c2, c3, c4, c5, checkF_zero _ _ c5]
          · simp [c1, c2, c3, c4, c5]
end Go.Proofs.YtlidkdhojblkiaaDoor.Ev
