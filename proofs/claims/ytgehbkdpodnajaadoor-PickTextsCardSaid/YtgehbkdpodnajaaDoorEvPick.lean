/-
  Picks: a term, whether it holds of a saga.
-/
import Derived.Test.YtgehbkdpodnajaaDoorEvStr
import Derived.Test.YtgehbkdpodnajaaDoorEvUtf3
set_option linter.unusedVariables false
set_option linter.unusedSimpArgs false
namespace Go.Proofs.YtgehbkdpodnajaaDoor.Ev
attribute [local congr] bind_congr_head
attribute [local go_sem] opd_t opd_c opd_g opd_f opds_nil opds_cons get_cons put_some put_none keep_nil keepC_s keepC_n keep_cons runs_nil runs_cons run_op run_opr run_call run_gand run_gor run_gif seqK_norm seqK_exit seqK_ret blkK_norm blkK_exit blkK_ret runL_skip runL_exit runL_ret runL_items runL_seq runL_cond runL_block runL_loop fin_bind finK_norm finK_ret rvs_nil rvs_cons rv_tmp rv_cell tupOf_one tupOf_nil tupOf_two ev_mov ev_pick ev_alloc ev_box ev_build parts_nil parts_cons fills_nil fills_cons ev_bsl ev_bslo ev_load ev_store ev_nilck ev_bin ev_binb ev_aeq ev_un ev_i2i ev_i2t ev_s2b ev_ext ev_fld ev_idxs ev_fa ev_ias ev_len ev_lens ev_s2s ev_mkf ev_rng ev_nxt ev_app bOf_s pvOf_s agOf_s tpOf_s iOf_s sOf_s ite_bind Option.bind_some Option.bind_none if_true if_false ite_true ite_false argEnv_nil argEnv_cons len_av elems_av ias_av cells_av tuple_av AV.tuple AV.cells faF ldAt liveRef aggOf nilckF binV binI binS binB unV Bool.not_true Bool.not_false List.length_nil List.length_cons List.nil_append List.cons_append List.append_nil List.getElem?_cons_zero List.getElem?_cons_succ List.drop_zero List.drop_succ_cons List.drop_nil List.take_zero List.take_succ_cons List.take_nil List.set_cons_zero List.set_cons_succ compact_same compact_new closedB nodupB envIds ids0 upto visit pos sel AV.ids idss idsss Ob.ids AV.ren rens renss Ob.ren renEnv AV.snap snaps stAt okSt putCells List.all_nil List.all_cons List.contains_nil List.contains_cons Bool.and_true Bool.true_and Bool.and_false Bool.false_and Bool.or_true Bool.true_or Bool.or_false Bool.false_or decide_eq_true_eq decide_true decide_false beq_iff_eq bne_iff_ne beq_self_eq_true Bool.not_eq_true' Bool.false_eq_true eq_self and_self and_true true_and and_false false_and or_true true_or or_false false_or not_true_eq_false not_false_eq_true ne_eq Nat.zero_add Nat.add_zero Nat.le_refl Nat.not_lt_zero Nat.lt_irrefl Nat.zero_le Int.toNat_natCast gt_iff_lt ge_iff_le Int.lt_irrefl Int.natCast_nonneg txt_eq get_nil appF elems belows AV.under AV.flat flats List.length_map List.map_append List.map_cons List.map_nil List.length_append take_map_all List.flatten_cons List.flatten_nil bld_nil imp_false false_imp_iff false_implies true_implies implies_true decide_eq_false_iff_not Nat.one_mul Nat.mul_one idsss_app renss_app belowss_app ev_mn ev_mx ev_isnils ev_sls ev_slx evo_none evo_some vals minV maxV minF maxF backId List.getElem?_nil putAll Option.all_none Option.all_some Option.isSome_some intOf aszI compactV_same compactV_new callP_any callQ_eq callN_any boxQ AV.id? ids_avR ren_av under_av snap_av renss_mapf belowss_mapf idsss_mapf isnilsF List.length_eq_zero_iff int_beq int_bne decide_not slx_av Int.toNat_zero

structure TermT where
  not : Bool
  field : ByteArray
  sign : Int
  n : Int
  s : ByteArray
structure SagaT where
  id : Int
  de : ByteArray
  start : Int
  phase : Int
  step : Int
  tries : Int
  out : Bool
  at_ : Int
  skips : Int
def TermT.cells (t : TermT) : List AV := [vb t.not, vs t.field, vi t.sign, vi t.n, vs t.s]
def SagaT.cells (x : SagaT) : List AV := [vi x.id, vs x.de, vi x.start, vi x.phase, vi x.step, vi x.tries, vb x.out, vi x.at_, vi x.skips]
theorem term_ids (t : TermT) : idss t.cells = [] := rfl
theorem saga_ids (x : SagaT) : idss x.cells = [] := rfl
theorem ro_term : Ro TermT.cells := term_ids
theorem ro_saga : Ro SagaT.cells := saga_ids

/-! ### the fields -/
def wId : ByteArray := ⟨#[105, 100]⟩
def wStart : ByteArray := ⟨#[115, 116, 97, 114, 116]⟩
def wStep : ByteArray := ⟨#[115, 116, 101, 112]⟩
def wTries : ByteArray := ⟨#[116, 114, 105, 101, 115]⟩
def wAt : ByteArray := ⟨#[97, 116]⟩
def wSkips : ByteArray := ⟨#[115, 107, 105, 112, 115]⟩
def wDef : ByteArray := ⟨#[100, 101, 102]⟩
def wPhase : ByteArray := ⟨#[112, 104, 97, 115, 101]⟩
def wOut : ByteArray := ⟨#[111, 117, 116]⟩
/-- Which field a name is: 0 id, 1 start, 2 step, 3 tries, 4 at, 5 skips, 6 def, 7 phase, 8 out, 9 none. -/
def fieldK (f : ByteArray) : Nat :=
  if f = wId then 0 else if f = wStart then 1 else if f = wStep then 2 else if f = wTries then 3 else if f = wAt then 4 else if f = wSkips then 5 else if f = wDef then 6 else if f = wPhase then 7 else if f = wOut then 8 else 9
/-- What the comparisons with the nine names come to. -/
structure Cmp (f : ByteArray) (k : Nat) : Prop where
  c0 : (f = ⟨#[105, 100]⟩) = (k = 0)
  c1 : (f = ⟨#[115, 116, 97, 114, 116]⟩) = (k = 1)
  c2 : (f = ⟨#[115, 116, 101, 112]⟩) = (k = 2)
  c3 : (f = ⟨#[116, 114, 105, 101, 115]⟩) = (k = 3)
  c4 : (f = ⟨#[97, 116]⟩) = (k = 4)
  c5 : (f = ⟨#[115, 107, 105, 112, 115]⟩) = (k = 5)
  c6 : (f = ⟨#[100, 101, 102]⟩) = (k = 6)
  c7 : (f = ⟨#[112, 104, 97, 115, 101]⟩) = (k = 7)
  c8 : (f = ⟨#[111, 117, 116]⟩) = (k = 8)
  le : k ≤ 9
theorem cmp_lit {f : ByteArray} {k : Nat} (h : ∀ j : Fin 9, decide (f = [wId, wStart, wStep, wTries, wAt, wSkips, wDef, wPhase, wOut].getD j.val wId) = decide (k = j.val)) (hk : k ≤ 9) : Cmp f k := by
  have g : ∀ j : Fin 9, (f = [wId, wStart, wStep, wTries, wAt, wSkips, wDef, wPhase, wOut].getD j.val wId) = (k = j.val) := fun j => by
    have := h j
    rw [decide_eq_decide] at this
    exact propext this
  exact ⟨g 0, g 1, g 2, g 3, g 4, g 5, g 6, g 7, g 8, hk⟩
theorem cmp_of (f : ByteArray) : Cmp f (fieldK f) := by
  unfold fieldK
  by_cases h0 : f = wId
  · rw [if_pos h0]; subst h0; exact cmp_lit (by decide) (by decide)
  rw [if_neg h0]
  by_cases h1 : f = wStart
  · rw [if_pos h1]; subst h1; exact cmp_lit (by decide) (by decide)
  rw [if_neg h1]
  by_cases h2 : f = wStep
  · rw [if_pos h2]; subst h2; exact cmp_lit (by decide) (by decide)
  rw [if_neg h2]
  by_cases h3 : f = wTries
  · rw [if_pos h3]; subst h3; exact cmp_lit (by decide) (by decide)
  rw [if_neg h3]
  by_cases h4 : f = wAt
  · rw [if_pos h4]; subst h4; exact cmp_lit (by decide) (by decide)
  rw [if_neg h4]
  by_cases h5 : f = wSkips
  · rw [if_pos h5]; subst h5; exact cmp_lit (by decide) (by decide)
  rw [if_neg h5]
  by_cases h6 : f = wDef
  · rw [if_pos h6]; subst h6; exact cmp_lit (by decide) (by decide)
  rw [if_neg h6]
  by_cases h7 : f = wPhase
  · rw [if_pos h7]; subst h7; exact cmp_lit (by decide) (by decide)
  rw [if_neg h7]
  by_cases h8 : f = wOut
  · rw [if_pos h8]; subst h8; exact cmp_lit (by decide) (by decide)
  rw [if_neg h8]
  refine ⟨?_, ?_, ?_, ?_, ?_, ?_, ?_, ?_, ?_, Nat.le_refl _⟩ <;> simp only [Nat.reduceEqDiff, eq_iff_iff, iff_false] <;> assumption
theorem fn_kind {E : Prog} (hE : Std E fns) (f : ByteArray) : callP E f_usufructref36_kind [vs f] = some (vi (if fieldK f < 6 then 1 else if fieldK f < 9 then 2 else 0)) := by
  have c := cmp_of f
  rw [hE.run rfl rfl]
  generalize fieldK f = k at c ⊢
  have hk := c.le
  have : k = 0 ∨ k = 1 ∨ k = 2 ∨ k = 3 ∨ k = 4 ∨ k = 5 ∨ k = 6 ∨ k = 7 ∨ k = 8 ∨ k = 9 := by omega
  rcases this with rfl | rfl | rfl | rfl | rfl | rfl | rfl | rfl | rfl | rfl <;>
    simp only [go_sem, reduceIte, reduceCtorEq, Nat.reduceEqDiff, Nat.reduceAdd, Nat.reduceSub, Nat.reduceLT, Nat.reduceLeDiff, Nat.reduceBEq, Nat.reduceMul, Nat.reduceBNe, Int.reduceEq, Int.reduceLT, Int.reduceLE, Int.reduceNe, Int.reduceToNat, ir_usufructref36_kind, c.c0, c.c1, c.c2, c.c3, c.c4, c.c5, c.c6, c.c7, c.c8]
def fieldS (k : Nat) (x : SagaT) : Int :=
  match k with
  | 0 => x.id
  | 1 => x.start
  | 2 => x.step
  | 3 => x.tries
  | 4 => x.at_
  | 5 => x.skips
  | 7 => x.phase
  | _ => if x.out = true then 1 else 0
set_option maxHeartbeats 4000000 in
theorem fn_field {E : Prog} (hE : Std E fns) (f : ByteArray) (x : SagaT) : callP E f_pick_field [vs f, .agg x.cells] = some (vi (fieldS (fieldK f) x)) := by
  have c := cmp_of f
  rw [hE.run rfl rfl]
  generalize fieldK f = k at c ⊢
  have hk := c.le
  have : k = 0 ∨ k = 1 ∨ k = 2 ∨ k = 3 ∨ k = 4 ∨ k = 5 ∨ k = 6 ∨ k = 7 ∨ k = 8 ∨ k = 9 := by omega
  cases ho : x.out
  · rcases this with rfl | rfl | rfl | rfl | rfl | rfl | rfl | rfl | rfl | rfl <;>
      simp only [go_sem, reduceIte, reduceCtorEq, Nat.reduceEqDiff, Nat.reduceAdd, Nat.reduceSub, Nat.reduceLT, Nat.reduceLeDiff, Nat.reduceBEq, Nat.reduceMul, Nat.reduceBNe, Int.reduceEq, Int.reduceLT, Int.reduceLE, Int.reduceNe, Int.reduceToNat, ir_pick_field, SagaT.cells, c.c0, c.c1, c.c2, c.c3, c.c4, c.c5, c.c6, c.c7, c.c8, fieldS, ho]
  · rcases this with rfl | rfl | rfl | rfl | rfl | rfl | rfl | rfl | rfl | rfl <;>
      simp only [go_sem, reduceIte, reduceCtorEq, Nat.reduceEqDiff, Nat.reduceAdd, Nat.reduceSub, Nat.reduceLT, Nat.reduceLeDiff, Nat.reduceBEq, Nat.reduceMul, Nat.reduceBNe, Int.reduceEq, Int.reduceLT, Int.reduceLE, Int.reduceNe, Int.reduceToNat, ir_pick_field, SagaT.cells, c.c0, c.c1, c.c2, c.c3, c.c4, c.c5, c.c6, c.c7, c.c8, fieldS, ho]
def cmpS (a b : Int) : Int := if a < b then -1 else if b < a then 1 else 0
theorem fn_nan {E : Prog} (hE : Std E fns) (a : Int) : callP E f_cmp_isNaN_int [vi a] = some (vb false) := by
  rw [hE.run rfl rfl]
  simp only [go_sem, reduceIte, reduceCtorEq, Nat.reduceEqDiff, Nat.reduceAdd, Nat.reduceSub, Nat.reduceLT, Nat.reduceLeDiff, Nat.reduceBEq, Nat.reduceMul, Nat.reduceBNe, Int.reduceEq, Int.reduceLT, Int.reduceLE, Int.reduceNe, Int.reduceToNat, ir_cmp_isNaN_int]
theorem fn_compare {E : Prog} (hE : Std E fns) (a b : Int) : callP E f_cmp_Compare_int [vi a, vi b] = some (vi (cmpS a b)) := by
  rw [hE.run rfl rfl]
  unfold cmpS
  by_cases c1 : a < b
  · simp only [go_sem, reduceIte, reduceCtorEq, Nat.reduceEqDiff, Nat.reduceAdd, Nat.reduceSub, Nat.reduceLT, Nat.reduceLeDiff, Nat.reduceBEq, Nat.reduceMul, Nat.reduceBNe, Int.reduceEq, Int.reduceLT, Int.reduceLE, Int.reduceNe, Int.reduceToNat, ir_cmp_Compare_int, fn_nan hE, c1]
  · by_cases c2 : b < a
    · simp only [go_sem, reduceIte, reduceCtorEq, Nat.reduceEqDiff, Nat.reduceAdd, Nat.reduceSub, Nat.reduceLT, Nat.reduceLeDiff, Nat.reduceBEq, Nat.reduceMul, Nat.reduceBNe, Int.reduceEq, Int.reduceLT, Int.reduceLE, Int.reduceNe, Int.reduceToNat, ir_cmp_Compare_int, fn_nan hE, c1, c2]
    · simp only [go_sem, reduceIte, reduceCtorEq, Nat.reduceEqDiff, Nat.reduceAdd, Nat.reduceSub, Nat.reduceLT, Nat.reduceLeDiff, Nat.reduceBEq, Nat.reduceMul, Nat.reduceBNe, Int.reduceEq, Int.reduceLT, Int.reduceLE, Int.reduceNe, Int.reduceToNat, ir_cmp_Compare_int, fn_nan hE, c1, c2]
theorem fn_numbers {E : Prog} (hE : Std E fns) (f : ByteArray) : callP E f_pick_numbers [vs f] = some (vb (decide (fieldK f < 6))) := by
  have c := cmp_of f
  have h := fn_contains hE (.mk [wId, wStart, wStep, wTries, wAt, wSkips]) f (by simp [Sl.list])
  have e : f ∈ (Sl.mk [wId, wStart, wStep, wTries, wAt, wSkips]).list ↔ fieldK f < 6 := by
    show f ∈ [wId, wStart, wStep, wTries, wAt, wSkips] ↔ _
    simp only [List.mem_cons, List.not_mem_nil, or_false]
    have c0 := c.c0; have c1 := c.c1; have c2 := c.c2; have c3 := c.c3; have c4 := c.c4; have c5 := c.c5
    show (f = ⟨#[105, 100]⟩ ∨ f = ⟨#[115, 116, 97, 114, 116]⟩ ∨ f = ⟨#[115, 116, 101, 112]⟩ ∨ f = ⟨#[116, 114, 105, 101, 115]⟩ ∨ f = ⟨#[97, 116]⟩ ∨ f = ⟨#[115, 107, 105, 112, 115]⟩) ↔ _
    rw [c0, c1, c2, c3, c4, c5]
    omega
  have ed : decide (f ∈ (Sl.mk [wId, wStart, wStep, wTries, wAt, wSkips]).list) = decide (fieldK f < 6) := decide_eq_decide.2 e
  rw [ed] at h
  simp only [av_mk, List.map_cons, List.map_nil, strC, wId, wStart, wStep, wTries, wAt, wSkips] at h
  rw [hE.run rfl rfl]
  simp only [go_sem, reduceIte, reduceCtorEq, Nat.reduceEqDiff, Nat.reduceAdd, Nat.reduceSub, Nat.reduceLT, Nat.reduceLeDiff, Nat.reduceBEq, Nat.reduceMul, Nat.reduceBNe, Int.reduceEq, Int.reduceLT, Int.reduceLE, Int.reduceNe, Int.reduceToNat, ir_pick_numbers, h, ross, belowss, idsss]
end Go.Proofs.YtgehbkdpodnajaaDoor.Ev
