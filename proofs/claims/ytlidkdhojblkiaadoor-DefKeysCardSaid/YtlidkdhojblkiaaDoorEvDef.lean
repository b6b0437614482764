/-
  Definitions of sagas, as typed values: Small, Parties, End, Same, Own.
-/
import Derived.Test.YtlidkdhojblkiaaDoorEvStr
import Derived.Test.YtlidkdhojblkiaaDoorEvTick
set_option linter.unusedVariables false
set_option linter.unusedSimpArgs false
namespace Go.Proofs.YtlidkdhojblkiaaDoor.Ev
structure PlanT where
  (ret base fac cap : Int)
  deriving DecidableEq
structure StepT where
  (name party : ByteArray)
  (timeout : Int)
  (tr un : PlanT)
  (prio : Int)
  deriving DecidableEq
structure DefT where
  (name : ByteArray)
  (deadline : Int)
  (steps : Sl StepT)
def StepT.cells (s : StepT) : List AV := [vs s.name, vs s.party, vi s.timeout, vi s.tr.ret, vi s.tr.base, vi s.tr.fac, vi s.tr.cap, vi s.un.ret, vi s.un.base, vi s.un.fac, vi s.un.cap, vi s.prio]
def DefT.cells (d : DefT) : List AV := [vs d.name, vi d.deadline, d.steps.av 12 StepT.cells]

def PlanT.cells (p : PlanT) : List AV := [vi p.ret, vi p.base, vi p.fac, vi p.cap]
theorem step_ids (s : StepT) : idss s.cells = [] := rfl
theorem ro_step : Ro StepT.cells := step_ids
theorem step_rens (ρ : Nat → Nat) (s : StepT) : rens ρ s.cells = s.cells := rfl
theorem step_le12 (s : StepT) : (12 ≤ s.cells.length) = True := eq_true (by show 12 ≤ 12; omega)
theorem step_take (s : StepT) : s.cells.take 12 = s.cells := rfl
theorem step_snaps (st : Store) (s : StepT) : snaps st s.cells = some s.cells := rfl
theorem step_belows (n : Nat) (s : StepT) : belows n s.cells = true := rfl
theorem step_len (s : StepT) : (s.cells.length == 12) = true := rfl
attribute [local congr] bind_congr_head
attribute [local go_sem] opd_t opd_c opd_g opd_f opds_nil opds_cons get_cons put_some put_none keep_nil keepC_s keepC_n keep_cons runs_nil runs_cons run_op run_opr run_call run_gand run_gor run_gif seqK_norm seqK_exit seqK_ret blkK_norm blkK_exit blkK_ret runL_skip runL_exit runL_ret runL_items runL_seq runL_cond runL_block runL_loop fin_bind finK_norm finK_ret rvs_nil rvs_cons rv_tmp rv_cell tupOf_one tupOf_nil tupOf_two ev_mov ev_pick ev_alloc ev_box ev_build parts_nil parts_cons fills_nil fills_cons ev_bsl ev_bslo ev_load ev_store ev_nilck ev_bin ev_binb ev_aeq ev_un ev_i2i ev_s2b ev_ext ev_fld ev_idxs ev_fa ev_ias ev_len ev_lens ev_s2s ev_mkf ev_rng ev_nxt ev_app bOf_s pvOf_s agOf_s tpOf_s iOf_s sOf_s ite_bind Option.bind_some Option.bind_none if_true if_false ite_true ite_false argEnv_nil argEnv_cons len_av elems_av ias_av cells_av tuple_av AV.tuple AV.cells faF ldAt liveRef aggOf nilckF binV binI binS binB unV Bool.not_true Bool.not_false List.length_nil List.length_cons List.nil_append List.cons_append List.append_nil List.getElem?_cons_zero List.getElem?_cons_succ List.drop_zero List.drop_succ_cons List.drop_nil List.take_zero List.take_succ_cons List.take_nil List.set_cons_zero List.set_cons_succ compact_same compact_new closedB nodupB envIds ids0 upto visit pos sel AV.ids idss idsss Ob.ids AV.ren rens renss Ob.ren renEnv AV.snap snaps stAt okSt putCells List.all_nil List.all_cons List.contains_nil List.contains_cons Bool.and_true Bool.true_and Bool.and_false Bool.false_and Bool.or_true Bool.true_or Bool.or_false Bool.false_or decide_eq_true_eq decide_true decide_false beq_iff_eq bne_iff_ne beq_self_eq_true Bool.not_eq_true' Bool.false_eq_true eq_self and_self and_true true_and and_false false_and or_true true_or or_false false_or not_true_eq_false not_false_eq_true ne_eq Nat.zero_add Nat.add_zero Nat.le_refl Nat.not_lt_zero Nat.lt_irrefl Nat.zero_le Int.toNat_natCast gt_iff_lt ge_iff_le Int.lt_irrefl Int.natCast_nonneg txt_eq get_nil appF elems belows AV.under AV.flat flats List.length_map List.map_append List.map_cons List.map_nil List.length_append take_map_all List.flatten_cons List.flatten_nil bld_nil imp_false false_imp_iff false_implies true_implies implies_true decide_eq_false_iff_not Nat.one_mul Nat.mul_one idsss_app renss_app belowss_app ev_mn ev_mx ev_isnils ev_sls ev_slx evo_none evo_some vals minV maxV minF maxF backId List.getElem?_nil putAll Option.all_none Option.all_some Option.isSome_some intOf aszI compactV_same compactV_new callP_any callN_any ids_avR ren_av under_av snap_av renss_mapf belowss_mapf idsss_mapf isnilsF List.length_eq_zero_iff int_beq int_bne decide_not slx_av Int.toNat_zero
abbrev stDef (d : DefT) : Store := [Ob.box [vs d.name, vi d.deadline, Sl.av 12 StepT.cells d.steps]]
def longS (s : StepT) : Bool := decide (s.name.size > 100) || decide (s.party.size > 100)
theorem small_loop {G : Nat → Option (List AV)} {raw : Raw} {L : Env × Store → Option (Sig × Env × Store)} (d : DefT) (hs : d.steps.list.length ≤ 40) (hL : ∀ e st, L (e, st) = (IR.runL G raw [] ir_usufructlaw13_Small_L0 e st).bind (seqK fun e st => L (compact [] 1 [1, 3] e st))) :
    ∀ (rest : List StepT) (i : Nat), d.steps.list.drop i = rest → i ≤ d.steps.list.length →
    L ([(1, AV.ref 0 0 0 0), (3, vi i)], stDef d) = if rest.any longS = true then some (.ret, [(2, vi 2)], stDef d) else some (.exit 0, [], stDef d)
  | [], i, h, hi => by
    have h1 := drop_nil' h hi
    rw [hL]
    simp only [go_sem, reduceIte, reduceCtorEq, Nat.reduceEqDiff, Nat.reduceAdd, Nat.reduceSub, Nat.reduceLT, Nat.reduceLeDiff, Nat.reduceBEq, Nat.reduceMul, Nat.reduceBNe, Int.reduceEq, Int.reduceLT, Int.reduceLE, Int.reduceNe, Int.reduceToNat, ir_usufructlaw13_Small_L0, h1, List.any_nil]
  | x :: rest, i, h, hi => by
    obtain ⟨h1, h2, h3, h4, h5⟩ := drop_cons h
    have h6 := wrap_succ (i := i) (by omega)
    have ih := small_loop d hs hL rest (i + 1) h2 h4
    rw [hL]
    simp only [go_sem, reduceIte, reduceCtorEq, Nat.reduceEqDiff, Nat.reduceAdd, Nat.reduceSub, Nat.reduceLT, Nat.reduceLeDiff, Nat.reduceBEq, Nat.reduceMul, Nat.reduceBNe, Int.reduceEq, Int.reduceLT, Int.reduceLE, Int.reduceNe, Int.reduceToNat, ir_usufructlaw13_Small_L0, h1, h3, StepT.cells, h6, ih, List.any_cons, longS]
    by_cases c1 : x.name.size > 100
    · simp [c1, show (100 : Int) < x.name.size by omega]
    · by_cases c2 : x.party.size > 100
      · simp [c1, c2, show ¬ (100 : Int) < x.name.size by omega, show (100 : Int) < x.party.size by omega]
      · simp [c1, c2, show ¬ (100 : Int) < x.name.size by omega, show ¬ (100 : Int) < x.party.size by omega]
def smallS (d : DefT) : Int := if d.steps.list.length > 40 then 1 else if d.name.size > 100 then 1 else if d.steps.list.any longS then 2 else 0
theorem fn_small {E : Prog} (hE : Std E fns) (d : DefT) : callP E f_usufructlaw13_Small [.agg d.cells] = some (vi (smallS d)) := by
  rw [hE.run rfl rfl]
  simp only [go_sem, reduceIte, reduceCtorEq, Nat.reduceEqDiff, Nat.reduceAdd, Nat.reduceSub, Nat.reduceLT, Nat.reduceLeDiff, Nat.reduceBEq, Nat.reduceMul, Nat.reduceBNe, Int.reduceEq, Int.reduceLT, Int.reduceLE, Int.reduceNe, Int.reduceToNat, ir_usufructlaw13_Small, DefT.cells, smallS]
  by_cases c1 : d.steps.list.length > 40
  · simp [c1, show (40 : Int) < d.steps.list.length by omega]
  · by_cases c2 : d.name.size > 100
    · simp [c1, c2, show ¬ (40 : Int) < d.steps.list.length by omega, show (100 : Int) < d.name.size by omega]
    · simp only [show ¬ (40 : Int) < d.steps.list.length by omega, show ¬ (100 : Int) < d.name.size by omega, if_false, c1, c2]
      have := small_loop d (by omega) (loopL_eq (IR.runL E.glob (callL E) [] ir_usufructlaw13_Small_L0) (compact [] 1 [1, 3])) d.steps.list 0 rfl (by omega)
      simp only [Int.natCast_zero] at this
      rw [this]
      split <;> simp only [go_sem, reduceIte, reduceCtorEq, Nat.reduceEqDiff, Nat.reduceAdd, Nat.reduceSub, Nat.reduceLT, Nat.reduceLeDiff, Nat.reduceBEq, Nat.reduceMul, Nat.reduceBNe, Int.reduceEq, Int.reduceLT, Int.reduceLE, Int.reduceNe, Int.reduceToNat]

def addS (out : List ByteArray) (s : StepT) : List ByteArray := if s.party ∈ out then out else out ++ [s.party]
theorem parties_loop {E : Prog} (hE : Std E fns) {L : Env × Store → Option (Sig × Env × Store)} (d : DefT) (hs : d.steps.list.length ≤ 40)
    (hL : ∀ e st, L (e, st) = (IR.runL E.glob (callL E) [] ir_def_Parties_L0 e st).bind (seqK fun e st => L (compact [] 1 [3, 7, 8, 9] e st))) :
    ∀ (rest : List StepT) (i : Nat) (out : List ByteArray) (g : Nat), d.steps.list.drop i = rest → i ≤ d.steps.list.length → out.length ≤ i →
    ∃ g' : Nat, L ([(3, (bld 1 strC g (stDef d) out).1), (7, d.steps.av 12 StepT.cells), (8, vi d.steps.list.length), (9, vi i)], (bld 1 strC g (stDef d) out).2) =
      some (.exit 0, [(3, (bld 1 strC g' (stDef d) (rest.foldl addS out)).1)], (bld 1 strC g' (stDef d) (rest.foldl addS out)).2)
  | [], i, out, g, h, hi, ho => by
    have h1 := drop_nil' h hi
    refine ⟨g, ?_⟩
    rw [hL]
    simp only [go_sem, reduceIte, reduceCtorEq, Nat.reduceEqDiff, Nat.reduceAdd, Nat.reduceSub, Nat.reduceLT, Nat.reduceLeDiff, Nat.reduceBEq, Nat.reduceMul, Nat.reduceBNe, Int.reduceEq, Int.reduceLT, Int.reduceLE, Int.reduceNe, Int.reduceToNat, ir_def_Parties_L0, h1, List.foldl_nil]
  | x :: rest, i, out, g, h, hi, ho => by
    obtain ⟨h1, h2, h3, h4, h5⟩ := drop_cons h
    have h6 := wrap_succ (i := i) (by omega)
    have hc : ∀ l : Sl ByteArray, l.list.length ≤ 40 → callP E f_slices_Contains_string_string [l.av 1 strC, vs x.party] = some (vb (decide (x.party ∈ l.list))) := fun l hl => fn_contains hE l x.party (by omega)
    rw [hL]
    by_cases hne : out = []
    · subst hne
      have hc0 := hc .nil (by simp [Sl.list])
      simp only [Sl.av, Sl.list] at hc0
      obtain ⟨g', ih⟩ := parties_loop hE d hs hL rest (i + 1) [x.party] 0 h2 h4 (by simp)
      refine ⟨g', ?_⟩
      have e : (x :: rest).foldl addS [] = rest.foldl addS [x.party] := by simp [addS]
      rw [e, ← ih]
      simp only [go_sem, reduceIte, reduceCtorEq, Nat.reduceEqDiff, Nat.reduceAdd, Nat.reduceSub, Nat.reduceLT, Nat.reduceLeDiff, Nat.reduceBEq, Nat.reduceMul, Nat.reduceBNe, Int.reduceEq, Int.reduceLT, Int.reduceLE, Int.reduceNe, Int.reduceToNat, ir_def_Parties_L0, h1, h3, StepT.cells, h6, hc0, List.not_mem_nil, bld_ne (List.cons_ne_nil x.party []), ro_step, ro_str, strC]
    · have hc0 := hc (.mk out) (by simp [Sl.list] at ho ⊢; omega)
      simp only [Sl.av, Sl.list] at hc0
      have hb : (out.length + 1) * 16 ≤ 140737488355328 := by omega
      by_cases c : x.party ∈ out
      · obtain ⟨g', ih⟩ := parties_loop hE d hs hL rest (i + 1) out g h2 h4 (by omega)
        refine ⟨g', ?_⟩
        have e : (x :: rest).foldl addS out = rest.foldl addS out := by simp only [List.foldl_cons, addS, if_pos c]
        rw [e, ← ih]
        simp only [go_sem, reduceIte, reduceCtorEq, Nat.reduceEqDiff, Nat.reduceAdd, Nat.reduceSub, Nat.reduceLT, Nat.reduceLeDiff, Nat.reduceBEq, Nat.reduceMul, Nat.reduceBNe, Int.reduceEq, Int.reduceLT, Int.reduceLE, Int.reduceNe, Int.reduceToNat, ir_def_Parties_L0, h1, h3, StepT.cells, h6, bld_ne hne, hc0, stDef, c, ro_step, ro_str]
      · obtain ⟨g', ih⟩ := parties_loop hE d hs hL rest (i + 1) (out ++ [x.party]) (g + 1) h2 h4 (by simp; omega)
        refine ⟨g', ?_⟩
        have e : (x :: rest).foldl addS out = rest.foldl addS (out ++ [x.party]) := by simp only [List.foldl_cons, addS, if_neg c]
        rw [e, ← ih]
        simp only [go_sem, reduceIte, reduceCtorEq, Nat.reduceEqDiff, Nat.reduceAdd, Nat.reduceSub, Nat.reduceLT, Nat.reduceLeDiff, Nat.reduceBEq, Nat.reduceMul, Nat.reduceBNe, Int.reduceEq, Int.reduceLT, Int.reduceLE, Int.reduceNe, Int.reduceToNat, ir_def_Parties_L0, h1, h3, StepT.cells, h6, bld_ne hne, bld_ne (ne_app out x.party), hc0, hb, stDef, c, ro_step, ro_str]
        rfl
def partiesS (d : DefT) : List ByteArray := d.steps.list.foldl addS []
theorem fn_parties {E : Prog} (hE : Std E fns) (d : DefT) (hs : d.steps.list.length ≤ 40) :
    callP E f_def_Parties [.agg d.cells] = some ((slOf (partiesS d)).av 1 strC) := by
  rw [hE.run rfl rfl]
  simp only [go_sem, reduceIte, reduceCtorEq, Nat.reduceEqDiff, Nat.reduceAdd, Nat.reduceSub, Nat.reduceLT, Nat.reduceLeDiff, Nat.reduceBEq, Nat.reduceMul, Nat.reduceBNe, Int.reduceEq, Int.reduceLT, Int.reduceLE, Int.reduceNe, Int.reduceToNat, ir_def_Parties, DefT.cells]
  obtain ⟨g', ih⟩ := parties_loop hE d hs (loopL_eq (IR.runL E.glob (callL E) [] ir_def_Parties_L0) (compact [] 1 [3, 7, 8, 9])) d.steps.list 0 [] 0 rfl (by omega) (by simp)
  simp only [Int.natCast_zero, bld_nil] at ih
  rw [ih]
  by_cases hne : d.steps.list.foldl addS [] = []
  · simp only [go_sem, reduceIte, reduceCtorEq, Nat.reduceEqDiff, Nat.reduceAdd, Nat.reduceSub, Nat.reduceLT, Nat.reduceLeDiff, Nat.reduceBEq, Nat.reduceMul, Nat.reduceBNe, Int.reduceEq, Int.reduceLT, Int.reduceLE, Int.reduceNe, Int.reduceToNat, hne, partiesS, ro_step]; rfl
  · simp only [go_sem, reduceIte, reduceCtorEq, Nat.reduceEqDiff, Nat.reduceAdd, Nat.reduceSub, Nat.reduceLT, Nat.reduceLeDiff, Nat.reduceBEq, Nat.reduceMul, Nat.reduceBNe, Int.reduceEq, Int.reduceLT, Int.reduceLE, Int.reduceNe, Int.reduceToNat, bld_ne hne, ro_step, ro_str, partiesS]
    rw [slOf_ne hne]; rfl


/-! ### steps are the same -/
theorem eqL_step (x y : StepT) : eqL [.s, .s, .i, .i, .i, .i, .i, .i, .i, .i, .i, .i] x.cells y.cells = some (decide (x = y)) := by
  obtain ⟨a1, a2, a3, ⟨b1, b2, b3, b4⟩, ⟨c1, c2, c3, c4⟩, a4⟩ := x
  obtain ⟨x1, x2, x3, ⟨y1, y2, y3, y4⟩, ⟨z1, z2, z3, z4⟩, x4⟩ := y
  simp only [StepT.cells, eqL, eqV, if_true, txt_eq, StepT.mk.injEq, PlanT.mk.injEq, Option.some.injEq, Bool.decide_and, Bool.and_true, Bool.and_assoc, int_beq]
def sameS (a b : DefT) : Bool := decide (a.name = b.name) && decide (a.deadline = b.deadline) && decide (a.steps.list = b.steps.list)
def stTwo (a b : DefT) : Store := [Ob.box [vs a.name, vi a.deadline, Sl.av 12 StepT.cells a.steps], Ob.box [vs b.name, vi b.deadline, Sl.av 12 StepT.cells b.steps]]
theorem sameRef_loop {G : Nat → Option (List AV)} {raw : Raw} {L : Env × Store → Option (Sig × Env × Store)} (a b : DefT) (hlen : a.steps.list.length = b.steps.list.length) (hb : a.steps.list.length < 9223372036854775807)
    (hL : ∀ e st, L (e, st) = (IR.runL G raw [] ir_usufructref13_Same_L0 e st).bind (seqK fun e st => L (compact [] 2 [2, 3, 5] e st))) :
    ∀ (r1 r2 : List StepT) (i : Nat), a.steps.list.drop i = r1 → b.steps.list.drop i = r2 → i ≤ a.steps.list.length →
    L ([(2, AV.ref 0 0 0 0), (3, AV.ref 1 0 0 0), (5, vi i)], stTwo a b) = if r1 = r2 then some (.exit 0, [], stTwo a b) else some (.ret, [(4, vb false)], stTwo a b)
  | [], r2, i, h, k, hi => by
    have h1 := drop_nil' h hi
    have : r2 = [] := by rw [← k]; exact List.drop_of_length_le (by omega)
    subst this
    rw [hL]
    simp only [go_sem, reduceIte, reduceCtorEq, Nat.reduceEqDiff, Nat.reduceAdd, Nat.reduceSub, Nat.reduceLT, Nat.reduceLeDiff, Nat.reduceBEq, Nat.reduceMul, Nat.reduceBNe, Int.reduceEq, Int.reduceLT, Int.reduceLE, Int.reduceNe, Int.reduceToNat, ir_usufructref13_Same_L0, h1, stTwo]
  | x :: r1, [], i, h, k, hi => by
    obtain ⟨_, _, _, h4, _⟩ := drop_cons h
    have := drop_nil' k (by omega)
    omega
  | x :: r1, y :: r2, i, h, k, hi => by
    obtain ⟨h1, h2, h3, h4, h5⟩ := drop_cons h
    obtain ⟨k1, k2, _, _, _⟩ := drop_cons k
    have h6 := wrap_succ (i := i) (by omega)
    have ih := sameRef_loop a b hlen hb hL r1 r2 (i + 1) h2 k2 h4
    have e1 : ∀ s : StepT, aggOf (some 12) s.cells = some (.agg s.cells) := fun _ => rfl
    have he := eqL_step x y
    rw [hL]
    by_cases c : x = y
    · subst c
      simp only [List.cons.injEq, true_and]
      rw [← ih]
      simp only [decide_true] at he
      simp only [StepT.cells] at he
      simp only [go_sem, reduceIte, reduceCtorEq, Nat.reduceEqDiff, Nat.reduceAdd, Nat.reduceSub, Nat.reduceLT, Nat.reduceLeDiff, Nat.reduceBEq, Nat.reduceMul, Nat.reduceBNe, Int.reduceEq, Int.reduceLT, Int.reduceLE, Int.reduceNe, Int.reduceToNat, ir_usufructref13_Same_L0, h1, h3, h6, k1, stTwo, StepT.cells, he]
    · simp only [c, decide_false] at he
      simp only [StepT.cells] at he
      simp only [go_sem, reduceIte, reduceCtorEq, Nat.reduceEqDiff, Nat.reduceAdd, Nat.reduceSub, Nat.reduceLT, Nat.reduceLeDiff, Nat.reduceBEq, Nat.reduceMul, Nat.reduceBNe, Int.reduceEq, Int.reduceLT, Int.reduceLE, Int.reduceNe, Int.reduceToNat, ir_usufructref13_Same_L0, h1, h3, h6, k1, stTwo, StepT.cells, he, List.cons.injEq, c]
theorem fn_sameRef {E : Prog} (hE : Std E fns) (a b : DefT) (hb : a.steps.list.length < 9223372036854775807) : callP E f_usufructref13_Same [.agg a.cells, .agg b.cells] = some (vb (sameS a b)) := by
  rw [hE.run rfl rfl]
  simp only [go_sem, reduceIte, reduceCtorEq, Nat.reduceEqDiff, Nat.reduceAdd, Nat.reduceSub, Nat.reduceLT, Nat.reduceLeDiff, Nat.reduceBEq, Nat.reduceMul, Nat.reduceBNe, Int.reduceEq, Int.reduceLT, Int.reduceLE, Int.reduceNe, Int.reduceToNat, ir_usufructref13_Same, DefT.cells]
  by_cases c1 : a.name = b.name
  · by_cases c2 : a.deadline = b.deadline
    · by_cases c3 : a.steps.list.length = b.steps.list.length
      · have hl := sameRef_loop a b c3 hb (loopL_eq (IR.runL E.glob (callL E) [] ir_usufructref13_Same_L0) (compact [] 2 [2, 3, 5])) _ _ 0 rfl rfl (by omega)
        simp only [Int.natCast_zero, stTwo, c1, c2, List.drop_zero] at hl
        have c3' : (a.steps.list.length : Int) = b.steps.list.length := by omega
        by_cases c4 : a.steps.list = b.steps.list
        · simp only [go_sem, reduceIte, reduceCtorEq, Nat.reduceEqDiff, Nat.reduceAdd, Nat.reduceSub, Nat.reduceLT, Nat.reduceLeDiff, Nat.reduceBEq, Nat.reduceMul, Nat.reduceBNe, Int.reduceEq, Int.reduceLT, Int.reduceLE, Int.reduceNe, Int.reduceToNat, c1, c2, c3, hl, c4, sameS, ro_step]
        · simp only [go_sem, reduceIte, reduceCtorEq, Nat.reduceEqDiff, Nat.reduceAdd, Nat.reduceSub, Nat.reduceLT, Nat.reduceLeDiff, Nat.reduceBEq, Nat.reduceMul, Nat.reduceBNe, Int.reduceEq, Int.reduceLT, Int.reduceLE, Int.reduceNe, Int.reduceToNat, c1, c2, c3, hl, c4, sameS, ro_step]
      · have c3' : ¬ (a.steps.list.length : Int) = b.steps.list.length := by omega
        have c4 : ¬ a.steps.list = b.steps.list := fun e => c3 (by rw [e])
        simp only [go_sem, reduceIte, reduceCtorEq, Nat.reduceEqDiff, Nat.reduceAdd, Nat.reduceSub, Nat.reduceLT, Nat.reduceLeDiff, Nat.reduceBEq, Nat.reduceMul, Nat.reduceBNe, Int.reduceEq, Int.reduceLT, Int.reduceLE, Int.reduceNe, Int.reduceToNat, c1, c2, c3', c4, sameS, ro_step]
    · simp only [go_sem, reduceIte, reduceCtorEq, Nat.reduceEqDiff, Nat.reduceAdd, Nat.reduceSub, Nat.reduceLT, Nat.reduceLeDiff, Nat.reduceBEq, Nat.reduceMul, Nat.reduceBNe, Int.reduceEq, Int.reduceLT, Int.reduceLE, Int.reduceNe, Int.reduceToNat, c1, c2, sameS, ro_step]
  · simp only [go_sem, reduceIte, reduceCtorEq, Nat.reduceEqDiff, Nat.reduceAdd, Nat.reduceSub, Nat.reduceLT, Nat.reduceLeDiff, Nat.reduceBEq, Nat.reduceMul, Nat.reduceBNe, Int.reduceEq, Int.reduceLT, Int.reduceLE, Int.reduceNe, Int.reduceToNat, c1, sameS, ro_step]

/-! ### End, Own -/
def endS (d : DefT) (start : Int) : Int := if d.deadline = 0 then 1099511627777 else tickAdd start d.deadline
theorem fn_end {E : Prog} (hE : Std E fns) (d : DefT) (n : Int) : callP E f_def_End [.agg d.cells, vi n] = some (vi (endS d n)) := by
  rw [hE.run rfl rfl]
  simp only [go_sem, reduceIte, reduceCtorEq, Nat.reduceEqDiff, Nat.reduceAdd, Nat.reduceSub, Nat.reduceLT, Nat.reduceLeDiff, Nat.reduceBEq, Nat.reduceMul, Nat.reduceBNe, Int.reduceEq, Int.reduceLT, Int.reduceLE, Int.reduceNe, Int.reduceToNat, ir_def_End, DefT.cells, fn_tickAdd hE, endS, ro_step]
  split <;> rfl
theorem fn_endRef {E : Prog} (hE : Std E fns) (d : DefT) (n : Int) : callP E f_usufructref13_End [.agg d.cells, vi n] = some (vi (endS d n)) := by
  rw [hE.run rfl rfl]
  simp only [go_sem, reduceIte, reduceCtorEq, Nat.reduceEqDiff, Nat.reduceAdd, Nat.reduceSub, Nat.reduceLT, Nat.reduceLeDiff, Nat.reduceBEq, Nat.reduceMul, Nat.reduceBNe, Int.reduceEq, Int.reduceLT, Int.reduceLE, Int.reduceNe, Int.reduceToNat, ir_usufructref13_End, DefT.cells, fn_ref01Add hE, endS, ro_step]
  split <;> rfl
theorem all_len (xs : List StepT) : ((xs.map StepT.cells).all fun c => c.length == 12) = true := by
  rw [List.all_map]
  exact List.all_eq_true.2 fun x _ => rfl
/-- A copy in a new row. -/
def copyN (s : Sl StepT) : AV × Store := match s with
  | .nil => (.v (.slice none 0 0), [])
  | .mk xs => (.own 0 1 0 xs.length, [.row 12 1 (xs.map StepT.cells) false])
theorem fn_cloneStep {E : Prog} (hE : Std E fns) (s : Sl StepT) (h : s.list.length * 112 ≤ 140737488355328) : callL E f_slices_Clone_api_Step_api_Step [s.av 12 StepT.cells] [] [] = some (copyN s) := by
  rw [hE.runN rfl rfl]
  cases s with
  | nil => simp only [go_sem, reduceIte, reduceCtorEq, Nat.reduceEqDiff, Nat.reduceAdd, Nat.reduceSub, Nat.reduceLT, Nat.reduceLeDiff, Nat.reduceBEq, Nat.reduceMul, Nat.reduceBNe, Int.reduceEq, Int.reduceLT, Int.reduceLE, Int.reduceNe, Int.reduceToNat, ir_slices_Clone_api_Step_api_Step, Sl.av, copyN]
  | mk xs =>
    simp only [Sl.list] at h
    simp only [go_sem, reduceIte, reduceCtorEq, Nat.reduceEqDiff, Nat.reduceAdd, Nat.reduceSub, Nat.reduceLT, Nat.reduceLeDiff, Nat.reduceBEq, Nat.reduceMul, Nat.reduceBNe, Int.reduceEq, Int.reduceLT, Int.reduceLE, Int.reduceNe, Int.reduceToNat, ir_slices_Clone_api_Step_api_Step, Sl.av, copyN, all_len, h, ro_step]
def ownN (d : DefT) : AV × Store := match d.steps with
  | .nil => (.agg [vs d.name, vi d.deadline, .v (.slice none 0 0)], [])
  | .mk xs => (.agg [vs d.name, vi d.deadline, .own 0 1 0 xs.length], [.row 12 1 (xs.map StepT.cells) false])
theorem fn_own {E : Prog} (hE : Std E fns) (d : DefT) (h : d.steps.list.length * 112 ≤ 140737488355328) : callL E f_def_Own [.agg d.cells] [] [] = some (ownN d) := by
  rw [hE.runN rfl rfl]
  have hc := fn_cloneStep hE d.steps h
  obtain ⟨nm, dl, s⟩ := d
  cases s with
  | nil =>
    simp only [Sl.av, copyN] at hc
    simp only [go_sem, reduceIte, reduceCtorEq, Nat.reduceEqDiff, Nat.reduceAdd, Nat.reduceSub, Nat.reduceLT, Nat.reduceLeDiff, Nat.reduceBEq, Nat.reduceMul, Nat.reduceBNe, Int.reduceEq, Int.reduceLT, Int.reduceLE, Int.reduceNe, Int.reduceToNat, ir_def_Own, DefT.cells, Sl.av, ownN, hc, ro_step]
  | mk xs =>
    simp only [Sl.av, copyN] at hc
    simp only [go_sem, reduceIte, reduceCtorEq, Nat.reduceEqDiff, Nat.reduceAdd, Nat.reduceSub, Nat.reduceLT, Nat.reduceLeDiff, Nat.reduceBEq, Nat.reduceMul, Nat.reduceBNe, Int.reduceEq, Int.reduceLT, Int.reduceLE, Int.reduceNe, Int.reduceToNat, ir_def_Own, DefT.cells, Sl.av, ownN, hc, ro_step]
end Go.Proofs.YtlidkdhojblkiaaDoor.Ev
