import Derived.Test.YtoobogpbejdocaaDoorEvSa
import Derived.Test.YtoobogpbejdocaaDoorEvDf
import Derived.Test.YtoobogpbejdocaaDoorEvUtf3
set_option linter.unusedVariables false
set_option linter.unusedSectionVars false
set_option linter.unusedSimpArgs false
namespace Go.Proofs.YtoobogpbejdocaaDoor.Ev
attribute [local congr] bind_congr_head
attribute [local go_sem] AV.cells AV.tuple elems boxQ callN_any compact_same compact_new aggOf
def planS (p : PlanT) : Bool := decide (0 ≤ p.ret) && decide (p.ret ≤ 1000) && decide (1 ≤ p.base) && decide (1 ≤ p.fac) && decide (p.fac ≤ 16) && decide (p.base ≤ p.cap) && decide (p.cap ≤ 1099511627776)
theorem fn_backoffGood {E : Prog} (hE : Std E fns) (p : PlanT) : callP E f_backoff_Good [.agg p.cells] = some (vb (planS p)) := by
  rw [hE.run rfl rfl]
  simp -implicitDefEqProofs only [go_sem, ir_backoff_Good, PlanT.cells, planS]
  by_cases h1 : 0 ≤ p.ret
  · by_cases h2 : p.ret ≤ 1000
    · by_cases h3 : 1 ≤ p.base
      · by_cases h4 : 1 ≤ p.fac
        · by_cases h5 : p.fac ≤ 16
          · by_cases h6 : p.base ≤ p.cap <;> simp [h1, h2, h3, h4, h5, h6]
          · simp [h1, h2, h3, h4, h5]
        · simp [h1, h2, h3, h4]
      · simp [h1, h2, h3]
    · simp [h1, h2]
  · simp [h1]
theorem fn_ref11Good {E : Prog} (hE : Std E fns) (p : PlanT) : callP E f_usufructref11_Good [.agg p.cells] = some (vb (planS p)) := by
  rw [hE.run rfl rfl]
  simp -implicitDefEqProofs only [go_sem, ir_usufructref11_Good, PlanT.cells, planS]
  by_cases h1 : 0 ≤ p.ret
  · by_cases h2 : p.ret ≤ 1000
    · by_cases h3 : 1 ≤ p.base
      · by_cases h8 : p.base ≤ 1099511627776
        · by_cases h4 : 1 ≤ p.fac
          · by_cases h5 : p.fac ≤ 16
            · by_cases h6 : p.base ≤ p.cap <;> simp [h1, h2, h3, h4, h5, h6, h8]
            · simp [h1, h2, h3, h4, h5, h8]
          · simp [h1, h2, h3, h4, h8]
        · by_cases h6 : p.base ≤ p.cap
          · have h7 : ¬ p.cap ≤ 1099511627776 := by omega
            simp [h1, h2, h3, h6, h7, h8]
          · simp [h1, h2, h3, h6, h8]
      · simp [h1, h2, h3]
    · simp [h1, h2]
  · simp [h1]
theorem fn_step1 {E : Prog} (hE : Std E fns) (x s : StepT) : callL E f_def_step_1 [.agg x.cells, .ref 0 0 0 0] [] [.box s.cells] = some (vb (decide (x.name = s.name)), [.box s.cells]) := by
  rw [hE.runN rfl rfl]
  simp -implicitDefEqProofs only [go_sem, ir_def_step_1, StepT.cells]
theorem indexf_loop {E : Prog} (hE : Std E fns) {L : Env × Store → Option (Sig × Env × Store)} (l : Sl StepT) (s : StepT) (hl : l.list.length < 9223372036854775807)
    (hL : ∀ e st, L (e, st) = (IR.runL E.glob (callL E) [] ir_slices_IndexFunc_api_Step_api_Step_L0 e st).bind (seqK fun e st => L (compact [] 1 [0, 1, 7, 8] e st))) :
    ∀ (rest : List StepT) (i : Nat), l.list.drop i = rest → i ≤ l.list.length →
    ∃ n : Int, (0 ≤ n ↔ (rest.any fun x => decide (x.name = s.name)) = true) ∧ L ([(0, l.av 12 StepT.cells), (1, .fn f_def_step_1 [.ref 0 0 0 0]), (7, vi l.list.length), (8, vi i)], [.box s.cells]) =
      if (rest.any fun x => decide (x.name = s.name)) = true then some (.ret, [(4, vi n)], [.box s.cells]) else some (.exit 0, [], [.box s.cells])
  | [], i, h, hi => by
    have h1 := drop_nil' h hi
    refine ⟨-1, by simp, ?_⟩
    rw [hL]
    simp -implicitDefEqProofs only [go_sem, ir_slices_IndexFunc_api_Step_api_Step_L0, h1, List.any_nil]
  | x :: rest, i, h, hi => by
    obtain ⟨h1, h2, h3, h4, h5⟩ := drop_cons h
    have h6 := wrap_succ (i := i) (by omega)
    obtain ⟨n, hn, ih⟩ := indexf_loop hE l s hl hL rest (i + 1) h2 h4
    have hs := fn_step1 hE x s
    by_cases c : x.name = s.name
    · have hd : decide (x.name = s.name) = true := decide_eq_true c
      rw [hd] at hs
      refine ⟨i, by simp [c], ?_⟩
      rw [hL]
      simp -implicitDefEqProofs only [go_sem, ir_slices_IndexFunc_api_Step_api_Step_L0, h1, h3, step_ids, step_rens, step_le12, step_take, h6, hs, hd, List.any_cons, ro_step]
    · have hd : decide (x.name = s.name) = false := decide_eq_false c
      rw [hd] at hs
      refine ⟨n, by simp [hn, c], ?_⟩
      rw [hL]
      simp -implicitDefEqProofs only [go_sem, ir_slices_IndexFunc_api_Step_api_Step_L0, h1, h3, step_ids, step_rens, step_le12, step_take, h6, hs, hd, List.any_cons, ih, ro_step]
theorem fn_containsf {E : Prog} (hE : Std E fns) (l : Sl StepT) (s : StepT) (hl : l.list.length < 9223372036854775807) :
    callL E f_slices_ContainsFunc_api_Step_api_Step [l.av 12 StepT.cells, .fn f_def_step_1 [.ref 0 0 0 0]] [] [.box s.cells] = some (vb (l.list.any fun x => decide (x.name = s.name)), [.box s.cells]) := by
  obtain ⟨n, hn, ih⟩ := indexf_loop hE l s hl (loopL_eq (IR.runL E.glob (callL E) [] ir_slices_IndexFunc_api_Step_api_Step_L0) (compact [] 1 [0, 1, 7, 8])) l.list 0 rfl (by omega)
  simp only [Int.natCast_zero] at ih
  have h1 : callL E f_slices_IndexFunc_api_Step_api_Step [l.av 12 StepT.cells, .fn f_def_step_1 [.ref 0 0 0 0]] [] [.box s.cells] = some (vi (if (l.list.any fun x => decide (x.name = s.name)) = true then n else -1), [.box s.cells]) := by
    rw [hE.runN rfl rfl]
    cases c : l.list.any fun x => decide (x.name = s.name)
    · simp only [c, Bool.false_eq_true, if_false] at ih
      simp -implicitDefEqProofs only [go_sem, ir_slices_IndexFunc_api_Step_api_Step, ih, ro_step, step_ids, step_rens]
    · simp only [c, if_true] at ih
      simp -implicitDefEqProofs only [go_sem, ir_slices_IndexFunc_api_Step_api_Step, ih, ro_step, step_ids, step_rens]
  rw [hE.runN rfl rfl]
  simp -implicitDefEqProofs only [go_sem, ir_slices_ContainsFunc_api_Step_api_Step, h1, ro_step, step_ids, step_rens]
  cases c : l.list.any fun x => decide (x.name = s.name)
  · simp
  · have : 0 ≤ n := hn.2 c
    simp [this]
def timeBad (s : StepT) : Bool := decide (s.timeout < 1) || !tickGood s.timeout || decide (s.prio < 0) || decide (255 < s.prio)
def stepE (pre : List StepT) (s : StepT) : Int :=
  if (!labelGood s.name || !labelGood s.party) = true then 10 else if (pre.any fun x => decide (x.name = s.name)) = true then 6 else if timeBad s = true then 1 else if (!planS s.tr || !planS s.un) = true then 3 else 0
theorem fn_step {E : Prog} (hE : Std E fns) (hv : ∀ s : ByteArray, s.size < 9223372036854775807 → callP E f_utf8_ValidString [vs s] = some (vb (Lib.validD s.data.toList))) (l : Sl StepT) (i : Nat) (s : StepT) (hl : l.list.length < 9223372036854775807)
    (hi : l.list[i]? = some s) (hn : s.name.size < 9223372036854775807) (hp : s.party.size < 9223372036854775807) : callP E f_def_step [l.av 12 StepT.cells, vi i] = some (vi (stepE (l.list.take i) s)) := by
  have h1 := fn_labelGood hE hv s.name hn
  have h2 := fn_labelGood hE hv s.party hp
  have h3 := fn_containsf hE (l.sub 0 i) s (by rw [sub_list]; simp; omega)
  have h4 := fn_backoffGood hE s.tr
  have h5 := fn_backoffGood hE s.un
  have hlt : (i : Int) ≤ (l.list.length : Int) := by have := (List.getElem?_eq_some_iff.1 hi).1; omega
  rw [sub_list, List.drop_zero, Nat.sub_zero] at h3
  simp only [PlanT.cells] at h4 h5
  simp only [StepT.cells] at h3
  rw [hE.run rfl rfl]
  simp -implicitDefEqProofs only [go_sem, ir_def_step, hi, StepT.cells, h1, h2, h3, h4, h5, hlt, fn_tickGood hE, ro_step, stepE, timeBad]
  cases labelGood s.name
  · simp
  · cases labelGood s.party
    · simp
    · cases (List.take i l.list).any fun x => decide (x.name = s.name)
      · by_cases c1 : s.timeout < 1
        · simp [c1]
        · by_cases c4 : tickGood s.timeout = false
          · simp [c1, c4]
          · by_cases c2 : s.prio < 0
            · simp [c1, c2, c4]
            · by_cases c3 : 255 < s.prio
              · simp [c1, c2, c3, c4]
              · by_cases c5 : planS s.tr = false
                · simp [c1, c2, c3, c4, c5]
                · by_cases c6 : planS s.un = false <;> simp [c1, c2, c3, c4, c5, c6]
      · simp
def checkF (pre : List StepT) : List StepT → Int × Int
  | [] => (-1, 0)
  | s :: rest => if stepE pre s = 0 then checkF (pre ++ [s]) rest else (pre.length, stepE pre s)
theorem checkF_zero : ∀ (rest pre : List StepT), (checkF pre rest).2 = 0 → (checkF pre rest).1 = -1
  | [], pre, _ => rfl
  | s :: rest, pre, h => by
    unfold checkF at h ⊢
    split
    · rename_i c
      rw [if_pos c] at h
      exact checkF_zero rest _ h
    · rename_i c
      rw [if_neg c] at h
      exact absurd h c
def checkS (d : DefT) : Int × Int :=
  if labelGood d.name = false then (-1, 10) else if tickGood d.deadline = false then (-1, 1) else if d.steps.list.length = 0 then (-1, 2) else if 32 < d.steps.list.length then (-1, 4) else checkF [] d.steps.list
def shortD (d : DefT) : Prop := d.name.size ≤ 100 ∧ d.steps.list.length ≤ 40 ∧ ∀ s, s ∈ d.steps.list → s.name.size ≤ 100 ∧ s.party.size ≤ 100
theorem short_of {d : DefT} (h : smallS d = 0) : shortD d := by
  unfold smallS at h
  split at h
  · cases h
  · split at h
    · cases h
    · split at h
      · cases h
      · rename_i q1 q2 q3
        refine ⟨by omega, by omega, fun x hx => ?_⟩
        simp only [List.any_eq_true, not_exists, not_and, longS, Bool.or_eq_true, decide_eq_true_eq, not_or] at q3
        have := q3 x hx
        omega
theorem check_loop {E : Prog} (hE : Std E fns) (hv : ∀ s : ByteArray, s.size < 9223372036854775807 → callP E f_utf8_ValidString [vs s] = some (vb (Lib.validD s.data.toList))) {L : Env × Store → Option (Sig × Env × Store)} (d : DefT) (hd : shortD d)
    (hL : ∀ e st, L (e, st) = (IR.runL E.glob (callL E) [] ir_def_Check_L0 e st).bind (seqK fun e st => L (compact [] 1 [1, 28, 29] e st))) :
    ∀ (rest : List StepT) (i : Nat), d.steps.list.drop i = rest → i ≤ d.steps.list.length →
    L ([(1, AV.ref 0 0 0 0), (28, vi d.steps.list.length), (29, vi i)], stDef d) = if (checkF (d.steps.list.take i) rest).2 = 0 then some (.exit 1, [], stDef d) else
      some (.ret, [(2, vi (checkF (d.steps.list.take i) rest).1), (3, vi (checkF (d.steps.list.take i) rest).2)], stDef d)
  | [], i, h, hi => by
    have h1 := drop_nil' h hi
    rw [hL]
    simp -implicitDefEqProofs only [go_sem, ir_def_Check_L0, h1, checkF]
  | x :: rest, i, h, hi => by
    obtain ⟨h1, h2, h3, h4, h5⟩ := drop_cons h
    have hb := hd.2.1
    have h6 := wrap_succ (i := i) (by omega)
    have hm := hd.2.2 x (List.mem_of_getElem? h1)
    have hs := fn_step hE hv d.steps i x (by have := hd.2.1; omega) h1 (by omega) (by omega)
    have et : d.steps.list.take (i + 1) = d.steps.list.take i ++ [x] := by rw [List.take_add_one, h1]; rfl
    have ih := check_loop hE hv d hd hL rest (i + 1) h2 h4
    rw [et] at ih
    have hlen : (d.steps.list.take i).length = i := by simp; omega
    rw [hL]
    by_cases c : stepE (d.steps.list.take i) x = 0
    · rw [c] at hs
      simp -implicitDefEqProofs only [go_sem, ir_def_Check_L0, h3, hs, h6, checkF, c, ih, ro_step]
    · simp -implicitDefEqProofs only [go_sem, ir_def_Check_L0, h3, hs, h6, checkF, c, hlen, ro_step]
theorem fn_check {E : Prog} (hE : Std E fns) (hv : ∀ s : ByteArray, s.size < 9223372036854775807 → callP E f_utf8_ValidString [vs s] = some (vb (Lib.validD s.data.toList))) (d : DefT) (hd : shortD d) :
    callP E f_def_Check [.agg d.cells] = some (.tup [vi (checkS d).1, vi (checkS d).2]) := by
  have h1 := fn_labelGood hE hv d.name (by have := hd.1; omega)
  have hl := check_loop hE hv d hd (loopL_eq (IR.runL E.glob (callL E) [] ir_def_Check_L0) (compact [] 1 [1, 28, 29])) _ 0 rfl (by omega)
  simp only [Int.natCast_zero, List.take_zero, List.drop_zero] at hl
  have e0 : ((d.steps.list.length : Int) = 0) = (d.steps.list.length = 0) := by simp
  have e1 : ((32 : Int) < (d.steps.list.length : Int)) = (32 < d.steps.list.length) := by simp; omega
  rw [hE.run rfl rfl]
  simp -implicitDefEqProofs only [go_sem, ir_def_Check, DefT.cells, h1, fn_tickGood hE, hl, e0, e1, ro_step, checkS]
  by_cases c1 : labelGood d.name = false
  · simp [c1]
  · by_cases c2 : tickGood d.deadline = false
    · simp [c1, c2]
    · by_cases c3 : d.steps.list = []
      · simp [c1, c2, c3]
      · by_cases c4 : 32 < d.steps.list.length
        · simp [c1, c2, c3, c4]
        · by_cases c5 : (checkF [] d.steps.list).2 = 0
          · simp [c1, c2, c3, c4, c5, checkF_zero _ _ c5]
          · simp [c1, c2, c3, c4, c5]
abbrev stDS (d : DefT) (s : StepT) : Store := [Ob.box [vs d.name, vi d.deadline, Sl.av 12 StepT.cells d.steps], Ob.box s.cells]
theorem dup_loop {G : Nat → Option (List AV)} {raw : Raw} {L : Env × Store → Option (Sig × Env × Store)} (d : DefT) (hs : d.steps.list.length ≤ 40) (s : StepT) (i : Nat) (hi : i ≤ d.steps.list.length)
    (hL : ∀ e st, L (e, st) = (IR.runL G raw [] ir_usufructref13_Check_L0 e st).bind (seqK fun e st => L (compact [] 2 [1, 4, 5, 6] e st))) :
    ∀ (rest : List StepT) (j : Nat), (d.steps.list.take i).drop j = rest → j ≤ i →
    L ([(1, AV.ref 0 0 0 0), (4, vi i), (5, AV.ref 1 0 0 0), (6, vi j)], stDS d s) = if (rest.any fun x => decide (x.name = s.name)) = true then some (.ret, [(2, vi i), (3, vi 6)], stDS d s) else some (.exit 2, [(1, AV.ref 0 0 0 0), (4, vi i), (5, AV.ref 1 0 0 0)], stDS d s)
  | [], j, h, hj => by
    have h1 := drop_nil' h (by simp; omega)
    simp at h1
    have : j = i := by omega
    subst this
    rw [hL]
    simp -implicitDefEqProofs only [go_sem, ir_usufructref13_Check_L0, List.any_nil]
  | x :: rest, j, h, hj => by
    obtain ⟨h1, h2, h3, h4, h5⟩ := drop_cons h
    simp at h3 h4
    have h7 : d.steps.list[j]? = some x := by rw [List.getElem?_take] at h1; split at h1; exact h1; cases h1
    have h6 := wrap_succ (i := j) (by omega)
    have h8 : (j : Int) < (i : Int) := by omega
    have ih := dup_loop d hs s i hi hL rest (j + 1) h2 (by omega)
    rw [hL]
    by_cases c : x.name = s.name
    · simp -implicitDefEqProofs only [go_sem, ir_usufructref13_Check_L0, h7, h8, StepT.cells, c, List.any_cons]
    · simp -implicitDefEqProofs only [go_sem, ir_usufructref13_Check_L0, h7, h8, StepT.cells, c, List.any_cons, h6]
      exact ih
abbrev stDX (d : DefT) (s : StepT) : Store := [Ob.box [vs d.name, vi d.deadline, Sl.av 12 StepT.cells d.steps], Ob.box [vs s.name, vs s.party, vi s.timeout, vi s.tr.ret, vi s.tr.base, vi s.tr.fac, vi s.tr.cap, vi s.un.ret, vi s.un.base, vi s.un.fac, vi s.un.cap, vi s.prio]]
theorem timeBad_ref (s : StepT) : timeBad s = (decide (s.timeout < 1) || decide (1099511627776 < s.timeout) || decide (s.prio < 0) || decide (255 < s.prio)) := by
  unfold timeBad tickGood
  by_cases c1 : s.timeout < 1
  · simp [c1]
  · have : 0 ≤ s.timeout := by omega
    by_cases c2 : s.timeout ≤ 1099511627776
    · have : ¬ 1099511627776 < s.timeout := by omega
      simp [*]
    · have : 1099511627776 < s.timeout := by omega
      simp [*]
set_option maxHeartbeats 8000000 in
theorem checkRef_loop {E : Prog} (hE : Std E fns) {L : Env × Store → Option (Sig × Env × Store)} (d : DefT) (hd : shortD d)
    (hL : ∀ e st, L (e, st) = (IR.runL E.glob (callL E) [] ir_usufructref13_Check_L1 e st).bind (seqK fun e st => L (compact [] 1 [1, 4] e st))) :
    ∀ (rest : List StepT) (i : Nat), d.steps.list.drop i = rest → i ≤ d.steps.list.length →
    ∃ st', L ([(1, AV.ref 0 0 0 0), (4, vi i)], stDef d) = if (checkF (d.steps.list.take i) rest).2 = 0 then some (.exit 0, [], stDef d) else
      some (.ret, [(2, vi (checkF (d.steps.list.take i) rest).1), (3, vi (checkF (d.steps.list.take i) rest).2)], st')
  | [], i, h, hi => by
    have h1 := drop_nil' h hi
    refine ⟨[], ?_⟩
    rw [hL]
    simp -implicitDefEqProofs only [go_sem, ir_usufructref13_Check_L1, h1, checkF]
  | x :: rest, i, h, hi => by
    obtain ⟨h1, h2, h3, h4, h5⟩ := drop_cons h
    have hb := hd.2.1
    have h6 := wrap_succ (i := i) (by omega)
    have hm := hd.2.2 x (List.mem_of_getElem? h1)
    have g1 := fn_refGood hE x.name (by omega)
    have g2 := fn_refGood hE x.party (by omega)
    have g3 := fn_ref11Good hE x.tr
    have g4 := fn_ref11Good hE x.un
    have et : d.steps.list.take (i + 1) = d.steps.list.take i ++ [x] := by rw [List.take_add_one, h1]; rfl
    obtain ⟨st', ih⟩ := checkRef_loop hE d hd hL rest (i + 1) h2 h4
    rw [et] at ih
    have hlen : (d.steps.list.take i).length = i := by simp; omega
    have hdup := dup_loop d hb x i hi (loopL_eq (IR.runL E.glob (callL E) [] ir_usufructref13_Check_L0) (compact [] 2 [1, 4, 5, 6])) _ 0 rfl (by omega)
    simp only [Int.natCast_zero, List.drop_zero, stDS, StepT.cells] at hdup
    simp only [PlanT.cells] at g3 g4
    have htb := timeBad_ref x
    rw [hL]
    by_cases a1 : labelGood x.name = false
    · refine ⟨stDX d x, ?_⟩
      simp -implicitDefEqProofs only [go_sem, ir_usufructref13_Check_L1, h1, h3, StepT.cells, g1, a1, checkF, stepE, hlen, ro_step]
    · simp only [Bool.not_eq_false] at a1
      by_cases a2 : labelGood x.party = false
      · refine ⟨stDX d x, ?_⟩
        simp -implicitDefEqProofs only [go_sem, ir_usufructref13_Check_L1, h1, h3, StepT.cells, g1, g2, a1, a2, checkF, stepE, hlen, ro_step]
      · simp only [Bool.not_eq_false] at a2
        cases a3 : (d.steps.list.take i).any fun y => decide (y.name = x.name)
        · rw [a3] at hdup
          simp only [Bool.false_eq_true, if_false] at hdup
          cases a4 : timeBad x
          · rw [a4] at htb
            simp only [Bool.false_eq, Bool.or_eq_false_iff, decide_eq_false_iff_not] at htb
            obtain ⟨⟨⟨t1, t2⟩, t3⟩, t4⟩ := htb
            by_cases a5 : planS x.tr = false
            · refine ⟨stDX d x, ?_⟩
              simp -implicitDefEqProofs only [go_sem, ir_usufructref13_Check_L1, h1, h3, StepT.cells, g1, g2, a1, a2, a3, a4, hdup, t1, t2, t3, t4, g3, a5, checkF, stepE, hlen, ro_step]
            · simp only [Bool.not_eq_false] at a5
              by_cases a6 : planS x.un = false
              · refine ⟨stDX d x, ?_⟩
                simp -implicitDefEqProofs only [go_sem, ir_usufructref13_Check_L1, h1, h3, StepT.cells, g1, g2, a1, a2, a3, a4, hdup, t1, t2, t3, t4, g3, g4, a5, a6, checkF, stepE, hlen, ro_step]
              · simp only [Bool.not_eq_false] at a6
                refine ⟨st', ?_⟩
                simp -implicitDefEqProofs only [go_sem, ir_usufructref13_Check_L1, h1, h3, StepT.cells, g1, g2, a1, a2, a3, a4, hdup, t1, t2, t3, t4, g3, g4, a5, a6, checkF, stepE, hlen, h6, ih, ro_step]
          · refine ⟨stDX d x, ?_⟩
            rw [a4] at htb
            by_cases t1 : x.timeout < 1
            · simp -implicitDefEqProofs only [go_sem, ir_usufructref13_Check_L1, h1, h3, StepT.cells, g1, g2, a1, a2, a3, a4, hdup, t1, checkF, stepE, hlen, ro_step]
            · by_cases t2 : 1099511627776 < x.timeout
              · simp -implicitDefEqProofs only [go_sem, ir_usufructref13_Check_L1, h1, h3, StepT.cells, g1, g2, a1, a2, a3, a4, hdup, t1, t2, checkF, stepE, hlen, ro_step]
              · by_cases t3 : x.prio < 0
                · simp -implicitDefEqProofs only [go_sem, ir_usufructref13_Check_L1, h1, h3, StepT.cells, g1, g2, a1, a2, a3, a4, hdup, t1, t2, t3, checkF, stepE, hlen, ro_step]
                · have t4 : 255 < x.prio := by simpa [t1, t2, t3] using htb
                  simp -implicitDefEqProofs only [go_sem, ir_usufructref13_Check_L1, h1, h3, StepT.cells, g1, g2, a1, a2, a3, a4, hdup, t1, t2, t3, t4, checkF, stepE, hlen, ro_step]
        · rw [a3] at hdup
          simp only [if_true] at hdup
          refine ⟨stDX d x, ?_⟩
          simp -implicitDefEqProofs only [go_sem, ir_usufructref13_Check_L1, h1, h3, StepT.cells, g1, g2, a1, a2, a3, hdup, checkF, stepE, hlen, ro_step]
theorem fn_checkRef {E : Prog} (hE : Std E fns) (d : DefT) (hd : shortD d) : callP E f_usufructref13_Check [.agg d.cells] = some (.tup [vi (checkS d).1, vi (checkS d).2]) := by
  have h1 := fn_refGood hE d.name (by have := hd.1; omega)
  obtain ⟨st', hl⟩ := checkRef_loop hE d hd (loopL_eq (IR.runL E.glob (callL E) [] ir_usufructref13_Check_L1) (compact [] 1 [1, 4])) _ 0 rfl (by omega)
  simp only [Int.natCast_zero, List.take_zero, List.drop_zero] at hl
  have e1 : ((32 : Int) < (d.steps.list.length : Int)) = (32 < d.steps.list.length) := by simp; omega
  have e2 : tickGood d.deadline = false ↔ (d.deadline < 0 ∨ 1099511627776 < d.deadline) := by unfold tickGood; simp; omega
  rw [hE.run rfl rfl]
  unfold checkS
  by_cases c1 : labelGood d.name = false
  · simp -implicitDefEqProofs only [go_sem, ir_usufructref13_Check, DefT.cells, h1, c1, ro_step]
  · simp only [Bool.not_eq_false] at c1
    by_cases c2 : tickGood d.deadline = false
    · rcases e2.1 c2 with t | t
      · simp -implicitDefEqProofs only [go_sem, ir_usufructref13_Check, DefT.cells, h1, c1, c2, t, ro_step]
      · have t' : ¬ d.deadline < 0 := by omega
        simp -implicitDefEqProofs only [go_sem, ir_usufructref13_Check, DefT.cells, h1, c1, c2, t, t', ro_step]
    · have t : ¬ (d.deadline < 0 ∨ 1099511627776 < d.deadline) := fun q => c2 (e2.2 q)
      obtain ⟨t1, t2⟩ := not_or.1 t
      by_cases c3 : d.steps.list.length = 0
      · have e0 : (d.steps.list.length : Int) < 1 := by omega
        simp only [if_pos c3]
        simp -implicitDefEqProofs only [go_sem, ir_usufructref13_Check, DefT.cells, h1, c1, c2, t1, t2, e0, ro_step]
      · have e0 : ¬ (d.steps.list.length : Int) < 1 := by omega
        simp only [if_neg c3]
        by_cases c4 : 32 < d.steps.list.length
        · simp -implicitDefEqProofs only [go_sem, ir_usufructref13_Check, DefT.cells, h1, c1, c2, t1, t2, e0, e1, c4, ro_step]
        · by_cases c5 : (checkF [] d.steps.list).2 = 0
          · have c6 := checkF_zero _ _ c5
            simp only [c5, if_true] at hl
            simp -implicitDefEqProofs only [go_sem, ir_usufructref13_Check, DefT.cells, h1, c1, c2, t1, t2, e0, e1, c4, c5, c6, hl, ro_step]
          · simp only [c5, if_false] at hl
            simp -implicitDefEqProofs only [go_sem, ir_usufructref13_Check, DefT.cells, h1, c1, c2, t1, t2, e0, e1, c4, c5, hl, ro_step]
            rw [compactV_0 rfl fun _ => rfl]
            rfl
end Go.Proofs.YtoobogpbejdocaaDoor.Ev
