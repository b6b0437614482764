import Derived.Test.YtoobogpbejdocaaDoorEvSa
import Derived.Test.YtoobogpbejdocaaDoorEvFc3
set_option linter.unusedVariables false
set_option linter.unusedSectionVars false
set_option linter.unusedSimpArgs false
namespace Go.Proofs.YtoobogpbejdocaaDoor.Ev
attribute [local congr] bind_congr_head
attribute [local go_sem] AV.cells AV.tuple elems boxQ callN_any compact_same compact_new aggOf
theorem left_all {E : Prog} (hE : Std E fns) (p : PlanT) (hp : planS p = true) : callP E f_backoff_Left [.agg [vi p.ret, vi p.base, vi p.fac, vi p.cap], vi 0] = some (vi (p.ret + 1)) := by
  have h := fn_left hE p hp 0 (by omega) (by omega)
  have hpo := plan_ok hp
  have q0 := hpo.r0
  rw [if_pos (by omega), Int.sub_zero] at h
  exact h
theorem tries_A {E : Prog} (hE : Std E fns) (hlp : LpO E) (d : DefT) (k : Int) (u : Bool) (e : Int) (p : PlanT) (tmo : Int) (hp : planS p = true) (t1 : 1 ≤ tmo) (t2 : tmo ≤ 1099511627776) (now : Int) (st : Bool) (a : Int) (a0 : 0 ≤ a) (a1 : a ≤ 1099511627776) :
    ∃ (h' : Nat) (a' now' : Int) (st' : Bool) (fin : LS), callL E f_forecast_tries_1 [.yl 0, .ref 7 0 0 0, .ref 8 0 0 0, .ref 9 0 0 0] [] (fcA .rdy d k u e p tmo [] 0 a now st) = some (.tup [], fcA fin d k u e p tmo (trC p tmo k u e (p.ret + 1).toNat 0 a).1 h' a' now' st') ∧
      ((fin = .done 1 ∧ now' = (trC p tmo k u e (p.ret + 1).toNat 0 a).2 ∧ st' = decide (1099511627776 ≤ (trC p tmo k u e (p.ret + 1).toNat 0 a).2)) ∨ (fin = .rdy ∧ (trC p tmo k u e (p.ret + 1).toNat 0 a).2 = e ∧ now' = now ∧ st' = st)) := by
  have hpo := plan_ok hp
  have q0 := hpo.r0; have q1 := hpo.r1
  obtain ⟨h', a', now', st', fin, hi, hd⟩ := it_A hE hlp d k u e p tmo hp t1 t2 now st (loopL_eq (IR.runL E.glob (callL E) [] ir_forecast_tries_1_L0) (compact [] 10 [0, 1, 2, 3, 8, 9])) (p.ret + 1).toNat 0 a [] 0 (by omega) a0 a1 (by simp only [List.length_nil]; omega)
  refine ⟨h', a', now', st', fin, ?_, hd⟩
  rw [List.nil_append] at hi
  rw [← hi, fcA_nil, hE.runN rfl rfl]
  simp -implicitDefEqProofs only [go_sem, ↓reduceIte, ir_forecast_tries_1, left_all hE p hp, kfA, enA, Int.natCast_zero, ro_step]
  try rfl
theorem tries_B {E : Prog} (hE : Std E fns) (hlp : LpO E) (d : DefT) (k : Int) (u : Bool) (e : Int) (p : PlanT) (tmo : Int) (hp : planS p = true) (t1 : 1 ≤ tmo) (t2 : tmo ≤ 1099511627776) (now : Int) (st : Bool) (a : Int) (a0 : 0 ≤ a) (a1 : a ≤ 1099511627776) (P : List WnT) (hne : P ≠ []) (hP : P.length ≤ 3000) (h : Nat) :
    ∃ (h' : Nat) (a' now' : Int) (st' : Bool) (fin : LS), callL E f_forecast_tries_1 [.yl 0, .ref 8 0 0 0, .ref 9 0 0 0, .ref 10 0 0 0] [] (fcB .rdy d k u e p tmo P h a now st) = some (.tup [], fcB fin d k u e p tmo (P ++ (trC p tmo k u e (p.ret + 1).toNat 0 a).1) h' a' now' st') ∧
      ((fin = .done 1 ∧ now' = (trC p tmo k u e (p.ret + 1).toNat 0 a).2 ∧ st' = decide (1099511627776 ≤ (trC p tmo k u e (p.ret + 1).toNat 0 a).2)) ∨ (fin = .rdy ∧ (trC p tmo k u e (p.ret + 1).toNat 0 a).2 = e ∧ now' = now ∧ st' = st)) := by
  have hpo := plan_ok hp
  have q0 := hpo.r0; have q1 := hpo.r1
  obtain ⟨h', a', now', st', fin, hi, hd⟩ := it_B hE hlp d k u e p tmo hp t1 t2 now st (loopL_eq (IR.runL E.glob (callL E) [] ir_forecast_tries_1_L0) (compact [] 11 [0, 1, 2, 3, 8, 9])) (p.ret + 1).toNat 0 a P h (by omega) a0 a1 (by omega) hne
  refine ⟨h', a', now', st', fin, ?_, hd⟩
  rw [← hi, hE.runN rfl rfl]
  simp only [fcB]
  simp -implicitDefEqProofs only [go_sem, ↓reduceIte, ir_forecast_tries_1, left_all hE p hp, kfB, enB, Int.natCast_zero, ro_step, ro_wn]
  try rfl
def crS (d : DefT) (P : List WnT) (h : Nat) (now : Int) (st : Bool) : Store := match P with
  | [] => [.box [vs d.name, vi d.deadline, d.steps.av 12 StepT.cells, nilS, vi now, vb st]]
  | x :: r => [.box [vs d.name, vi d.deadline, d.steps.av 12 StepT.cells, .own 1 h 0 (x :: r).length, vi now, vb st], .row 5 h ((x :: r).map WnT.cells) false]
theorem crS_nil (d : DefT) (h : Nat) (now : Int) (st : Bool) : crS d [] h now st = [.box [vs d.name, vi d.deadline, d.steps.av 12 StepT.cells, nilS, vi now, vb st]] := rfl
theorem crS_ne (d : DefT) {P : List WnT} (hP : P ≠ []) (h : Nat) (now : Int) (st : Bool) : crS d P h now st = [.box [vs d.name, vi d.deadline, d.steps.av 12 StepT.cells, .own 1 h 0 P.length, vi now, vb st], .row 5 h (P.map WnT.cells) false] := by
  cases P with
  | nil => exact absurd rfl hP
  | cons a l => rfl
set_option maxHeartbeats 4000000 in
theorem try_A {E : Prog} (hE : Std E fns) (hlp : LpO E) (d : DefT) (t : StepT) (k : Nat) (ht : d.steps.list[k]? = some t) (hp : planS t.tr = true) (t1 : 1 ≤ t.timeout) (t2 : t.timeout ≤ 1099511627776) (e now : Int) (n0 : 0 ≤ now) (n1 : now ≤ 1099511627776) (st : Bool) :
    ∃ (h' : Nat) (now' : Int), callL E f_forecast_course_try [.ref 0 0 0 0, vi k, vb false, vi e] [] (crS d [] 0 now st) =
      some (.tup [], crS d (trC t.tr t.timeout k false e (t.tr.ret + 1).toNat 0 now).1 h' now' (decide (1099511627776 ≤ (trC t.tr t.timeout k false e (t.tr.ret + 1).toNat 0 now).2))) ∧
      ((trC t.tr t.timeout k false e (t.tr.ret + 1).toNat 0 now).2 < 1099511627776 → now' = (trC t.tr t.timeout k false e (t.tr.ret + 1).toNat 0 now).2) := by
  have h1 := fun p tmo a => fn_tries hE p tmo a
  have c1 : (k : Int) < (d.steps.list.length : Int) := by have := (List.getElem?_eq_some_iff.1 ht).1; omega
  obtain ⟨h', a', now', st', fin, hi, hd⟩ := tries_A hE hlp d k false e t.tr t.timeout hp t1 t2 now true now n0 n1
  rw [fcA_nil] at hi
  generalize trC t.tr t.timeout k false e (t.tr.ret + 1).toNat 0 now = R at *
  obtain ⟨W, z⟩ := R
  dsimp only at *
  rw [crS_nil]
  rcases hd with ⟨rfl, rfl, rfl⟩ | ⟨rfl, rfl, rfl, rfl⟩
  · refine ⟨h', now', ?_, fun _ => rfl⟩
    rw [hE.runN rfl rfl]
    by_cases hne : W = []
    · subst hne
      rw [fcA_nil] at hi
      rw [crS_nil]
      simp -implicitDefEqProofs only [go_sem, ↓reduceIte, ir_forecast_course_try, h1, hi, ht, c1, StepT.cells, ro_step, Int.natCast_nonneg]
      try rfl
    · rw [fcA_ne _ _ _ _ _ _ _ hne] at hi
      rw [crS_ne _ hne]
      simp -implicitDefEqProofs only [go_sem, ↓reduceIte, ir_forecast_course_try, h1, hi, ht, c1, StepT.cells, ro_step, ro_wn, Int.natCast_nonneg]
      try rfl
  · by_cases ce : z < 1099511627776
    · have e2 : decide (1099511627776 ≤ z) = false := by simp; omega
      refine ⟨h', z, ?_, fun _ => rfl⟩
      rw [e2, hE.runN rfl rfl]
      by_cases hne : W = []
      · subst hne
        rw [fcA_nil] at hi
        rw [crS_nil]
        simp -implicitDefEqProofs only [go_sem, ↓reduceIte, ir_forecast_course_try, h1, hi, ht, c1, ce, StepT.cells, ro_step, Int.natCast_nonneg]
        try rfl
      · rw [fcA_ne _ _ _ _ _ _ _ hne] at hi
        rw [crS_ne _ hne]
        simp -implicitDefEqProofs only [go_sem, ↓reduceIte, ir_forecast_course_try, h1, hi, ht, c1, ce, StepT.cells, ro_step, ro_wn, Int.natCast_nonneg]
        try rfl
    · have e2 : decide (1099511627776 ≤ z) = true := by simp; omega
      refine ⟨h', now', ?_, fun h => absurd h ce⟩
      rw [e2, hE.runN rfl rfl]
      by_cases hne : W = []
      · subst hne
        rw [fcA_nil] at hi
        rw [crS_nil]
        simp -implicitDefEqProofs only [go_sem, ↓reduceIte, ir_forecast_course_try, h1, hi, ht, c1, ce, StepT.cells, ro_step, Int.natCast_nonneg]
        try rfl
      · rw [fcA_ne _ _ _ _ _ _ _ hne] at hi
        rw [crS_ne _ hne]
        simp -implicitDefEqProofs only [go_sem, ↓reduceIte, ir_forecast_course_try, h1, hi, ht, c1, ce, StepT.cells, ro_step, ro_wn, Int.natCast_nonneg]
        try rfl
set_option maxHeartbeats 4000000 in
theorem try_B {E : Prog} (hE : Std E fns) (hlp : LpO E) (d : DefT) (t : StepT) (k : Nat) (ht : d.steps.list[k]? = some t) (hp : planS t.un = true) (t1 : 1 ≤ t.timeout) (t2 : t.timeout ≤ 1099511627776) (now : Int) (n0 : 0 ≤ now) (n1 : now ≤ 1099511627776) (st : Bool) (P : List WnT) (hne : P ≠ []) (hP : P.length ≤ 3000) (h : Nat) :
    ∃ (h' : Nat) (now' : Int), callL E f_forecast_course_try [.ref 0 0 0 0, vi k, vb true, vi 1099511627777] [] (crS d P h now st) =
      some (.tup [], crS d (P ++ (trC t.un t.timeout k true 1099511627777 (t.un.ret + 1).toNat 0 now).1) h' now' (decide (1099511627776 ≤ (trC t.un t.timeout k true 1099511627777 (t.un.ret + 1).toNat 0 now).2))) := by
  have h1 := fun p tmo a => fn_tries hE p tmo a
  have c1 : (k : Int) < (d.steps.list.length : Int) := by have := (List.getElem?_eq_some_iff.1 ht).1; omega
  obtain ⟨h', a', now', st', fin, hi, hd⟩ := tries_B hE hlp d k true 1099511627777 t.un t.timeout hp t1 t2 now true now n0 n1 P hne hP h
  generalize trC t.un t.timeout k true 1099511627777 (t.un.ret + 1).toNat 0 now = R at *
  obtain ⟨W, z⟩ := R
  dsimp only at *
  have hne2 : P ++ W ≠ [] := by simp [hne]
  refine ⟨h', now', ?_⟩
  rw [crS_ne _ hne, crS_ne _ hne2, hE.runN rfl rfl]
  generalize P ++ W = P2 at *
  rcases hd with ⟨rfl, rfl, rfl⟩ | ⟨rfl, rfl, rfl, rfl⟩
  · simp only [fcB] at hi
    simp -implicitDefEqProofs only [go_sem, ↓reduceIte, ir_forecast_course_try, h1, hi, ht, c1, StepT.cells, ro_step, ro_wn, Int.natCast_nonneg]
    try rfl
  · simp only [fcB] at hi
    simp -implicitDefEqProofs only [go_sem, ↓reduceIte, ir_forecast_course_try, h1, hi, ht, c1, StepT.cells, ro_step, ro_wn, Int.natCast_nonneg]
    try rfl
end Go.Proofs.YtoobogpbejdocaaDoor.Ev
