import Derived.Test.YtoobogpbejdocaaDoorEvSa
import Derived.Test.YtoobogpbejdocaaDoorEvFc1
set_option linter.unusedVariables false
set_option linter.unusedSectionVars false
set_option linter.unusedSimpArgs false
namespace Go.Proofs.YtoobogpbejdocaaDoor.Ev
attribute [local congr] bind_congr_head
attribute [local go_sem] AV.cells AV.tuple elems boxQ callN_any compact_same compact_new aggOf
abbrev nilS : AV := .v (.slice none 0 0)
def WnT.cells (w : WnT) : List AV := [vi w.step, vb w.undo, vi w.try_, vi w.fr, vi w.to]
theorem ro_wn : Ro WnT.cells := fun _ => rfl
structure LpO (E : Prog) : Prop where
  loop : E.loop = loops
  np : ∀ k, yB ≤ k → E.prim k = none
theorem fn_tries {E : Prog} (hE : Std E fns) (p : PlanT) (tmo a : Int) : callL E f_forecast_tries [pA p, vi tmo, vi a] [] [] = some (.fn f_forecast_tries_1 [.ref 0 0 0 0, .ref 1 0 0 0, .ref 2 0 0 0], [.box [vi p.ret, vi p.base, vi p.fac, vi p.cap], .box [vi a], .box [vi tmo]]) := by
  rw [hE.runN rfl rfl]
  simp -implicitDefEqProofs only [go_sem, ir_forecast_tries]
  try rfl
section
variable {E : Prog} (hE : Std E fns) (hlp : LpO E) (d : DefT) (k : Int) (u : Bool) (e : Int) (p : PlanT) (tmo a n z : Int) (now : Int) (st : Bool)
include hE hlp
theorem bAn_r1 (c1 : e ≤ a) : callL E 1002400 [.agg [vi 0, vb false, vi (n + 1), vi a, vi z], .ref 1 0 0 0, .ref 3 0 0 0, .ref 4 0 0 0, .ref 5 0 0 0, .ref 6 0 0 0] [] [.loop 1002400 [.ref 1 0 0 0, .ref 3 0 0 0, .ref 4 0 0 0, .ref 5 0 0 0, .ref 6 0 0 0] .busy, .box [.ref 2 0 0 0], .box [vs d.name, vi d.deadline, d.steps.av 12 StepT.cells, nilS, vi now, vb st], .box [vi k], .box [vb u], .box [vi e], .box [vi p.ret, vi p.base, vi p.fac, vi p.cap], .box [vi p.ret, vi p.base, vi p.fac, vi p.cap], .box [vi a], .box [vi tmo], .box [vi 0, vb false, vi (n + 1), vi a, vi z]] = some (vi 1, [.loop 1002400 [.ref 1 0 0 0, .ref 3 0 0 0, .ref 4 0 0 0, .ref 5 0 0 0, .ref 6 0 0 0] .busy, .box [.ref 2 0 0 0], .box [vs d.name, vi d.deadline, d.steps.av 12 StepT.cells, nilS, vi e, vb (decide (1099511627776 ≤ e))], .box [vi k], .box [vb u], .box [vi e], .box [vi p.ret, vi p.base, vi p.fac, vi p.cap], .box [vi p.ret, vi p.base, vi p.fac, vi p.cap], .box [vi a], .box [vi tmo], .box [vi 0, vb false, vi (n + 1), vi a, vi z]]) := by
  rw [callL_loop (hlp.np 1002400 (by decide)) (by rw [hE.fn]; rfl) (by rw [hlp.loop]; rfl) rfl]
  simp -implicitDefEqProofs only [go_sem, ir_forecast_course_try_R0, WnT.cells, c1, ro_step, ro_wn, gor_b, gand_b, Bool.or_eq_true, Bool.and_eq_true, Bool.or_true, Bool.true_or, Bool.true_and, Bool.and_true, Bool.or_false, Bool.false_or, Bool.and_false, decide_true, decide_false]
  try rfl
theorem bAn_r2a (c1 : ¬ e ≤ a) (c2 : e < z) (q0 : 0 ≤ p.ret) (q1 : p.ret ≤ 1000) : callL E 1002400 [.agg [vi 0, vb false, vi (n + 1), vi a, vi z], .ref 1 0 0 0, .ref 3 0 0 0, .ref 4 0 0 0, .ref 5 0 0 0, .ref 6 0 0 0] [] [.loop 1002400 [.ref 1 0 0 0, .ref 3 0 0 0, .ref 4 0 0 0, .ref 5 0 0 0, .ref 6 0 0 0] .busy, .box [.ref 2 0 0 0], .box [vs d.name, vi d.deadline, d.steps.av 12 StepT.cells, nilS, vi now, vb st], .box [vi k], .box [vb u], .box [vi e], .box [vi p.ret, vi p.base, vi p.fac, vi p.cap], .box [vi p.ret, vi p.base, vi p.fac, vi p.cap], .box [vi a], .box [vi tmo], .box [vi 0, vb false, vi (n + 1), vi a, vi z]] = some (vi 1, [.loop 1002400 [.ref 1 0 0 0, .ref 3 0 0 0, .ref 4 0 0 0, .ref 5 0 0 0, .ref 6 0 0 0] .busy, .box [.ref 2 0 0 0], .box [vs d.name, vi d.deadline, d.steps.av 12 StepT.cells, .own 11 0 0 1, vi e, vb (decide (1099511627776 ≤ e))], .box [vi k], .box [vb u], .box [vi e], .box [vi p.ret, vi p.base, vi p.fac, vi p.cap], .box [vi p.ret, vi p.base, vi p.fac, vi p.cap], .box [vi a], .box [vi tmo], .box [vi 0, vb false, vi (n + 1), vi a, vi z], .row 5 0 [WnT.cells (⟨k, u, n + 1, a, e⟩ : WnT)] false]) := by
  have w1 : IntKind.i64.wrap (p.ret + 1) = p.ret + 1 := IntWalk.i64_in _ (by omega)
  rw [callL_loop (hlp.np 1002400 (by decide)) (by rw [hE.fn]; rfl) (by rw [hlp.loop]; rfl) rfl]
  simp -implicitDefEqProofs only [go_sem, ir_forecast_course_try_R0, WnT.cells, c1, c2, w1, ro_step, ro_wn, gor_b, gand_b, Bool.or_eq_true, Bool.and_eq_true, Bool.or_true, Bool.true_or, Bool.true_and, Bool.and_true, Bool.or_false, Bool.false_or, Bool.and_false, decide_true, decide_false]
  try rfl
theorem bAn_r2b (c1 : ¬ e ≤ a) (c2 : ¬ e < z) (c3 : z = e) (c4 : n + 1 ≤ p.ret) (q0 : 0 ≤ p.ret) (q1 : p.ret ≤ 1000) : callL E 1002400 [.agg [vi 0, vb false, vi (n + 1), vi a, vi z], .ref 1 0 0 0, .ref 3 0 0 0, .ref 4 0 0 0, .ref 5 0 0 0, .ref 6 0 0 0] [] [.loop 1002400 [.ref 1 0 0 0, .ref 3 0 0 0, .ref 4 0 0 0, .ref 5 0 0 0, .ref 6 0 0 0] .busy, .box [.ref 2 0 0 0], .box [vs d.name, vi d.deadline, d.steps.av 12 StepT.cells, nilS, vi now, vb st], .box [vi k], .box [vb u], .box [vi e], .box [vi p.ret, vi p.base, vi p.fac, vi p.cap], .box [vi p.ret, vi p.base, vi p.fac, vi p.cap], .box [vi a], .box [vi tmo], .box [vi 0, vb false, vi (n + 1), vi a, vi z]] = some (vi 1, [.loop 1002400 [.ref 1 0 0 0, .ref 3 0 0 0, .ref 4 0 0 0, .ref 5 0 0 0, .ref 6 0 0 0] .busy, .box [.ref 2 0 0 0], .box [vs d.name, vi d.deadline, d.steps.av 12 StepT.cells, .own 11 0 0 1, vi e, vb (decide (1099511627776 ≤ e))], .box [vi k], .box [vb u], .box [vi e], .box [vi p.ret, vi p.base, vi p.fac, vi p.cap], .box [vi p.ret, vi p.base, vi p.fac, vi p.cap], .box [vi a], .box [vi tmo], .box [vi 0, vb false, vi (n + 1), vi a, vi z], .row 5 0 [WnT.cells (⟨k, u, n + 1, a, e⟩ : WnT)] false]) := by
  have w1 : IntKind.i64.wrap (p.ret + 1) = p.ret + 1 := IntWalk.i64_in _ (by omega)
  subst c3
  rw [callL_loop (hlp.np 1002400 (by decide)) (by rw [hE.fn]; rfl) (by rw [hlp.loop]; rfl) rfl]
  simp -implicitDefEqProofs only [go_sem, ir_forecast_course_try_R0, WnT.cells, c1, c2, w1, c4, ro_step, ro_wn, gor_b, gand_b, Bool.or_eq_true, Bool.and_eq_true, Bool.or_true, Bool.true_or, Bool.true_and, Bool.and_true, Bool.or_false, Bool.false_or, Bool.and_false, decide_true, decide_false]
  try rfl
theorem bAn_r3 (c1 : ¬ e ≤ a) (c2 : ¬ e < z) (c4 : ¬ n + 1 ≤ p.ret) (c5 : n = p.ret) (q0 : 0 ≤ p.ret) (q1 : p.ret ≤ 1000) : callL E 1002400 [.agg [vi 0, vb false, vi (n + 1), vi a, vi z], .ref 1 0 0 0, .ref 3 0 0 0, .ref 4 0 0 0, .ref 5 0 0 0, .ref 6 0 0 0] [] [.loop 1002400 [.ref 1 0 0 0, .ref 3 0 0 0, .ref 4 0 0 0, .ref 5 0 0 0, .ref 6 0 0 0] .busy, .box [.ref 2 0 0 0], .box [vs d.name, vi d.deadline, d.steps.av 12 StepT.cells, nilS, vi now, vb st], .box [vi k], .box [vb u], .box [vi e], .box [vi p.ret, vi p.base, vi p.fac, vi p.cap], .box [vi p.ret, vi p.base, vi p.fac, vi p.cap], .box [vi a], .box [vi tmo], .box [vi 0, vb false, vi (n + 1), vi a, vi z]] = some (vi 1, [.loop 1002400 [.ref 1 0 0 0, .ref 3 0 0 0, .ref 4 0 0 0, .ref 5 0 0 0, .ref 6 0 0 0] .busy, .box [.ref 2 0 0 0], .box [vs d.name, vi d.deadline, d.steps.av 12 StepT.cells, .own 11 0 0 1, vi z, vb (decide (1099511627776 ≤ z))], .box [vi k], .box [vb u], .box [vi e], .box [vi p.ret, vi p.base, vi p.fac, vi p.cap], .box [vi p.ret, vi p.base, vi p.fac, vi p.cap], .box [vi a], .box [vi tmo], .box [vi 0, vb false, vi (n + 1), vi a, vi z], .row 5 0 [WnT.cells (⟨k, u, n + 1, a, z⟩ : WnT)] false]) := by
  have w1 : IntKind.i64.wrap (p.ret + 1) = p.ret + 1 := IntWalk.i64_in _ (by omega)
  have c6 : n + 1 = p.ret + 1 := by omega
  subst c5
  clear c6
  rw [callL_loop (hlp.np 1002400 (by decide)) (by rw [hE.fn]; rfl) (by rw [hlp.loop]; rfl) rfl]
  simp -implicitDefEqProofs only [go_sem, ir_forecast_course_try_R0, WnT.cells, c1, c2, w1, c4, ro_step, ro_wn, gor_b, gand_b, Bool.or_eq_true, Bool.and_eq_true, Bool.or_true, Bool.true_or, Bool.true_and, Bool.and_true, Bool.or_false, Bool.false_or, Bool.and_false, decide_true, decide_false]
  try rfl
theorem bAn_r4 (c1 : ¬ e ≤ a) (c2 : ¬ e < z) (c3 : ¬ z = e) (c5 : ¬ n = p.ret) (q0 : 0 ≤ p.ret) (q1 : p.ret ≤ 1000) : callL E 1002400 [.agg [vi 0, vb false, vi (n + 1), vi a, vi z], .ref 1 0 0 0, .ref 3 0 0 0, .ref 4 0 0 0, .ref 5 0 0 0, .ref 6 0 0 0] [] [.loop 1002400 [.ref 1 0 0 0, .ref 3 0 0 0, .ref 4 0 0 0, .ref 5 0 0 0, .ref 6 0 0 0] .busy, .box [.ref 2 0 0 0], .box [vs d.name, vi d.deadline, d.steps.av 12 StepT.cells, nilS, vi now, vb st], .box [vi k], .box [vb u], .box [vi e], .box [vi p.ret, vi p.base, vi p.fac, vi p.cap], .box [vi p.ret, vi p.base, vi p.fac, vi p.cap], .box [vi a], .box [vi tmo], .box [vi 0, vb false, vi (n + 1), vi a, vi z]] = some (vi 0, [.loop 1002400 [.ref 1 0 0 0, .ref 3 0 0 0, .ref 4 0 0 0, .ref 5 0 0 0, .ref 6 0 0 0] .busy, .box [.ref 2 0 0 0], .box [vs d.name, vi d.deadline, d.steps.av 12 StepT.cells, .own 11 0 0 1, vi now, vb st], .box [vi k], .box [vb u], .box [vi e], .box [vi p.ret, vi p.base, vi p.fac, vi p.cap], .box [vi p.ret, vi p.base, vi p.fac, vi p.cap], .box [vi a], .box [vi tmo], .box [vi 0, vb false, vi (n + 1), vi a, vi z], .row 5 0 [WnT.cells (⟨k, u, n + 1, a, z⟩ : WnT)] false]) := by
  have w1 : IntKind.i64.wrap (p.ret + 1) = p.ret + 1 := IntWalk.i64_in _ (by omega)
  have c6 : ¬ n + 1 = p.ret + 1 := by omega
  rw [callL_loop (hlp.np 1002400 (by decide)) (by rw [hE.fn]; rfl) (by rw [hlp.loop]; rfl) rfl]
  simp -implicitDefEqProofs only [go_sem, ir_forecast_course_try_R0, WnT.cells, c1, c2, w1, c3, c6, ro_step, ro_wn, gor_b, gand_b, Bool.or_eq_true, Bool.and_eq_true, Bool.or_true, Bool.true_or, Bool.true_and, Bool.and_true, Bool.or_false, Bool.false_or, Bool.and_false, decide_true, decide_false]
  try rfl
theorem bAr_r1 (P : List WnT) (h : Nat) (hP : P.length ≤ 100000) (c1 : e ≤ a) : callL E 1002400 [.agg [vi 0, vb false, vi (n + 1), vi a, vi z], .ref 1 0 0 0, .ref 3 0 0 0, .ref 4 0 0 0, .ref 5 0 0 0, .ref 6 0 0 0] [] [.loop 1002400 [.ref 1 0 0 0, .ref 3 0 0 0, .ref 4 0 0 0, .ref 5 0 0 0, .ref 6 0 0 0] .busy, .box [.ref 2 0 0 0], .box [vs d.name, vi d.deadline, d.steps.av 12 StepT.cells, .own 10 h 0 (P).length, vi now, vb st], .box [vi k], .box [vb u], .box [vi e], .box [vi p.ret, vi p.base, vi p.fac, vi p.cap], .box [vi p.ret, vi p.base, vi p.fac, vi p.cap], .box [vi a], .box [vi tmo], .row 5 h ((P).map WnT.cells) false, .box [vi 0, vb false, vi (n + 1), vi a, vi z]] = some (vi 1, [.loop 1002400 [.ref 1 0 0 0, .ref 3 0 0 0, .ref 4 0 0 0, .ref 5 0 0 0, .ref 6 0 0 0] .busy, .box [.ref 2 0 0 0], .box [vs d.name, vi d.deadline, d.steps.av 12 StepT.cells, .own 10 h 0 (P).length, vi e, vb (decide (1099511627776 ≤ e))], .box [vi k], .box [vb u], .box [vi e], .box [vi p.ret, vi p.base, vi p.fac, vi p.cap], .box [vi p.ret, vi p.base, vi p.fac, vi p.cap], .box [vi a], .box [vi tmo], .row 5 h ((P).map WnT.cells) false, .box [vi 0, vb false, vi (n + 1), vi a, vi z]]) := by
  rw [callL_loop (hlp.np 1002400 (by decide)) (by rw [hE.fn]; rfl) (by rw [hlp.loop]; rfl) rfl]
  simp -implicitDefEqProofs only [go_sem, ir_forecast_course_try_R0, WnT.cells, c1, ro_step, ro_wn, gor_b, gand_b, Bool.or_eq_true, Bool.and_eq_true, Bool.or_true, Bool.true_or, Bool.true_and, Bool.and_true, Bool.or_false, Bool.false_or, Bool.and_false, decide_true, decide_false]
  try rfl
theorem bAr_r2a (P : List WnT) (h : Nat) (hP : P.length ≤ 100000) (c1 : ¬ e ≤ a) (c2 : e < z) (q0 : 0 ≤ p.ret) (q1 : p.ret ≤ 1000) : callL E 1002400 [.agg [vi 0, vb false, vi (n + 1), vi a, vi z], .ref 1 0 0 0, .ref 3 0 0 0, .ref 4 0 0 0, .ref 5 0 0 0, .ref 6 0 0 0] [] [.loop 1002400 [.ref 1 0 0 0, .ref 3 0 0 0, .ref 4 0 0 0, .ref 5 0 0 0, .ref 6 0 0 0] .busy, .box [.ref 2 0 0 0], .box [vs d.name, vi d.deadline, d.steps.av 12 StepT.cells, .own 10 h 0 (P).length, vi now, vb st], .box [vi k], .box [vb u], .box [vi e], .box [vi p.ret, vi p.base, vi p.fac, vi p.cap], .box [vi p.ret, vi p.base, vi p.fac, vi p.cap], .box [vi a], .box [vi tmo], .row 5 h ((P).map WnT.cells) false, .box [vi 0, vb false, vi (n + 1), vi a, vi z]] = some (vi 1, [.loop 1002400 [.ref 1 0 0 0, .ref 3 0 0 0, .ref 4 0 0 0, .ref 5 0 0 0, .ref 6 0 0 0] .busy, .box [.ref 2 0 0 0], .box [vs d.name, vi d.deadline, d.steps.av 12 StepT.cells, .own 10 (h + 1) 0 (P ++ [(⟨k, u, n + 1, a, e⟩ : WnT)]).length, vi e, vb (decide (1099511627776 ≤ e))], .box [vi k], .box [vb u], .box [vi e], .box [vi p.ret, vi p.base, vi p.fac, vi p.cap], .box [vi p.ret, vi p.base, vi p.fac, vi p.cap], .box [vi a], .box [vi tmo], .row 5 (h + 1) ((P ++ [(⟨k, u, n + 1, a, e⟩ : WnT)]).map WnT.cells) false, .box [vi 0, vb false, vi (n + 1), vi a, vi z]]) := by
  have w1 : IntKind.i64.wrap (p.ret + 1) = p.ret + 1 := IntWalk.i64_in _ (by omega)
  have a1 : (P.length + 1) * 40 ≤ 140737488355328 := by omega
  have b1 : (P ++ [(⟨k, u, n + 1, a, e⟩ : WnT)]).length = P.length + 1 := by simp
  have b2 : (P ++ [(⟨k, u, n + 1, a, e⟩ : WnT)]).map WnT.cells = P.map WnT.cells ++ [WnT.cells (⟨k, u, n + 1, a, e⟩ : WnT)] := by simp
  have b3 : ∀ x, (P.map WnT.cells ++ [x]).take (P.length + 1) = P.map WnT.cells ++ [x] := fun x => List.take_of_length_le (by simp)
  have b4 : (P.map WnT.cells).take P.length = P.map WnT.cells := List.take_of_length_le (by simp)
  rw [b1, b2]
  rw [callL_loop (hlp.np 1002400 (by decide)) (by rw [hE.fn]; rfl) (by rw [hlp.loop]; rfl) rfl]
  simp -implicitDefEqProofs only [go_sem, ir_forecast_course_try_R0, WnT.cells, c1, c2, w1, a1, b3, b4, ro_step, ro_wn, gor_b, gand_b, Bool.or_eq_true, Bool.and_eq_true, Bool.or_true, Bool.true_or, Bool.true_and, Bool.and_true, Bool.or_false, Bool.false_or, Bool.and_false, decide_true, decide_false]
  try rfl
theorem bAr_r2b (P : List WnT) (h : Nat) (hP : P.length ≤ 100000) (c1 : ¬ e ≤ a) (c2 : ¬ e < z) (c3 : z = e) (c4 : n + 1 ≤ p.ret) (q0 : 0 ≤ p.ret) (q1 : p.ret ≤ 1000) : callL E 1002400 [.agg [vi 0, vb false, vi (n + 1), vi a, vi z], .ref 1 0 0 0, .ref 3 0 0 0, .ref 4 0 0 0, .ref 5 0 0 0, .ref 6 0 0 0] [] [.loop 1002400 [.ref 1 0 0 0, .ref 3 0 0 0, .ref 4 0 0 0, .ref 5 0 0 0, .ref 6 0 0 0] .busy, .box [.ref 2 0 0 0], .box [vs d.name, vi d.deadline, d.steps.av 12 StepT.cells, .own 10 h 0 (P).length, vi now, vb st], .box [vi k], .box [vb u], .box [vi e], .box [vi p.ret, vi p.base, vi p.fac, vi p.cap], .box [vi p.ret, vi p.base, vi p.fac, vi p.cap], .box [vi a], .box [vi tmo], .row 5 h ((P).map WnT.cells) false, .box [vi 0, vb false, vi (n + 1), vi a, vi z]] = some (vi 1, [.loop 1002400 [.ref 1 0 0 0, .ref 3 0 0 0, .ref 4 0 0 0, .ref 5 0 0 0, .ref 6 0 0 0] .busy, .box [.ref 2 0 0 0], .box [vs d.name, vi d.deadline, d.steps.av 12 StepT.cells, .own 10 (h + 1) 0 (P ++ [(⟨k, u, n + 1, a, e⟩ : WnT)]).length, vi e, vb (decide (1099511627776 ≤ e))], .box [vi k], .box [vb u], .box [vi e], .box [vi p.ret, vi p.base, vi p.fac, vi p.cap], .box [vi p.ret, vi p.base, vi p.fac, vi p.cap], .box [vi a], .box [vi tmo], .row 5 (h + 1) ((P ++ [(⟨k, u, n + 1, a, e⟩ : WnT)]).map WnT.cells) false, .box [vi 0, vb false, vi (n + 1), vi a, vi z]]) := by
  have w1 : IntKind.i64.wrap (p.ret + 1) = p.ret + 1 := IntWalk.i64_in _ (by omega)
  have a1 : (P.length + 1) * 40 ≤ 140737488355328 := by omega
  have b1 : (P ++ [(⟨k, u, n + 1, a, e⟩ : WnT)]).length = P.length + 1 := by simp
  have b2 : (P ++ [(⟨k, u, n + 1, a, e⟩ : WnT)]).map WnT.cells = P.map WnT.cells ++ [WnT.cells (⟨k, u, n + 1, a, e⟩ : WnT)] := by simp
  have b3 : ∀ x, (P.map WnT.cells ++ [x]).take (P.length + 1) = P.map WnT.cells ++ [x] := fun x => List.take_of_length_le (by simp)
  have b4 : (P.map WnT.cells).take P.length = P.map WnT.cells := List.take_of_length_le (by simp)
  rw [b1, b2]
  subst c3
  rw [callL_loop (hlp.np 1002400 (by decide)) (by rw [hE.fn]; rfl) (by rw [hlp.loop]; rfl) rfl]
  simp -implicitDefEqProofs only [go_sem, ir_forecast_course_try_R0, WnT.cells, c1, c2, w1, c4, a1, b3, b4, ro_step, ro_wn, gor_b, gand_b, Bool.or_eq_true, Bool.and_eq_true, Bool.or_true, Bool.true_or, Bool.true_and, Bool.and_true, Bool.or_false, Bool.false_or, Bool.and_false, decide_true, decide_false]
  try rfl
theorem bAr_r3 (P : List WnT) (h : Nat) (hP : P.length ≤ 100000) (c1 : ¬ e ≤ a) (c2 : ¬ e < z) (c4 : ¬ n + 1 ≤ p.ret) (c5 : n = p.ret) (q0 : 0 ≤ p.ret) (q1 : p.ret ≤ 1000) : callL E 1002400 [.agg [vi 0, vb false, vi (n + 1), vi a, vi z], .ref 1 0 0 0, .ref 3 0 0 0, .ref 4 0 0 0, .ref 5 0 0 0, .ref 6 0 0 0] [] [.loop 1002400 [.ref 1 0 0 0, .ref 3 0 0 0, .ref 4 0 0 0, .ref 5 0 0 0, .ref 6 0 0 0] .busy, .box [.ref 2 0 0 0], .box [vs d.name, vi d.deadline, d.steps.av 12 StepT.cells, .own 10 h 0 (P).length, vi now, vb st], .box [vi k], .box [vb u], .box [vi e], .box [vi p.ret, vi p.base, vi p.fac, vi p.cap], .box [vi p.ret, vi p.base, vi p.fac, vi p.cap], .box [vi a], .box [vi tmo], .row 5 h ((P).map WnT.cells) false, .box [vi 0, vb false, vi (n + 1), vi a, vi z]] = some (vi 1, [.loop 1002400 [.ref 1 0 0 0, .ref 3 0 0 0, .ref 4 0 0 0, .ref 5 0 0 0, .ref 6 0 0 0] .busy, .box [.ref 2 0 0 0], .box [vs d.name, vi d.deadline, d.steps.av 12 StepT.cells, .own 10 (h + 1) 0 (P ++ [(⟨k, u, n + 1, a, z⟩ : WnT)]).length, vi z, vb (decide (1099511627776 ≤ z))], .box [vi k], .box [vb u], .box [vi e], .box [vi p.ret, vi p.base, vi p.fac, vi p.cap], .box [vi p.ret, vi p.base, vi p.fac, vi p.cap], .box [vi a], .box [vi tmo], .row 5 (h + 1) ((P ++ [(⟨k, u, n + 1, a, z⟩ : WnT)]).map WnT.cells) false, .box [vi 0, vb false, vi (n + 1), vi a, vi z]]) := by
  have w1 : IntKind.i64.wrap (p.ret + 1) = p.ret + 1 := IntWalk.i64_in _ (by omega)
  have c6 : n + 1 = p.ret + 1 := by omega
  have a1 : (P.length + 1) * 40 ≤ 140737488355328 := by omega
  have b1 : (P ++ [(⟨k, u, n + 1, a, z⟩ : WnT)]).length = P.length + 1 := by simp
  have b2 : (P ++ [(⟨k, u, n + 1, a, z⟩ : WnT)]).map WnT.cells = P.map WnT.cells ++ [WnT.cells (⟨k, u, n + 1, a, z⟩ : WnT)] := by simp
  have b3 : ∀ x, (P.map WnT.cells ++ [x]).take (P.length + 1) = P.map WnT.cells ++ [x] := fun x => List.take_of_length_le (by simp)
  have b4 : (P.map WnT.cells).take P.length = P.map WnT.cells := List.take_of_length_le (by simp)
  rw [b1, b2]
  subst c5
  clear c6
  rw [callL_loop (hlp.np 1002400 (by decide)) (by rw [hE.fn]; rfl) (by rw [hlp.loop]; rfl) rfl]
  simp -implicitDefEqProofs only [go_sem, ir_forecast_course_try_R0, WnT.cells, c1, c2, w1, a1, b3, b4, c4, ro_step, ro_wn, gor_b, gand_b, Bool.or_eq_true, Bool.and_eq_true, Bool.or_true, Bool.true_or, Bool.true_and, Bool.and_true, Bool.or_false, Bool.false_or, Bool.and_false, decide_true, decide_false]
  try rfl
theorem bAr_r4 (P : List WnT) (h : Nat) (hP : P.length ≤ 100000) (c1 : ¬ e ≤ a) (c2 : ¬ e < z) (c3 : ¬ z = e) (c5 : ¬ n = p.ret) (q0 : 0 ≤ p.ret) (q1 : p.ret ≤ 1000) : callL E 1002400 [.agg [vi 0, vb false, vi (n + 1), vi a, vi z], .ref 1 0 0 0, .ref 3 0 0 0, .ref 4 0 0 0, .ref 5 0 0 0, .ref 6 0 0 0] [] [.loop 1002400 [.ref 1 0 0 0, .ref 3 0 0 0, .ref 4 0 0 0, .ref 5 0 0 0, .ref 6 0 0 0] .busy, .box [.ref 2 0 0 0], .box [vs d.name, vi d.deadline, d.steps.av 12 StepT.cells, .own 10 h 0 (P).length, vi now, vb st], .box [vi k], .box [vb u], .box [vi e], .box [vi p.ret, vi p.base, vi p.fac, vi p.cap], .box [vi p.ret, vi p.base, vi p.fac, vi p.cap], .box [vi a], .box [vi tmo], .row 5 h ((P).map WnT.cells) false, .box [vi 0, vb false, vi (n + 1), vi a, vi z]] = some (vi 0, [.loop 1002400 [.ref 1 0 0 0, .ref 3 0 0 0, .ref 4 0 0 0, .ref 5 0 0 0, .ref 6 0 0 0] .busy, .box [.ref 2 0 0 0], .box [vs d.name, vi d.deadline, d.steps.av 12 StepT.cells, .own 10 (h + 1) 0 (P ++ [(⟨k, u, n + 1, a, z⟩ : WnT)]).length, vi now, vb st], .box [vi k], .box [vb u], .box [vi e], .box [vi p.ret, vi p.base, vi p.fac, vi p.cap], .box [vi p.ret, vi p.base, vi p.fac, vi p.cap], .box [vi a], .box [vi tmo], .row 5 (h + 1) ((P ++ [(⟨k, u, n + 1, a, z⟩ : WnT)]).map WnT.cells) false, .box [vi 0, vb false, vi (n + 1), vi a, vi z]]) := by
  have w1 : IntKind.i64.wrap (p.ret + 1) = p.ret + 1 := IntWalk.i64_in _ (by omega)
  have c6 : ¬ n + 1 = p.ret + 1 := by omega
  have a1 : (P.length + 1) * 40 ≤ 140737488355328 := by omega
  have b1 : (P ++ [(⟨k, u, n + 1, a, z⟩ : WnT)]).length = P.length + 1 := by simp
  have b2 : (P ++ [(⟨k, u, n + 1, a, z⟩ : WnT)]).map WnT.cells = P.map WnT.cells ++ [WnT.cells (⟨k, u, n + 1, a, z⟩ : WnT)] := by simp
  have b3 : ∀ x, (P.map WnT.cells ++ [x]).take (P.length + 1) = P.map WnT.cells ++ [x] := fun x => List.take_of_length_le (by simp)
  have b4 : (P.map WnT.cells).take P.length = P.map WnT.cells := List.take_of_length_le (by simp)
  rw [b1, b2]
  rw [callL_loop (hlp.np 1002400 (by decide)) (by rw [hE.fn]; rfl) (by rw [hlp.loop]; rfl) rfl]
  simp -implicitDefEqProofs only [go_sem, ir_forecast_course_try_R0, WnT.cells, c1, c2, w1, c3, c6, a1, b3, b4, ro_step, ro_wn, gor_b, gand_b, Bool.or_eq_true, Bool.and_eq_true, Bool.or_true, Bool.true_or, Bool.true_and, Bool.and_true, Bool.or_false, Bool.false_or, Bool.and_false, decide_true, decide_false]
  try rfl
theorem bBr_r1 (P : List WnT) (h : Nat) (hP : P.length ≤ 100000) (c1 : e ≤ a) : callL E 1002400 [.agg [vi 0, vb false, vi (n + 1), vi a, vi z], .ref 1 0 0 0, .ref 4 0 0 0, .ref 5 0 0 0, .ref 6 0 0 0, .ref 7 0 0 0] [] [.loop 1002400 [.ref 1 0 0 0, .ref 4 0 0 0, .ref 5 0 0 0, .ref 6 0 0 0, .ref 7 0 0 0] .busy, .box [.ref 2 0 0 0], .box [vs d.name, vi d.deadline, d.steps.av 12 StepT.cells, .own 3 h 0 (P).length, vi now, vb st], .row 5 h ((P).map WnT.cells) false, .box [vi k], .box [vb u], .box [vi e], .box [vi p.ret, vi p.base, vi p.fac, vi p.cap], .box [vi p.ret, vi p.base, vi p.fac, vi p.cap], .box [vi a], .box [vi tmo], .box [vi 0, vb false, vi (n + 1), vi a, vi z]] = some (vi 1, [.loop 1002400 [.ref 1 0 0 0, .ref 4 0 0 0, .ref 5 0 0 0, .ref 6 0 0 0, .ref 7 0 0 0] .busy, .box [.ref 2 0 0 0], .box [vs d.name, vi d.deadline, d.steps.av 12 StepT.cells, .own 3 h 0 (P).length, vi e, vb (decide (1099511627776 ≤ e))], .row 5 h ((P).map WnT.cells) false, .box [vi k], .box [vb u], .box [vi e], .box [vi p.ret, vi p.base, vi p.fac, vi p.cap], .box [vi p.ret, vi p.base, vi p.fac, vi p.cap], .box [vi a], .box [vi tmo], .box [vi 0, vb false, vi (n + 1), vi a, vi z]]) := by
  rw [callL_loop (hlp.np 1002400 (by decide)) (by rw [hE.fn]; rfl) (by rw [hlp.loop]; rfl) rfl]
  simp -implicitDefEqProofs only [go_sem, ir_forecast_course_try_R0, WnT.cells, c1, ro_step, ro_wn, gor_b, gand_b, Bool.or_eq_true, Bool.and_eq_true, Bool.or_true, Bool.true_or, Bool.true_and, Bool.and_true, Bool.or_false, Bool.false_or, Bool.and_false, decide_true, decide_false]
  try rfl
theorem bBr_r2a (P : List WnT) (h : Nat) (hP : P.length ≤ 100000) (c1 : ¬ e ≤ a) (c2 : e < z) (q0 : 0 ≤ p.ret) (q1 : p.ret ≤ 1000) : callL E 1002400 [.agg [vi 0, vb false, vi (n + 1), vi a, vi z], .ref 1 0 0 0, .ref 4 0 0 0, .ref 5 0 0 0, .ref 6 0 0 0, .ref 7 0 0 0] [] [.loop 1002400 [.ref 1 0 0 0, .ref 4 0 0 0, .ref 5 0 0 0, .ref 6 0 0 0, .ref 7 0 0 0] .busy, .box [.ref 2 0 0 0], .box [vs d.name, vi d.deadline, d.steps.av 12 StepT.cells, .own 3 h 0 (P).length, vi now, vb st], .row 5 h ((P).map WnT.cells) false, .box [vi k], .box [vb u], .box [vi e], .box [vi p.ret, vi p.base, vi p.fac, vi p.cap], .box [vi p.ret, vi p.base, vi p.fac, vi p.cap], .box [vi a], .box [vi tmo], .box [vi 0, vb false, vi (n + 1), vi a, vi z]] = some (vi 1, [.loop 1002400 [.ref 1 0 0 0, .ref 4 0 0 0, .ref 5 0 0 0, .ref 6 0 0 0, .ref 7 0 0 0] .busy, .box [.ref 2 0 0 0], .box [vs d.name, vi d.deadline, d.steps.av 12 StepT.cells, .own 3 (h + 1) 0 (P ++ [(⟨k, u, n + 1, a, e⟩ : WnT)]).length, vi e, vb (decide (1099511627776 ≤ e))], .row 5 (h + 1) ((P ++ [(⟨k, u, n + 1, a, e⟩ : WnT)]).map WnT.cells) false, .box [vi k], .box [vb u], .box [vi e], .box [vi p.ret, vi p.base, vi p.fac, vi p.cap], .box [vi p.ret, vi p.base, vi p.fac, vi p.cap], .box [vi a], .box [vi tmo], .box [vi 0, vb false, vi (n + 1), vi a, vi z]]) := by
  have w1 : IntKind.i64.wrap (p.ret + 1) = p.ret + 1 := IntWalk.i64_in _ (by omega)
  have a1 : (P.length + 1) * 40 ≤ 140737488355328 := by omega
  have b1 : (P ++ [(⟨k, u, n + 1, a, e⟩ : WnT)]).length = P.length + 1 := by simp
  have b2 : (P ++ [(⟨k, u, n + 1, a, e⟩ : WnT)]).map WnT.cells = P.map WnT.cells ++ [WnT.cells (⟨k, u, n + 1, a, e⟩ : WnT)] := by simp
  have b3 : ∀ x, (P.map WnT.cells ++ [x]).take (P.length + 1) = P.map WnT.cells ++ [x] := fun x => List.take_of_length_le (by simp)
  have b4 : (P.map WnT.cells).take P.length = P.map WnT.cells := List.take_of_length_le (by simp)
  rw [b1, b2]
  rw [callL_loop (hlp.np 1002400 (by decide)) (by rw [hE.fn]; rfl) (by rw [hlp.loop]; rfl) rfl]
  simp -implicitDefEqProofs only [go_sem, ir_forecast_course_try_R0, WnT.cells, c1, c2, w1, a1, b3, b4, ro_step, ro_wn, gor_b, gand_b, Bool.or_eq_true, Bool.and_eq_true, Bool.or_true, Bool.true_or, Bool.true_and, Bool.and_true, Bool.or_false, Bool.false_or, Bool.and_false, decide_true, decide_false]
  try rfl
theorem bBr_r2b (P : List WnT) (h : Nat) (hP : P.length ≤ 100000) (c1 : ¬ e ≤ a) (c2 : ¬ e < z) (c3 : z = e) (c4 : n + 1 ≤ p.ret) (q0 : 0 ≤ p.ret) (q1 : p.ret ≤ 1000) : callL E 1002400 [.agg [vi 0, vb false, vi (n + 1), vi a, vi z], .ref 1 0 0 0, .ref 4 0 0 0, .ref 5 0 0 0, .ref 6 0 0 0, .ref 7 0 0 0] [] [.loop 1002400 [.ref 1 0 0 0, .ref 4 0 0 0, .ref 5 0 0 0, .ref 6 0 0 0, .ref 7 0 0 0] .busy, .box [.ref 2 0 0 0], .box [vs d.name, vi d.deadline, d.steps.av 12 StepT.cells, .own 3 h 0 (P).length, vi now, vb st], .row 5 h ((P).map WnT.cells) false, .box [vi k], .box [vb u], .box [vi e], .box [vi p.ret, vi p.base, vi p.fac, vi p.cap], .box [vi p.ret, vi p.base, vi p.fac, vi p.cap], .box [vi a], .box [vi tmo], .box [vi 0, vb false, vi (n + 1), vi a, vi z]] = some (vi 1, [.loop 1002400 [.ref 1 0 0 0, .ref 4 0 0 0, .ref 5 0 0 0, .ref 6 0 0 0, .ref 7 0 0 0] .busy, .box [.ref 2 0 0 0], .box [vs d.name, vi d.deadline, d.steps.av 12 StepT.cells, .own 3 (h + 1) 0 (P ++ [(⟨k, u, n + 1, a, e⟩ : WnT)]).length, vi e, vb (decide (1099511627776 ≤ e))], .row 5 (h + 1) ((P ++ [(⟨k, u, n + 1, a, e⟩ : WnT)]).map WnT.cells) false, .box [vi k], .box [vb u], .box [vi e], .box [vi p.ret, vi p.base, vi p.fac, vi p.cap], .box [vi p.ret, vi p.base, vi p.fac, vi p.cap], .box [vi a], .box [vi tmo], .box [vi 0, vb false, vi (n + 1), vi a, vi z]]) := by
  have w1 : IntKind.i64.wrap (p.ret + 1) = p.ret + 1 := IntWalk.i64_in _ (by omega)
  have a1 : (P.length + 1) * 40 ≤ 140737488355328 := by omega
  have b1 : (P ++ [(⟨k, u, n + 1, a, e⟩ : WnT)]).length = P.length + 1 := by simp
  have b2 : (P ++ [(⟨k, u, n + 1, a, e⟩ : WnT)]).map WnT.cells = P.map WnT.cells ++ [WnT.cells (⟨k, u, n + 1, a, e⟩ : WnT)] := by simp
  have b3 : ∀ x, (P.map WnT.cells ++ [x]).take (P.length + 1) = P.map WnT.cells ++ [x] := fun x => List.take_of_length_le (by simp)
  have b4 : (P.map WnT.cells).take P.length = P.map WnT.cells := List.take_of_length_le (by simp)
  rw [b1, b2]
  subst c3
  rw [callL_loop (hlp.np 1002400 (by decide)) (by rw [hE.fn]; rfl) (by rw [hlp.loop]; rfl) rfl]
  simp -implicitDefEqProofs only [go_sem, ir_forecast_course_try_R0, WnT.cells, c1, c2, w1, c4, a1, b3, b4, ro_step, ro_wn, gor_b, gand_b, Bool.or_eq_true, Bool.and_eq_true, Bool.or_true, Bool.true_or, Bool.true_and, Bool.and_true, Bool.or_false, Bool.false_or, Bool.and_false, decide_true, decide_false]
  try rfl
theorem bBr_r3 (P : List WnT) (h : Nat) (hP : P.length ≤ 100000) (c1 : ¬ e ≤ a) (c2 : ¬ e < z) (c4 : ¬ n + 1 ≤ p.ret) (c5 : n = p.ret) (q0 : 0 ≤ p.ret) (q1 : p.ret ≤ 1000) : callL E 1002400 [.agg [vi 0, vb false, vi (n + 1), vi a, vi z], .ref 1 0 0 0, .ref 4 0 0 0, .ref 5 0 0 0, .ref 6 0 0 0, .ref 7 0 0 0] [] [.loop 1002400 [.ref 1 0 0 0, .ref 4 0 0 0, .ref 5 0 0 0, .ref 6 0 0 0, .ref 7 0 0 0] .busy, .box [.ref 2 0 0 0], .box [vs d.name, vi d.deadline, d.steps.av 12 StepT.cells, .own 3 h 0 (P).length, vi now, vb st], .row 5 h ((P).map WnT.cells) false, .box [vi k], .box [vb u], .box [vi e], .box [vi p.ret, vi p.base, vi p.fac, vi p.cap], .box [vi p.ret, vi p.base, vi p.fac, vi p.cap], .box [vi a], .box [vi tmo], .box [vi 0, vb false, vi (n + 1), vi a, vi z]] = some (vi 1, [.loop 1002400 [.ref 1 0 0 0, .ref 4 0 0 0, .ref 5 0 0 0, .ref 6 0 0 0, .ref 7 0 0 0] .busy, .box [.ref 2 0 0 0], .box [vs d.name, vi d.deadline, d.steps.av 12 StepT.cells, .own 3 (h + 1) 0 (P ++ [(⟨k, u, n + 1, a, z⟩ : WnT)]).length, vi z, vb (decide (1099511627776 ≤ z))], .row 5 (h + 1) ((P ++ [(⟨k, u, n + 1, a, z⟩ : WnT)]).map WnT.cells) false, .box [vi k], .box [vb u], .box [vi e], .box [vi p.ret, vi p.base, vi p.fac, vi p.cap], .box [vi p.ret, vi p.base, vi p.fac, vi p.cap], .box [vi a], .box [vi tmo], .box [vi 0, vb false, vi (n + 1), vi a, vi z]]) := by
  have w1 : IntKind.i64.wrap (p.ret + 1) = p.ret + 1 := IntWalk.i64_in _ (by omega)
  have c6 : n + 1 = p.ret + 1 := by omega
  have a1 : (P.length + 1) * 40 ≤ 140737488355328 := by omega
  have b1 : (P ++ [(⟨k, u, n + 1, a, z⟩ : WnT)]).length = P.length + 1 := by simp
  have b2 : (P ++ [(⟨k, u, n + 1, a, z⟩ : WnT)]).map WnT.cells = P.map WnT.cells ++ [WnT.cells (⟨k, u, n + 1, a, z⟩ : WnT)] := by simp
  have b3 : ∀ x, (P.map WnT.cells ++ [x]).take (P.length + 1) = P.map WnT.cells ++ [x] := fun x => List.take_of_length_le (by simp)
  have b4 : (P.map WnT.cells).take P.length = P.map WnT.cells := List.take_of_length_le (by simp)
  rw [b1, b2]
  subst c5
  clear c6
  rw [callL_loop (hlp.np 1002400 (by decide)) (by rw [hE.fn]; rfl) (by rw [hlp.loop]; rfl) rfl]
  simp -implicitDefEqProofs only [go_sem, ir_forecast_course_try_R0, WnT.cells, c1, c2, w1, a1, b3, b4, c4, ro_step, ro_wn, gor_b, gand_b, Bool.or_eq_true, Bool.and_eq_true, Bool.or_true, Bool.true_or, Bool.true_and, Bool.and_true, Bool.or_false, Bool.false_or, Bool.and_false, decide_true, decide_false]
  try rfl
theorem bBr_r4 (P : List WnT) (h : Nat) (hP : P.length ≤ 100000) (c1 : ¬ e ≤ a) (c2 : ¬ e < z) (c3 : ¬ z = e) (c5 : ¬ n = p.ret) (q0 : 0 ≤ p.ret) (q1 : p.ret ≤ 1000) : callL E 1002400 [.agg [vi 0, vb false, vi (n + 1), vi a, vi z], .ref 1 0 0 0, .ref 4 0 0 0, .ref 5 0 0 0, .ref 6 0 0 0, .ref 7 0 0 0] [] [.loop 1002400 [.ref 1 0 0 0, .ref 4 0 0 0, .ref 5 0 0 0, .ref 6 0 0 0, .ref 7 0 0 0] .busy, .box [.ref 2 0 0 0], .box [vs d.name, vi d.deadline, d.steps.av 12 StepT.cells, .own 3 h 0 (P).length, vi now, vb st], .row 5 h ((P).map WnT.cells) false, .box [vi k], .box [vb u], .box [vi e], .box [vi p.ret, vi p.base, vi p.fac, vi p.cap], .box [vi p.ret, vi p.base, vi p.fac, vi p.cap], .box [vi a], .box [vi tmo], .box [vi 0, vb false, vi (n + 1), vi a, vi z]] = some (vi 0, [.loop 1002400 [.ref 1 0 0 0, .ref 4 0 0 0, .ref 5 0 0 0, .ref 6 0 0 0, .ref 7 0 0 0] .busy, .box [.ref 2 0 0 0], .box [vs d.name, vi d.deadline, d.steps.av 12 StepT.cells, .own 3 (h + 1) 0 (P ++ [(⟨k, u, n + 1, a, z⟩ : WnT)]).length, vi now, vb st], .row 5 (h + 1) ((P ++ [(⟨k, u, n + 1, a, z⟩ : WnT)]).map WnT.cells) false, .box [vi k], .box [vb u], .box [vi e], .box [vi p.ret, vi p.base, vi p.fac, vi p.cap], .box [vi p.ret, vi p.base, vi p.fac, vi p.cap], .box [vi a], .box [vi tmo], .box [vi 0, vb false, vi (n + 1), vi a, vi z]]) := by
  have w1 : IntKind.i64.wrap (p.ret + 1) = p.ret + 1 := IntWalk.i64_in _ (by omega)
  have c6 : ¬ n + 1 = p.ret + 1 := by omega
  have a1 : (P.length + 1) * 40 ≤ 140737488355328 := by omega
  have b1 : (P ++ [(⟨k, u, n + 1, a, z⟩ : WnT)]).length = P.length + 1 := by simp
  have b2 : (P ++ [(⟨k, u, n + 1, a, z⟩ : WnT)]).map WnT.cells = P.map WnT.cells ++ [WnT.cells (⟨k, u, n + 1, a, z⟩ : WnT)] := by simp
  have b3 : ∀ x, (P.map WnT.cells ++ [x]).take (P.length + 1) = P.map WnT.cells ++ [x] := fun x => List.take_of_length_le (by simp)
  have b4 : (P.map WnT.cells).take P.length = P.map WnT.cells := List.take_of_length_le (by simp)
  rw [b1, b2]
  rw [callL_loop (hlp.np 1002400 (by decide)) (by rw [hE.fn]; rfl) (by rw [hlp.loop]; rfl) rfl]
  simp -implicitDefEqProofs only [go_sem, ir_forecast_course_try_R0, WnT.cells, c1, c2, w1, c3, c6, a1, b3, b4, ro_step, ro_wn, gor_b, gand_b, Bool.or_eq_true, Bool.and_eq_true, Bool.or_true, Bool.true_or, Bool.true_and, Bool.and_true, Bool.or_false, Bool.false_or, Bool.and_false, decide_true, decide_false]
  try rfl
end
end Go.Proofs.YtoobogpbejdocaaDoor.Ev
