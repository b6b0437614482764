import Derived.Test.YtoobogpbejdocaaDoorEvSa
import Derived.Test.YtoobogpbejdocaaDoorEvSl
import Derived.Test.YtoobogpbejdocaaDoorEvIR
set_option linter.unusedVariables false
set_option linter.unusedSectionVars false
set_option linter.unusedSimpArgs false
namespace Go.Proofs.YtoobogpbejdocaaDoor.Ev
attribute [local congr] bind_congr_head
attribute [local go_sem] AV.cells AV.tuple elems boxQ callN_any compact_same compact_new aggOf
def tickOf (n : Int) : Int := if n < 0 then 0 else if n > 1099511627776 then 1099511627776 else n
theorem tickOf_in (n : Int) : 0 ≤ tickOf n ∧ tickOf n ≤ 1099511627776 := by unfold tickOf; split <;> (try split) <;> omega
def tickAdd (a b : Int) : Int := tickOf (tickOf a + tickOf b)
section
variable {E : Prog} (hE : Std E fns)
theorem fn_tickOf (hE : Std E fns) (n : Int) : callP E f_tick_Of [vi n] = some (vi (tickOf n)) := by
  rw [hE.run rfl rfl]
  simp -implicitDefEqProofs only [go_sem, ir_tick_Of]
  unfold tickOf
  by_cases c1 : n < 0
  · simp [c1]
  · by_cases c3 : (0 : Int) < n
    · by_cases c2 : n > 1099511627776
      · simp [c1, c2, c3]
      · simp [c1, c2, c3]
    · have : n = 0 := by omega
      subst this
      simp
theorem fn_ref01Of (hE : Std E fns) (n : Int) : callP E f_usufructref01_Of [vi n] = some (vi (tickOf n)) := by
  rw [hE.run rfl rfl]
  simp -implicitDefEqProofs only [go_sem, ir_usufructref01_Of, tickOf]
  split <;> (try split) <;> simp_all
theorem wrap_ticks (a b : Int) : IntKind.i64.wrap (tickOf a + tickOf b) = tickOf a + tickOf b := by
  have h1 := tickOf_in a
  have h2 := tickOf_in b
  exact IntWalk.i64_in _ (by omega)
theorem fn_tickAdd (hE : Std E fns) (a b : Int) : callP E f_tick_Add [vi a, vi b] = some (vi (tickAdd a b)) := by
  rw [hE.run rfl rfl]
  simp -implicitDefEqProofs only [go_sem, ir_tick_Add, fn_tickOf hE, wrap_ticks, tickAdd]
theorem fn_ref01Add (hE : Std E fns) (a b : Int) : callP E f_usufructref01_Add [vi a, vi b] = some (vi (tickAdd a b)) := by
  rw [hE.run rfl rfl]
  simp -implicitDefEqProofs only [go_sem, ir_usufructref01_Add, fn_ref01Of hE, wrap_ticks, tickAdd]
def tickGood (n : Int) : Bool := decide (0 ≤ n) && decide (n ≤ 1099511627776)
theorem fn_tickGood (hE : Std E fns) (n : Int) : callP E f_tick_Good [vi n] = some (vb (tickGood n)) := by
  rw [hE.run rfl rfl]
  simp -implicitDefEqProofs only [go_sem, ir_tick_Good, tickGood]
  by_cases c1 : 0 ≤ n <;> simp [c1]
end
structure PlanT where
  (ret base fac cap : Int)
  deriving DecidableEq
structure StepT where
  (name party : ByteArray)
  (timeout : Int)
  (tr un : PlanT)
  (prio : Int)
  deriving DecidableEq
structure DefT where
  (name : ByteArray)
  (deadline : Int)
  (steps : Sl StepT)
def StepT.cells (s : StepT) : List AV := [vs s.name, vs s.party, vi s.timeout, vi s.tr.ret, vi s.tr.base, vi s.tr.fac, vi s.tr.cap, vi s.un.ret, vi s.un.base, vi s.un.fac, vi s.un.cap, vi s.prio]
def DefT.cells (d : DefT) : List AV := [vs d.name, vi d.deadline, d.steps.av 12 StepT.cells]
def PlanT.cells (p : PlanT) : List AV := [vi p.ret, vi p.base, vi p.fac, vi p.cap]
theorem step_ids (s : StepT) : idss s.cells = [] := rfl
theorem ro_step : Ro StepT.cells := step_ids
theorem step_rens (ρ : Nat → Nat) (s : StepT) : rens ρ s.cells = s.cells := rfl
theorem step_le12 (s : StepT) : (12 ≤ s.cells.length) = True := eq_true (by show 12 ≤ 12; omega)
theorem step_take (s : StepT) : s.cells.take 12 = s.cells := rfl
abbrev stDef (d : DefT) : Store := [Ob.box [vs d.name, vi d.deadline, Sl.av 12 StepT.cells d.steps]]
def longS (s : StepT) : Bool := decide (s.name.size > 100) || decide (s.party.size > 100)
theorem small_loop {G : Nat → Option (List AV)} {raw : Raw} {L : Env × Store → Option (Sig × Env × Store)} (d : DefT) (hs : d.steps.list.length ≤ 40) (hL : ∀ e st, L (e, st) = (IR.runL G raw [] ir_usufructlaw13_Small_L0 e st).bind (seqK fun e st => L (compact [] 1 [1, 3] e st))) :
    ∀ (rest : List StepT) (i : Nat), d.steps.list.drop i = rest → i ≤ d.steps.list.length →
    L ([(1, AV.ref 0 0 0 0), (3, vi i)], stDef d) = if rest.any longS = true then some (.ret, [(2, vi 2)], stDef d) else some (.exit 0, [], stDef d)
  | [], i, h, hi => by
    have h1 := drop_nil' h hi
    rw [hL]
    simp -implicitDefEqProofs only [go_sem, ir_usufructlaw13_Small_L0, h1, List.any_nil]
  | x :: rest, i, h, hi => by
    obtain ⟨h1, h2, h3, h4, h5⟩ := drop_cons h
    have h6 := wrap_succ (i := i) (by omega)
    have ih := small_loop d hs hL rest (i + 1) h2 h4
    rw [hL]
    simp -implicitDefEqProofs only [go_sem, ir_usufructlaw13_Small_L0, h1, h3, StepT.cells, h6, ih, List.any_cons, longS]
    by_cases c1 : x.name.size > 100
    · simp [c1, show (100 : Int) < x.name.size by omega]
    · by_cases c2 : x.party.size > 100
      · simp [c1, c2, show ¬ (100 : Int) < x.name.size by omega, show (100 : Int) < x.party.size by omega]
      · simp [c1, c2, show ¬ (100 : Int) < x.name.size by omega, show ¬ (100 : Int) < x.party.size by omega]
def smallS (d : DefT) : Int := if d.steps.list.length > 40 then 1 else if d.name.size > 100 then 1 else if d.steps.list.any longS then 2 else 0
theorem fn_small {E : Prog} (hE : Std E fns) (d : DefT) : callP E f_usufructlaw13_Small [.agg d.cells] = some (vi (smallS d)) := by
  rw [hE.run rfl rfl]
  simp -implicitDefEqProofs only [go_sem, ir_usufructlaw13_Small, DefT.cells, smallS]
  by_cases c1 : d.steps.list.length > 40
  · simp [c1, show (40 : Int) < d.steps.list.length by omega]
  · by_cases c2 : d.name.size > 100
    · simp [c1, c2, show ¬ (40 : Int) < d.steps.list.length by omega, show (100 : Int) < d.name.size by omega]
    · simp only [show ¬ (40 : Int) < d.steps.list.length by omega, show ¬ (100 : Int) < d.name.size by omega, if_false, c1, c2]
      have := small_loop d (by omega) (loopL_eq (IR.runL E.glob (callL E) [] ir_usufructlaw13_Small_L0) (compact [] 1 [1, 3])) d.steps.list 0 rfl (by omega)
      simp only [Int.natCast_zero] at this
      rw [this]
      split <;> simp -implicitDefEqProofs only [go_sem]
def endS (d : DefT) (start : Int) : Int := if d.deadline = 0 then 1099511627777 else tickAdd start d.deadline
theorem fn_end {E : Prog} (hE : Std E fns) (d : DefT) (n : Int) : callP E f_def_End [.agg d.cells, vi n] = some (vi (endS d n)) := by
  rw [hE.run rfl rfl]
  simp -implicitDefEqProofs only [go_sem, ir_def_End, DefT.cells, fn_tickAdd hE, endS, ro_step]
  split <;> rfl
theorem fn_endRef {E : Prog} (hE : Std E fns) (d : DefT) (n : Int) : callP E f_usufructref13_End [.agg d.cells, vi n] = some (vi (endS d n)) := by
  rw [hE.run rfl rfl]
  simp -implicitDefEqProofs only [go_sem, ir_usufructref13_End, DefT.cells, fn_ref01Add hE, endS, ro_step]
  split <;> rfl
end Go.Proofs.YtoobogpbejdocaaDoor.Ev
