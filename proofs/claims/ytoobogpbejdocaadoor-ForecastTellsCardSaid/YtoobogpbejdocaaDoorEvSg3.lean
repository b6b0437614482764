import Derived.Test.YtoobogpbejdocaaDoorEvSa
import Derived.Test.YtoobogpbejdocaaDoorEvCheck3
import Derived.Test.YtoobogpbejdocaaDoorEvKy
set_option linter.unusedVariables false
set_option linter.unusedSectionVars false
set_option linter.unusedSimpArgs false
namespace Go.Proofs.YtoobogpbejdocaaDoor.Ev
attribute [local congr] bind_congr_head
attribute [local go_sem] AV.cells AV.tuple elems boxQ callN_any compact_same compact_new aggOf
theorem tickOf_id {n : Int} (h0 : 0 ≤ n) (h1 : n ≤ 1099511627776) : tickOf n = n := by unfold tickOf; split <;> (try split) <;> omega
theorem tickOf_big {n : Int} (h : 1099511627776 ≤ n) : tickOf n = 1099511627776 := by unfold tickOf; split <;> (try split) <;> omega
theorem sat_mul {a b : Int} (ha : 0 ≤ a) (hb : 0 ≤ b) : tickOf (tickOf a * b) = tickOf (a * b) := by
  by_cases c : a ≤ 1099511627776
  · rw [tickOf_id ha c]
  · rw [tickOf_big (n := a) (by omega)]
    by_cases hb0 : b = 0
    · subst hb0; simp
    · have h1 : 1099511627776 * 1 ≤ 1099511627776 * b := Int.mul_le_mul_of_nonneg_left (by omega) (by omega)
      have h2 : a * 1 ≤ a * b := Int.mul_le_mul_of_nonneg_left (by omega) ha
      rw [tickOf_big (by omega), tickOf_big (by omega)]
theorem times_ar (a o : Int) (h : Nat) (ha : 0 ≤ a) (ha2 : a ≤ 1099511627776) (ho : 0 ≤ o) (ho2 : o ≤ 1099511627776) :
    tickOf (o + tickAdd a a * (h : Int)) = tickOf (o + a * ((2 * h : Nat) : Int)) ∧ tickOf (tickAdd o a + tickAdd a a * (h : Int)) = tickOf (o + a * ((2 * h + 1 : Nat) : Int)) := by
  have e0 : a * ((2 * h : Nat) : Int) = 2 * (a * (h : Int)) := by rw [Int.natCast_mul, Int.mul_left_comm]; rfl
  have e1 : a * ((2 * h + 1 : Nat) : Int) = 2 * (a * (h : Int)) + a := by rw [Int.natCast_add, Int.mul_add, e0]; simp
  have hp : 0 ≤ a * (h : Int) := Int.mul_nonneg ha (by omega)
  have hA : tickAdd a a = tickOf (a + a) := by rw [tickAdd, tickOf_id ha ha2]
  have hO : tickAdd o a = tickOf (o + a) := by rw [tickAdd, tickOf_id ha ha2, tickOf_id ho ho2]
  rw [e0, e1, hA, hO]
  by_cases c : a + a ≤ 1099511627776
  · rw [tickOf_id (n := a + a) (by omega) c]
    have e2 : (a + a) * (h : Int) = 2 * (a * (h : Int)) := by rw [Int.add_mul]; omega
    rw [e2]
    refine ⟨rfl, ?_⟩
    by_cases c2 : o + a ≤ 1099511627776
    · rw [tickOf_id (n := o + a) (by omega) c2]; congr 1; omega
    · rw [tickOf_big (n := o + a) (by omega), tickOf_big (by omega), tickOf_big (by omega)]
  · rw [tickOf_big (n := a + a) (by omega)]
    by_cases h0 : h = 0
    · subst h0
      simp only [Int.natCast_zero, Int.mul_zero, Int.add_zero, Int.zero_add, true_and]
      exact tickOf_id (tickOf_in _).1 (tickOf_in _).2
    · have h1 : a * 1 ≤ a * (h : Int) := Int.mul_le_mul_of_nonneg_left (by omega) ha
      have h2 := tickOf_in (o + a)
      exact ⟨by rw [tickOf_big (by omega), tickOf_big (by omega)], by rw [tickOf_big (by omega), tickOf_big (by omega)]⟩
def tickTimes (a n : Int) : Int := tickOf (tickOf a * tickOf n)
theorem times_loop {E : Prog} (hE : Std E fns) {L : Env × Store → Option (Sig × Env × Store)}
    (hL : ∀ e st, L (e, st) = (IR.runL E.glob (callL E) [] ir_usufructref01_Times_L0 e st).bind (seqK fun e st => L (compact [] 0 [0, 1, 5] e st))) :
    ∀ (n : Nat) (a o : Int), n ≤ 1099511627776 → 0 ≤ a → a ≤ 1099511627776 → 0 ≤ o → o ≤ 1099511627776 → L ([(0, vi a), (1, vi n), (5, vi o)], []) = some (.exit 0, [(5, vi (tickOf (o + a * n)))], []) := by
  intro n
  induction n using Nat.strongRecOn with
  | _ n ih =>
    intro a o hn ha ha2 ho ho2
    rw [hL]
    by_cases c : n = 0
    · subst c
      simp -implicitDefEqProofs only [go_sem, ir_usufructref01_Times_L0, Int.natCast_zero, Int.mul_zero, Int.add_zero, tickOf_id ho ho2]
    · have hp : (0 : Int) < (n : Int) := by omega
      have r1 : Int.tmod (n : Int) 2 = ((n % 2 : Nat) : Int) := by rw [Int.tmod_eq_emod_of_nonneg (by omega)]; omega
      have r2 : Int.tdiv (n : Int) 2 = ((n / 2 : Nat) : Int) := by rw [Int.tdiv_eq_ediv_of_nonneg (by omega)]; omega
      have w1 : IntKind.i64.wrap ((n % 2 : Nat) : Int) = ((n % 2 : Nat) : Int) := IntWalk.i64_in _ (by omega)
      have w2 : IntKind.i64.wrap ((n / 2 : Nat) : Int) = ((n / 2 : Nat) : Int) := IntWalk.i64_in _ (by omega)
      have hA := tickOf_in (tickOf a + tickOf a)
      have hO := tickOf_in (tickOf o + tickOf a)
      obtain ⟨k1, k2⟩ := times_ar a o (n / 2) ha ha2 ho ho2
      by_cases c2 : n % 2 = 1
      · have c3 : ((n % 2 : Nat) : Int) = 1 := by omega
        have e : n = 2 * (n / 2) + 1 := by omega
        have i1 := ih (n / 2) (by omega) (tickAdd a a) (tickAdd o a) (by omega) hA.1 hA.2 hO.1 hO.2
        rw [k2, ← e] at i1
        simp -implicitDefEqProofs only [go_sem, ir_usufructref01_Times_L0, hp, r1, r2, w1, w2, c3, fn_ref01Add hE, i1]
      · have c3 : ¬ ((n % 2 : Nat) : Int) = 1 := by omega
        have e : n = 2 * (n / 2) := by omega
        have i1 := ih (n / 2) (by omega) (tickAdd a a) o (by omega) hA.1 hA.2 ho ho2
        rw [k1, ← e] at i1
        simp -implicitDefEqProofs only [go_sem, ir_usufructref01_Times_L0, hp, r1, r2, w1, w2, c3, fn_ref01Add hE, i1]
theorem fn_timesRef {E : Prog} (hE : Std E fns) (a n : Int) : callP E f_usufructref01_Times [vi a, vi n] = some (vi (tickTimes a n)) := by
  have h1 := tickOf_in a
  have h2 := tickOf_in n
  have e : ((tickOf n).toNat : Int) = tickOf n := Int.toNat_of_nonneg h2.1
  have hl := times_loop hE (loopL_eq (IR.runL E.glob (callL E) [] ir_usufructref01_Times_L0) (compact [] 0 [0, 1, 5])) (tickOf n).toNat (tickOf a) 0 (by omega) h1.1 h1.2 (by omega) (by omega)
  rw [e, Int.zero_add] at hl
  rw [hE.run rfl rfl]
  simp -implicitDefEqProofs only [go_sem, ir_usufructref01_Times, fn_ref01Of hE, hl, tickTimes]
theorem fn_times {E : Prog} (hE : Std E fns) (a n : Int) : callP E f_tick_Times [vi a, vi n] = some (vi (tickTimes a n)) := by
  have h1 := tickOf_in a
  have h2 := tickOf_in n
  rw [hE.run rfl rfl]
  unfold tickTimes
  generalize ha : tickOf a = x at *
  generalize hb : tickOf n = y at *
  by_cases c1 : 0 < y
  · have c0 : ¬ y = 0 := by omega
    have q : Int.tdiv 1099511627776 y = 1099511627776 / y := Int.tdiv_eq_ediv_of_nonneg (by omega)
    have q2 : 1099511627776 / y ≤ 1099511627776 := Int.ediv_le_self _ (by omega)
    have q3 : 0 ≤ 1099511627776 / y := Int.ediv_nonneg (by omega) (by omega)
    have w : IntKind.i64.wrap (1099511627776 / y) = 1099511627776 / y := IntWalk.i64_in _ (by omega)
    by_cases c2 : 1099511627776 / y < x
    · have : 1099511627776 < x * y := (Int.ediv_lt_iff_lt_mul c1).1 c2
      simp -implicitDefEqProofs only [go_sem, ir_tick_Times, fn_tickOf hE, ha, hb, c0, c1, q, w, c2, tickOf_big (n := x * y) (by omega)]
    · have h3 : ¬ 1099511627776 < x * y := fun h => c2 ((Int.ediv_lt_iff_lt_mul c1).2 h)
      have h4 : 0 ≤ x * y := Int.mul_nonneg h1.1 h2.1
      have w2 : IntKind.i64.wrap (x * y) = x * y := IntWalk.i64_in _ (by omega)
      simp -implicitDefEqProofs only [go_sem, ir_tick_Times, fn_tickOf hE, ha, hb, c0, c1, q, w, c2, w2, tickOf_id h4 (by omega)]
  · have h0 : y = 0 := by omega
    subst h0
    simp -implicitDefEqProofs only [go_sem, ir_tick_Times, fn_tickOf hE, ha, hb, Int.mul_zero, tickOf_id (n := 0) (by omega) (by omega)]
    rfl
theorem pow_pos' {f : Int} (hf : 1 ≤ f) (k : Nat) : 1 ≤ f ^ k := by
  induction k with
  | zero => simp
  | succ k ih =>
    rw [Int.pow_succ]
    have := Int.mul_le_mul_of_nonneg_left hf (show 0 ≤ f ^ k by omega)
    omega
theorem pow_up {f : Int} (hf : 1 ≤ f) (k j : Nat) : f ^ k ≤ f ^ (k + j) := by
  induction j with
  | zero => exact Int.le_refl _
  | succ j ih =>
    rw [← Nat.add_assoc, Int.pow_succ]
    have h1 := pow_pos' hf (k + j)
    have := Int.mul_le_mul_of_nonneg_left hf (show 0 ≤ f ^ (k + j) by omega)
    omega
theorem times_pow {f : Int} (hf : 1 ≤ f) (hf2 : f ≤ 1099511627776) (k : Nat) : tickTimes (tickOf (f ^ k)) f = tickOf (f ^ (k + 1)) := by
  have h1 := pow_pos' hf k
  rw [tickTimes, tickOf_id (tickOf_in _).1 (tickOf_in _).2, tickOf_id (n := f) (by omega) hf2, sat_mul (by omega) (by omega), Int.pow_succ]
theorem pow_loop {E : Prog} (hE : Std E fns) {L : Env × Store → Option (Sig × Env × Store)}
    (hL : ∀ e st, L (e, st) = (IR.runL E.glob (callL E) [] ir_tick_Pow_L0 e st).bind (seqK fun e st => L (compact [] 0 [0, 5, 15, 16] e st))) (f : Int) (hf : 1 ≤ f) (hf2 : f ≤ 1099511627776) (k : Nat) (hk : k ≤ 1099511627776) :
    ∀ (r i : Nat), i + r = k → L ([(0, vi f), (5, vi (tickOf (f ^ i))), (15, vi k), (16, vi i)], []) = some (.exit 0, [(5, vi (tickOf (f ^ k)))], [])
  | 0, i, h => by
    have : i = k := by omega
    subst this
    rw [hL]
    simp -implicitDefEqProofs only [go_sem, ir_tick_Pow_L0]
  | r + 1, i, h => by
    have h1 : (i : Int) < k := by omega
    have h6 := wrap_succ (i := i) (by omega)
    have ih := pow_loop hE hL f hf hf2 k hk r (i + 1) (by omega)
    rw [hL]
    by_cases c : tickOf (f ^ (i + 1)) = 1099511627776
    · have h2 : tickOf (f ^ k) = 1099511627776 := by
        have h3 : 1099511627776 ≤ f ^ (i + 1) := by
          rcases Int.lt_or_le (f ^ (i + 1)) 1099511627776 with h4 | h4
          · have h5 := pow_pos' hf (i + 1)
            rw [tickOf_id (by omega) (by omega)] at c; omega
          · exact h4
        have h4 := pow_up hf (i + 1) r
        rw [show i + 1 + r = k by omega] at h4
        exact tickOf_big (by omega)
      simp -implicitDefEqProofs only [go_sem, ir_tick_Pow_L0, h1, fn_times hE, times_pow hf hf2, c, h2]
    · simp -implicitDefEqProofs only [go_sem, ir_tick_Pow_L0, h1, fn_times hE, times_pow hf hf2, c, h6, ih]
theorem fn_pow {E : Prog} (hE : Std E fns) (f : Int) (hf : 1 ≤ f) (hf2 : f ≤ 1099511627776) (k : Nat) (hk : k ≤ 1099511627776) : callP E f_tick_Pow [vi f, vi k] = some (vi (tickOf (f ^ k))) := by
  have e1 : tickOf f = f := tickOf_id (by omega) hf2
  have e2 : tickOf (k : Int) = k := tickOf_id (by omega) (by omega)
  rw [hE.run rfl rfl]
  by_cases c : f < 2
  · have : f = 1 := by omega
    subst this
    rw [Int.one_pow]
    by_cases c2 : (k : Int) = 0
    · simp -implicitDefEqProofs only [go_sem, ir_tick_Pow, fn_tickOf hE, e1, e2, c2, tickOf_id (n := 1) (by omega) (by omega)]
      split <;> rfl
    · simp -implicitDefEqProofs only [go_sem, ir_tick_Pow, fn_tickOf hE, e1, e2, c2, tickOf_id (n := 1) (by omega) (by omega)]
  · have hl := pow_loop hE (loopL_eq (IR.runL E.glob (callL E) [] ir_tick_Pow_L0) (compact [] 0 [0, 5, 15, 16])) f hf hf2 k hk k 0 (by omega)
    simp only [Int.pow_zero, Int.natCast_zero, tickOf_id (n := 1) (by omega) (by omega)] at hl
    simp -implicitDefEqProofs only [go_sem, ir_tick_Pow, fn_tickOf hE, e1, e2, c, hl]
def waitS (p : PlanT) (n : Nat) : Int := if p.cap < tickOf (p.base * p.fac ^ n) then p.cap else tickOf (p.base * p.fac ^ n)
structure PlanOK (p : PlanT) : Prop where
  r0 : 0 ≤ p.ret
  r1 : p.ret ≤ 1000
  b0 : 1 ≤ p.base
  f0 : 1 ≤ p.fac
  f1 : p.fac ≤ 16
  bc : p.base ≤ p.cap
  c1 : p.cap ≤ 1099511627776
theorem plan_ok {p : PlanT} (h : planS p = true) : PlanOK p := by
  simp only [planS, Bool.and_eq_true, decide_eq_true_eq] at h
  obtain ⟨⟨⟨⟨⟨⟨h1, h2⟩, h3⟩, h4⟩, h5⟩, h6⟩, h7⟩ := h
  exact ⟨h1, h2, h3, h4, h5, h6, h7⟩
theorem fn_wait {E : Prog} (hE : Std E fns) (p : PlanT) (h : planS p = true) (n : Nat) (hn : n ≤ 2000) : callP E f_backoff_Wait [.agg p.cells, vi n] = some (vi (waitS p n)) := by
  have hp := plan_ok h
  have hg := fn_backoffGood hE p
  rw [h] at hg
  have hb0 := hp.b0; have hbc := hp.bc; have hc1 := hp.c1; have hf0 := hp.f0; have hf1 := hp.f1
  have h1 := pow_pos' hp.f0 n
  have e : tickTimes p.base (tickOf (p.fac ^ n)) = tickOf (p.base * p.fac ^ n) := by
    rw [tickTimes, tickOf_id (n := p.base) (by omega) (by omega), tickOf_id (tickOf_in _).1 (tickOf_in _).2, Int.mul_comm, sat_mul (by omega) (by omega), Int.mul_comm]
  have hn0 : ¬ (n : Int) < 0 := by omega
  rw [hE.run rfl rfl]
  simp only [PlanT.cells] at hg
  simp -implicitDefEqProofs only [go_sem, ir_backoff_Wait, PlanT.cells, hg, hn0, fn_pow hE p.fac hp.f0 (by omega) n (by omega), fn_times hE, e, waitS]
theorem waitRef_loop {E : Prog} (hE : Std E fns) (p : PlanT) (h : planS p = true) (n : Nat) (hn : n ≤ 2000) {L : Env × Store → Option (Sig × Env × Store)}
    (hL : ∀ e st, L (e, st) = (IR.runL E.glob (callL E) [] ir_usufructref11_Wait_L0 e st).bind (seqK fun e st => L (compact [] 1 [1, 2, 5, 6] e st))) :
    ∀ (r i : Nat), i + r = min n 64 → L ([(1, vi n), (2, .ref 0 0 0 0), (5, vi (tickOf (p.base * p.fac ^ i))), (6, vi i)], [.box p.cells]) = some (.exit 0, [(2, .ref 0 0 0 0), (5, vi (tickOf (p.base * p.fac ^ (min n 64))))], [.box p.cells])
  | 0, i, hi => by
    have hp := plan_ok h
    have e : min n 64 = i := by omega
    rw [e, hL]
    by_cases c : (i : Int) < n
    · have c2 : ¬ (i : Int) < 64 := by omega
      simp -implicitDefEqProofs only [go_sem, ir_usufructref11_Wait_L0, PlanT.cells, c, c2]
    · simp -implicitDefEqProofs only [go_sem, ir_usufructref11_Wait_L0, PlanT.cells, c]
  | r + 1, i, hi => by
    have hp := plan_ok h
    have hb0 := hp.b0; have hf0 := hp.f0; have hf1 := hp.f1
    have h1 : (i : Int) < n := by omega
    have h2 : (i : Int) < 64 := by omega
    have h6 := wrap_succ (i := i) (by omega)
    have ih := waitRef_loop hE p h n hn hL r (i + 1) (by omega)
    have h3 := pow_pos' hp.f0 i
    have h4 : 0 ≤ p.base * p.fac ^ i := Int.mul_nonneg (by omega) (by omega)
    have e : tickTimes (tickOf (p.base * p.fac ^ i)) p.fac = tickOf (p.base * p.fac ^ (i + 1)) := by
      rw [tickTimes, tickOf_id (tickOf_in _).1 (tickOf_in _).2, tickOf_id (n := p.fac) (by omega) (by omega), sat_mul h4 (by omega), Int.pow_succ, Int.mul_assoc]
    rw [hL]
    simp only [PlanT.cells] at ih
    simp -implicitDefEqProofs only [go_sem, ir_usufructref11_Wait_L0, PlanT.cells, h1, h2, h6, fn_timesRef hE, e, ih]
theorem fn_waitRef {E : Prog} (hE : Std E fns) (p : PlanT) (h : planS p = true) (n : Nat) (hn : n ≤ 2000) : callP E f_usufructref11_Wait [.agg p.cells, vi n] = some (vi (waitS p n)) := by
  have hp := plan_ok h
  have hg := fn_ref11Good hE p
  rw [h] at hg
  have hb0 := hp.b0; have hbc := hp.bc; have hc1 := hp.c1; have hf0 := hp.f0; have hf1 := hp.f1
  have hl := waitRef_loop hE p h n hn (loopL_eq (IR.runL E.glob (callL E) [] ir_usufructref11_Wait_L0) (compact [] 1 [1, 2, 5, 6])) (min n 64) 0 (by omega)
  simp only [Int.pow_zero, Int.natCast_zero, Int.mul_one, tickOf_id (n := p.base) (by omega) (by omega)] at hl
  have e : tickOf (p.base * p.fac ^ (min n 64)) = tickOf (p.base * p.fac ^ n) := by
    by_cases c : n ≤ 64
    · rw [Nat.min_eq_left c]
    · rw [Nat.min_eq_right (by omega)]
      by_cases c2 : p.fac = 1
      · rw [c2, Int.one_pow, Int.one_pow]
      · have h1 : (2 : Int) ^ 64 ≤ p.fac ^ 64 := by
          have : ∀ k : Nat, (2 : Int) ^ k ≤ p.fac ^ k := by
            intro k
            induction k with
            | zero => simp
            | succ k ih =>
              rw [Int.pow_succ, Int.pow_succ]
              have h0 := pow_pos' hp.f0 k
              have a1 : (2 : Int) ^ k * 2 ≤ p.fac ^ k * 2 := by omega
              have a2 : p.fac ^ k * 2 ≤ p.fac ^ k * p.fac := Int.mul_le_mul_of_nonneg_left (by omega) (by omega)
              omega
          exact this 64
        have h2 := pow_up hp.f0 64 (n - 64)
        rw [show 64 + (n - 64) = n by omega] at h2
        have h3 : (2 : Int) ^ 64 = 18446744073709551616 := by decide
        have h4 : 1 * p.fac ^ 64 ≤ p.base * p.fac ^ 64 := Int.mul_le_mul_of_nonneg_right (by omega) (by omega)
        have h5 : 1 * p.fac ^ n ≤ p.base * p.fac ^ n := Int.mul_le_mul_of_nonneg_right (by omega) (by omega)
        rw [tickOf_big (by omega), tickOf_big (by omega)]
  rw [e] at hl
  have hn0 : ¬ (n : Int) < 0 := by omega
  rw [hE.run rfl rfl]
  simp only [PlanT.cells] at hg hl
  by_cases c : p.cap < tickOf (p.base * p.fac ^ n)
  · simp -implicitDefEqProofs only [go_sem, ir_usufructref11_Wait, PlanT.cells, hg, hn0, hl, waitS, c]
  · simp -implicitDefEqProofs only [go_sem, ir_usufructref11_Wait, PlanT.cells, hg, hn0, hl, waitS, c]
theorem fn_left {E : Prog} (hE : Std E fns) (p : PlanT) (h : planS p = true) (n : Int) (h0 : 0 ≤ n) (h1 : n ≤ 2000) : callP E f_backoff_Left [.agg p.cells, vi n] = some (vi (if n < p.ret + 1 then p.ret + 1 - n else 0)) := by
  have hp := plan_ok h
  have hg := fn_backoffGood hE p
  rw [h] at hg
  have hr0 := hp.r0; have hr1 := hp.r1
  have w1 : IntKind.i64.wrap (p.ret + 1) = p.ret + 1 := IntWalk.i64_in _ (by omega)
  have w2 : IntKind.i64.wrap (p.ret + 1 - n) = p.ret + 1 - n := IntWalk.i64_in _ (by omega)
  have w3 : IntKind.i64.wrap (p.ret + 1 - 0) = p.ret + 1 - 0 := IntWalk.i64_in _ (by omega)
  rw [hE.run rfl rfl]
  simp only [PlanT.cells] at hg
  simp -implicitDefEqProofs only [go_sem, ir_backoff_Left, PlanT.cells, hg, w1, w2]
  rw [if_neg (show ¬ n < 0 by omega), w2]
  by_cases c : n < p.ret + 1
  · rw [if_pos c, if_neg (by omega)]
  · rw [if_neg c]
    by_cases c2 : p.ret + 1 - n < 0
    · rw [if_pos c2]
    · rw [if_neg c2, show p.ret + 1 - n = 0 by omega]
structure SgT where
  id : Int
  df : ByteArray
  start : Int
  phase : Int
  step : Int
  tries : Int
  out : Bool
  due : Int
  skips : Int
  deriving DecidableEq
structure CmT where
  saga : Int
  step : Int
  undo : Bool
  try_ : Int
  party : ByteArray
  key : ByteArray
  deriving DecidableEq
structure RpT where
  saga : Int
  step : Int
  undo : Bool
  try_ : Int
  good : Bool
  deriving DecidableEq
def SgT.cells (s : SgT) : List AV := [vi s.id, vs s.df, vi s.start, vi s.phase, vi s.step, vi s.tries, vb s.out, vi s.due, vi s.skips]
abbrev sA (s : SgT) : AV := .agg [vi s.id, vs s.df, vi s.start, vi s.phase, vi s.step, vi s.tries, vb s.out, vi s.due, vi s.skips]
abbrev cA (c : CmT) : AV := .agg [vi c.saga, vi c.step, vb c.undo, vi c.try_, vs c.party, vs c.key]
abbrev dA (d : DefT) : AV := .agg [vs d.name, vi d.deadline, d.steps.av 12 StepT.cells]
abbrev pA (p : PlanT) : AV := .agg [vi p.ret, vi p.base, vi p.fac, vi p.cap]
abbrev eTx : ByteArray := ⟨#[]⟩
def cm0 : CmT := ⟨0, 0, false, 0, eTx, eTx⟩
structure DOK (d : DefT) : Prop where
  sh : shortD d
  ck : (checkS d).2 = 0
theorem stepE_zero {pre : List StepT} {t : StepT} (h : stepE pre t = 0) : planS t.tr = true ∧ planS t.un = true ∧ 1 ≤ t.timeout ∧ t.timeout ≤ 1099511627776 := by
  unfold stepE at h
  split at h
  · cases h
  · split at h
    · cases h
    · split at h
      · cases h
      · split at h
        · cases h
        · rename_i _ _ h3 h4
          simp only [timeBad, tickGood, Bool.or_eq_true, decide_eq_true_eq, Bool.not_eq_true', Bool.and_eq_false_iff, decide_eq_false_iff_not, not_or] at h3
          simp only [Bool.or_eq_true, Bool.not_eq_true', not_or, Bool.not_eq_false] at h4
          exact ⟨h4.1, h4.2, by omega, by omega⟩
theorem checkF_mem : ∀ (rest pre : List StepT), (checkF pre rest).2 = 0 → ∀ t, t ∈ rest → ∃ pre', stepE pre' t = 0
  | [], _, _, t, ht => by cases ht
  | x :: rest, pre, h, t, ht => by
    unfold checkF at h
    split at h
    · rename_i c
      rcases List.mem_cons.1 ht with rfl | ht
      · exact ⟨pre, c⟩
      · exact checkF_mem rest _ h t ht
    · rename_i c
      exact absurd h c
theorem DOK.f {d : DefT} (h : DOK d) : (checkF [] d.steps.list).2 = 0 ∧ 0 < d.steps.list.length ∧ d.steps.list.length ≤ 32 := by
  have hc := h.ck
  unfold checkS at hc
  split at hc
  · cases hc
  · split at hc
    · cases hc
    · split at hc
      · cases hc
      · split at hc
        · cases hc
        · exact ⟨hc, by omega, by omega⟩
theorem DOK.step {d : DefT} (h : DOK d) {i : Nat} {t : StepT} (ht : d.steps.list[i]? = some t) : planS t.tr = true ∧ planS t.un = true ∧ 1 ≤ t.timeout ∧ t.timeout ≤ 1099511627776 := by
  obtain ⟨pre, hp⟩ := checkF_mem _ _ h.f.1 t (List.mem_of_getElem? ht)
  exact stepE_zero hp
def overS (s : SgT) : Bool := decide (s.phase = 3) || decide (s.phase = 4) || decide (s.phase = 5)
def planT (t : StepT) (s : SgT) : PlanT := if s.phase = 0 then t.tr else t.un
structure SOK (d : DefT) (s : SgT) (t : StepT) : Prop where
  nm : s.df = d.name
  id0 : 0 ≤ s.id
  p0 : 0 ≤ s.phase
  p5 : s.phase ≤ 5
  s0 : 0 ≤ s.step
  st : d.steps.list[s.step.toNat]? = some t
  b0 : 0 ≤ s.start
  b1 : s.start ≤ 1099511627776
  a0 : 0 ≤ s.due
  a1 : s.due ≤ 1099511627776
  k0 : 0 ≤ s.skips
  k1 : s.skips ≤ 32
  t0 : 0 ≤ s.tries
  t1 : s.tries ≤ 1001
  mo : overS s = false → s.tries ≤ (planT t s).ret + 1
  ou : s.out = true → 1 ≤ s.tries ∧ s.phase ≤ 1
  pk : s.phase = 2 → s.tries = (planT t s).ret + 1
theorem SOK.lt {d : DefT} {s : SgT} {t : StepT} (h : SOK d s t) : s.step < d.steps.list.length := by
  have h1 := (List.getElem?_eq_some_iff.1 h.st).1
  have h2 := h.s0
  omega
theorem plan_good {d : DefT} (hd : DOK d) {s : SgT} {t : StepT} (h : d.steps.list[s.step.toNat]? = some t) : planS (planT t s) = true := by
  obtain ⟨h1, h2, _⟩ := hd.step h
  unfold planT
  split
  · exact h1
  · exact h2
theorem fn_overRef {E : Prog} (hE : Std E fns) (s : SgT) : callP E f_usufructref14_Over [sA s] = some (vb (overS s)) := by
  rw [hE.run rfl rfl]
  simp -implicitDefEqProofs only [go_sem, ir_usufructref14_Over, overS]
  by_cases c1 : s.phase = 3
  · simp [c1]
  · by_cases c2 : s.phase = 4
    · simp [c2]
    · by_cases c3 : s.phase = 5 <;> simp [c1, c2, c3]
theorem fn_planRef {E : Prog} (hE : Std E fns) (d : DefT) (s : SgT) (t : StepT) (h0 : 0 ≤ s.step) (ht : d.steps.list[s.step.toNat]? = some t) : callP E f_usufructref14_Plan [dA d, sA s] = some (pA (planT t s)) := by
  have h1 := (List.getElem?_eq_some_iff.1 ht).1
  have c2 : ¬ s.step < 0 := by omega
  have c3 : ¬ (d.steps.list.length : Int) ≤ s.step := by omega
  rw [hE.run rfl rfl]
  by_cases c : s.phase = 0
  · simp -implicitDefEqProofs only [go_sem, ir_usufructref14_Plan, planT, c, c2, c3, h0, ht, ro_step, StepT.cells]
  · simp -implicitDefEqProofs only [go_sem, ir_usufructref14_Plan, planT, c, c2, c3, h0, ht, ro_step, StepT.cells]
theorem fn_tickRef {E : Prog} (hE : Std E fns) (n : Int) : callP E f_usufructref14_tick [vi n] = some (vb (tickGood n)) := by
  rw [hE.run rfl rfl]
  simp -implicitDefEqProofs only [go_sem, ir_usufructref14_tick, tickGood]
  by_cases c1 : 0 ≤ n <;> simp [c1]
theorem tick_in {n : Int} (h0 : 0 ≤ n) (h1 : n ≤ 1099511627776) : tickGood n = true := by simp [tickGood, h0, h1]
def VO (E : Prog) : Prop := ∀ s : ByteArray, s.size < 9223372036854775807 → callP E f_utf8_ValidString [vs s] = some (vb (Lib.validD s.data.toList))
set_option maxHeartbeats 4000000 in
set_option maxRecDepth 20000 in
theorem fn_sgoodRef {E : Prog} (hE : Std E fns) (d : DefT) (hd : DOK d) (s : SgT) (t : StepT) (h : SOK d s t) : callP E f_usufructref14_Good [dA d, sA s] = some (vb true) := by
  have hc := fn_checkRef hE d hd.sh
  have hp := plan_good hd h.st
  have hq := plan_ok hp
  have hpl := fn_planRef hE d s t h.s0 h.st
  have hov := fn_overRef hE s
  have hlt := h.lt
  rw [hd.ck] at hc
  simp only [DefT.cells] at hc
  have t0 := h.t0; have t1 := h.t1; have r0 := hq.r0; have r1 := hq.r1
  have w1 : IntKind.i64.wrap ((planT t s).ret + 1) = (planT t s).ret + 1 := IntWalk.i64_in _ (by omega)
  have a1 : ¬ s.id < 0 := by have := h.id0; omega
  have a2 : ¬ s.phase < 0 := by have := h.p0; omega
  have a3 : ¬ 5 < s.phase := by have := h.p5; omega
  have a4 : ¬ s.step < 0 := by have := h.s0; omega
  have a5 : ¬ (d.steps.list.length : Int) ≤ s.step := by omega
  have a6 := tick_in h.b0 h.b1
  have a7 := tick_in h.a0 h.a1
  have a8 : ¬ s.skips < 0 := by have := h.k0; omega
  have a9 : ¬ 32 < s.skips := by have := h.k1; omega
  have a10 : ¬ s.tries < 0 := by omega
  have hmo := h.mo; have hou := h.ou; have hpk := h.pk; have hnm := h.nm
  obtain ⟨i, df, b, ph, sp, tr, o, du, sk⟩ := s
  dsimp only at hnm
  subst hnm
  dsimp only at *
  rw [hE.run rfl rfl]
  cases o with
  | true =>
    obtain ⟨b1, b2⟩ := hou rfl
    have e1 : ¬ tr = 0 := by omega
    have e2 : ¬ 1 < ph := by omega
    have e3 : ¬ ph = 2 := by omega
    cases ho : overS ⟨i, d.name, b, ph, sp, tr, true, du, sk⟩ with
    | false =>
      rw [ho] at hov
      have c2 : ¬ (planT t ⟨i, d.name, b, ph, sp, tr, true, du, sk⟩).ret + 1 < tr := by have := hmo ho; omega
      simp -implicitDefEqProofs only [go_sem, ir_usufructref14_Good, hc, a1, a2, a3, a4, a5, fn_tickRef hE, a6, a7, a8, a9, a10, hpl, hov, w1, c2, e1, e2, e3, ro_step]
    | true =>
      rw [ho] at hov
      simp -implicitDefEqProofs only [go_sem, ir_usufructref14_Good, hc, a1, a2, a3, a4, a5, fn_tickRef hE, a6, a7, a8, a9, a10, hpl, hov, w1, e1, e2, e3, ro_step]
  | false =>
    have hend : ph = 2 → tr = (planT t ⟨i, d.name, b, ph, sp, tr, false, du, sk⟩).ret + 1 := hpk
    cases ho : overS ⟨i, d.name, b, ph, sp, tr, false, du, sk⟩ with
    | false =>
      rw [ho] at hov
      have c2 : ¬ (planT t ⟨i, d.name, b, ph, sp, tr, false, du, sk⟩).ret + 1 < tr := by have := hmo ho; omega
      by_cases e3 : ph = 2
      · have e4 := hend e3
        subst e3
        clear hend hpk
        simp -implicitDefEqProofs only [go_sem, ir_usufructref14_Good, hc, a1, a2, a3, a4, a5, fn_tickRef hE, a6, a7, a8, a9, a10, hpl, hov, w1, ro_step]
        simp [← e4]
      · simp -implicitDefEqProofs only [go_sem, ir_usufructref14_Good, hc, a1, a2, a3, a4, a5, fn_tickRef hE, a6, a7, a8, a9, a10, hpl, hov, w1, c2, e3, ro_step]
    | true =>
      rw [ho] at hov
      have e3 : ¬ ph = 2 := by
        simp only [overS, Bool.or_eq_true, decide_eq_true_eq] at ho
        omega
      simp -implicitDefEqProofs only [go_sem, ir_usufructref14_Good, hc, a1, a2, a3, a4, a5, fn_tickRef hE, a6, a7, a8, a9, a10, hpl, hov, w1, e3, ro_step]
def ckS (s : SgT) : Int := if overS s = true then 19 else 0
theorem fn_sgcheckRef {E : Prog} (hE : Std E fns) (d : DefT) (hd : DOK d) (s : SgT) (t : StepT) (h : SOK d s t) (now : Int) (hn : tickGood now = true) : callP E f_usufructref14_Check [dA d, sA s, vi now] = some (vi (ckS s)) := by
  have hg := fn_sgoodRef hE d hd s t h
  have hov := fn_overRef hE s
  rw [hE.run rfl rfl]
  cases ho : overS s with
  | false => simp -implicitDefEqProofs only [go_sem, ir_usufructref14_Check, hg, fn_tickRef hE, hn, hov, ho, ckS, ro_step]
  | true => simp -implicitDefEqProofs only [go_sem, ir_usufructref14_Check, hg, fn_tickRef hE, hn, hov, ho, ckS, ro_step]
def putS (s : SgT) (ph sp now : Int) : SgT := ⟨s.id, s.df, s.start, ph, sp, 0, false, now, s.skips⟩
def sendS (s : SgT) (ph : Int) : SgT := ⟨s.id, s.df, s.start, ph, s.step, s.tries, false, s.due, s.skips⟩
def backS (s : SgT) (now : Int) : SgT := if 0 < s.step then putS s 1 (s.step - 1) now else sendS s 4
def doneS (d : DefT) (s : SgT) (now : Int) : SgT :=
  if s.phase = 0 then (if s.step + 1 < d.steps.list.length then putS s 0 (s.step + 1) now else sendS s 3) else if 0 < s.step then putS s 1 (s.step - 1) now else if 0 < s.skips then sendS s 5 else sendS s 4
def failsS (t : StepT) (s : SgT) (now : Int) : SgT :=
  if s.tries ≤ (planT t s).ret then ⟨s.id, s.df, s.start, s.phase, s.step, s.tries, false, tickAdd now (waitS (planT t s) (s.tries - 1).toNat), s.skips⟩
  else if s.phase = 0 then backS s now else ⟨s.id, s.df, s.start, 2, s.step, s.tries, false, s.due, s.skips⟩
theorem fn_put {E : Prog} (hE : Std E fns) (s : SgT) (ph sp now : Int) : callP E f_usufructref14_put [sA s, vi ph, vi sp, vi now] = some (sA (putS s ph sp now)) := by
  rw [hE.run rfl rfl]
  simp -implicitDefEqProofs only [go_sem, ir_usufructref14_put, putS]
theorem fn_send {E : Prog} (hE : Std E fns) (s : SgT) (ph : Int) : callP E f_usufructref14_end [sA s, vi ph] = some (sA (sendS s ph)) := by
  rw [hE.run rfl rfl]
  simp -implicitDefEqProofs only [go_sem, ir_usufructref14_end, sendS]
theorem fn_backRef {E : Prog} (hE : Std E fns) (s : SgT) (h0 : 0 ≤ s.step) (h1 : s.step ≤ 1000) (now : Int) : callP E f_usufructref14_Back [sA s, vi now] = some (sA (backS s now)) := by
  have w : IntKind.i64.wrap (s.step - 1) = s.step - 1 := IntWalk.i64_in _ (by omega)
  rw [hE.run rfl rfl]
  by_cases c : 0 < s.step
  · have e : backS s now = putS s 1 (s.step - 1) now := by rw [backS, if_pos c]
    simp -implicitDefEqProofs only [go_sem, ir_usufructref14_Back, e, c, w, fn_put hE]
  · have e : backS s now = sendS s 4 := by rw [backS, if_neg c]
    simp -implicitDefEqProofs only [go_sem, ir_usufructref14_Back, e, c, fn_send hE]
theorem fn_doneRef {E : Prog} (hE : Std E fns) (d : DefT) (s : SgT) (h0 : 0 ≤ s.step) (h1 : s.step < d.steps.list.length) (h2 : d.steps.list.length ≤ 32) (now : Int) : callP E f_usufructref14_Done [dA d, sA s, vi now] = some (sA (doneS d s now)) := by
  have w1 : IntKind.i64.wrap (s.step - 1) = s.step - 1 := IntWalk.i64_in _ (by omega)
  have w2 : IntKind.i64.wrap (s.step + 1) = s.step + 1 := IntWalk.i64_in _ (by omega)
  have hA := fn_put hE s
  have hO := fn_send hE s
  obtain ⟨i, df, b, ph, sp, tr, o, du, sk⟩ := s
  dsimp only at *
  rw [hE.run rfl rfl]
  by_cases c : ph = 0
  · subst c
    by_cases c2 : sp + 1 < (d.steps.list.length : Int)
    · have e : doneS d ⟨i, df, b, 0, sp, tr, o, du, sk⟩ now = putS ⟨i, df, b, 0, sp, tr, o, du, sk⟩ 0 (sp + 1) now := by rw [doneS, if_pos rfl, if_pos c2]
      rw [e]
      simp -implicitDefEqProofs only [go_sem, ir_usufructref14_Done, w2, c2, hA, ro_step]
    · have e : doneS d ⟨i, df, b, 0, sp, tr, o, du, sk⟩ now = sendS ⟨i, df, b, 0, sp, tr, o, du, sk⟩ 3 := by rw [doneS, if_pos rfl, if_neg c2]
      rw [e]
      simp -implicitDefEqProofs only [go_sem, ir_usufructref14_Done, w2, c2, hO, ro_step]
  · by_cases c3 : 0 < sp
    · have e : doneS d ⟨i, df, b, ph, sp, tr, o, du, sk⟩ now = putS ⟨i, df, b, ph, sp, tr, o, du, sk⟩ 1 (sp - 1) now := by rw [doneS, if_neg c, if_pos c3]
      rw [e]
      simp -implicitDefEqProofs only [go_sem, ir_usufructref14_Done, w1, c, c3, hA, ro_step]
    · by_cases c4 : 0 < sk
      · have e : doneS d ⟨i, df, b, ph, sp, tr, o, du, sk⟩ now = sendS ⟨i, df, b, ph, sp, tr, o, du, sk⟩ 5 := by rw [doneS, if_neg c, if_neg c3, if_pos c4]
        rw [e]
        simp -implicitDefEqProofs only [go_sem, ir_usufructref14_Done, c, c3, c4, hO, ro_step]
      · have e : doneS d ⟨i, df, b, ph, sp, tr, o, du, sk⟩ now = sendS ⟨i, df, b, ph, sp, tr, o, du, sk⟩ 4 := by rw [doneS, if_neg c, if_neg c3, if_neg c4]
        rw [e]
        simp -implicitDefEqProofs only [go_sem, ir_usufructref14_Done, c, c3, c4, hO, ro_step]
theorem backS_out (i : Int) (df : ByteArray) (b ph sp tr : Int) (o : Bool) (du sk now : Int) : backS ⟨i, df, b, ph, sp, tr, o, du, sk⟩ now = backS ⟨i, df, b, ph, sp, tr, false, du, sk⟩ now := rfl
theorem fn_failsRef {E : Prog} (hE : Std E fns) (d : DefT) (hd : DOK d) (s : SgT) (t : StepT) (h : SOK d s t) (h1 : 1 ≤ s.tries) (now : Int) : callP E f_usufructref14_Fails [dA d, sA s, vi now] = some (sA (failsS t s now)) := by
  have hp := plan_good hd h.st
  have hq := plan_ok hp
  have hpl := fn_planRef hE d s t h.s0 h.st
  have t1 := h.t1; have r0 := hq.r0; have r1 := hq.r1; have hlt := h.lt; have hdf := hd.f
  have e1 : s.tries - 1 = ((s.tries - 1).toNat : Int) := by omega
  have w : IntKind.i64.wrap (s.tries - 1) = s.tries - 1 := IntWalk.i64_in _ (by omega)
  have hw := fn_waitRef hE (planT t s) hp (s.tries - 1).toNat (by omega)
  rw [← e1] at hw
  have hb := fn_backRef hE ⟨s.id, s.df, s.start, s.phase, s.step, s.tries, false, s.due, s.skips⟩ h.s0 (by dsimp only; omega) now
  simp only [PlanT.cells] at hw
  obtain ⟨i, df, b, ph, sp, tr, o, du, sk⟩ := s
  dsimp only at *
  rw [hE.run rfl rfl]
  by_cases c : tr ≤ (planT t ⟨i, df, b, ph, sp, tr, o, du, sk⟩).ret
  · rw [failsS, if_pos c]
    simp -implicitDefEqProofs only [go_sem, ir_usufructref14_Fails, hpl, c, w, hw, fn_ref01Add hE, ro_step]
  · rw [failsS, if_neg c]
    by_cases c3 : ph = 0
    · subst c3
      rw [if_pos rfl, backS_out]
      simp -implicitDefEqProofs only [go_sem, ir_usufructref14_Fails, hpl, c, hb, ro_step]
    · rw [if_neg c3]
      simp -implicitDefEqProofs only [go_sem, ir_usufructref14_Fails, hpl, c, c3, ro_step]
def smayS (d : DefT) (t : StepT) (s : SgT) (now : Int) : Bool :=
  !decide (s.phase = 2) && (!s.out && (decide (s.due ≤ now) && (decide (s.tries ≤ (planT t s).ret) && (decide (s.phase = 1) || decide (now < endS d s.start)))))
def emitS (d : DefT) (t : StepT) (s : SgT) (now : Int) : SgT := ⟨s.id, s.df, s.start, s.phase, s.step, s.tries + 1, true, tickAdd now t.timeout, s.skips⟩
def emitC (d : DefT) (t : StepT) (s : SgT) : CmT := ⟨s.id, s.step, decide (s.phase = 1), s.tries + 1, t.party, BA (keyS s.id d s.step (decide (s.phase = 1)))⟩
theorem not_over {s : SgT} (p0 : 0 ≤ s.phase) (p5 : s.phase ≤ 5) (h : overS s = false) : s.phase = 0 ∨ s.phase = 1 ∨ s.phase = 2 := by
  simp only [overS, Bool.or_eq_false_iff, decide_eq_false_iff_not] at h
  omega
theorem fn_smayRef {E : Prog} (hE : Std E fns) (d : DefT) (hd : DOK d) (s : SgT) (t : StepT) (h : SOK d s t) (ho : overS s = false) (now : Int) (n0 : 0 ≤ now) (n1 : now ≤ 1099511627776) : callP E f_usufructref14_May [dA d, sA s, vi now] = some (vb (smayS d t s now)) := by
  have hpl := fn_planRef hE d s t h.s0 h.st
  have hck := fn_sgcheckRef hE d hd s t h now (tick_in n0 n1)
  have he := fn_endRef hE d s.start
  simp only [DefT.cells] at he
  rw [ckS, ho] at hck
  clear ho h
  obtain ⟨i, df, b, ph, sp, tr, o, du, sk⟩ := s
  unfold smayS
  dsimp only at *
  rw [hE.run rfl rfl]
  by_cases c2 : ph = 2
  · subst c2
    simp -implicitDefEqProofs only [go_sem, ir_usufructref14_May, hck, ro_step]
  · cases o with
    | true => simp -implicitDefEqProofs only [go_sem, ir_usufructref14_May, hck, c2, ro_step]
    | false =>
      by_cases c3 : du ≤ now
      · have c4 : ¬ now < du := by omega
        by_cases c5 : tr ≤ (planT t ⟨i, df, b, ph, sp, tr, false, du, sk⟩).ret
        · have c6 : ¬ (planT t ⟨i, df, b, ph, sp, tr, false, du, sk⟩).ret < tr := by omega
          by_cases c1 : ph = 1
          · subst c1
            simp -implicitDefEqProofs only [go_sem, ir_usufructref14_May, hck, c3, c4, hpl, c5, c6, ro_step]
          · simp -implicitDefEqProofs only [go_sem, ir_usufructref14_May, hck, c1, c2, c3, c4, hpl, c5, c6, he, ro_step]
        · have c6 : (planT t ⟨i, df, b, ph, sp, tr, false, du, sk⟩).ret < tr := by omega
          simp -implicitDefEqProofs only [go_sem, ir_usufructref14_May, hck, c2, c3, c4, hpl, c5, c6, ro_step]
      · have c4 : now < du := by omega
        simp -implicitDefEqProofs only [go_sem, ir_usufructref14_May, hck, c2, c3, c4, ro_step]
end Go.Proofs.YtoobogpbejdocaaDoor.Ev
