import Derived.Test.YtoobogpbejdocaaDoorEvFc1
set_option linter.unusedVariables false
set_option linter.unusedSectionVars false
set_option linter.unusedSimpArgs false
namespace Go.Proofs.YtoobogpbejdocaaDoor.Ev
attribute [local congr] bind_congr_head
structure WOK (d : DefT) (s : SgT) : Prop where
  nm : s.df = d.name
  id0 : 0 ≤ s.id
  s0 : 0 ≤ s.step
  s1 : s.step < d.steps.list.length
  b0 : 0 ≤ s.start
  b1 : s.start ≤ 1099511627776
  a0 : 0 ≤ s.due
  a1 : s.due ≤ 1099511627776
  k0 : 0 ≤ s.skips
  k1 : s.skips ≤ 32
  t0 : 0 ≤ s.tries
  t1 : s.tries ≤ 1001
theorem SOK.w {d : DefT} {s : SgT} {t : StepT} (h : SOK d s t) : WOK d s := ⟨h.nm, h.id0, h.s0, h.lt, h.b0, h.b1, h.a0, h.a1, h.k0, h.k1, h.t0, h.t1⟩
theorem step_at {d : DefT} {i : Int} (h0 : 0 ≤ i) (h1 : i < d.steps.list.length) : ∃ t, d.steps.list[i.toNat]? = some t :=
  ⟨d.steps.list[i.toNat]'(by omega), List.getElem?_eq_getElem _⟩
theorem ret_in {d : DefT} (hd : DOK d) {s : SgT} {t : StepT} (h : d.steps.list[s.step.toNat]? = some t) : 0 ≤ (planT t s).ret ∧ (planT t s).ret ≤ 1000 :=
  ⟨(plan_ok (plan_good hd h)).r0, (plan_ok (plan_good hd h)).r1⟩
theorem sok_put {d : DefT} (hd : DOK d) {s : SgT} (w : WOK d s) (ph sp now : Int) (hp : ph = 0 ∨ ph = 1) (h0 : 0 ≤ sp) (h1 : sp < d.steps.list.length) (n0 : 0 ≤ now) (n1 : now ≤ 1099511627776) :
    ∃ t', SOK d (putS s ph sp now) t' := by
  obtain ⟨t', ht⟩ := step_at h0 h1
  have r := ret_in hd (s := putS s ph sp now) ht
  refine ⟨t', ⟨w.nm, w.id0, ?_, ?_, h0, ht, w.b0, w.b1, n0, n1, w.k0, w.k1, ?_, ?_, fun _ => ?_, fun h => ?_, fun h => ?_⟩⟩
  · show 0 ≤ ph; omega
  · show ph ≤ 5; omega
  · show (0 : Int) ≤ 0; omega
  · show (0 : Int) ≤ 1001; omega
  · show (0 : Int) ≤ _ + 1; omega
  · cases h
  · exact absurd h (show ¬ ph = 2 by omega)
theorem sok_send {d : DefT} {s : SgT} (w : WOK d s) (ph : Int) (hp : ph = 3 ∨ ph = 4 ∨ ph = 5) : ∃ t', SOK d (sendS s ph) t' := by
  obtain ⟨t', ht⟩ := step_at w.s0 w.s1
  refine ⟨t', ⟨w.nm, w.id0, ?_, ?_, w.s0, ht, w.b0, w.b1, w.a0, w.a1, w.k0, w.k1, w.t0, w.t1, fun h => ?_, fun h => ?_, fun h => ?_⟩⟩
  · show 0 ≤ ph; omega
  · show ph ≤ 5; omega
  · exfalso
    have : overS (sendS s ph) = true := by rcases hp with rfl | rfl | rfl <;> rfl
    rw [this] at h; cases h
  · cases h
  · exact absurd h (show ¬ ph = 2 by omega)
theorem sok_back {d : DefT} (hd : DOK d) {s : SgT} (w : WOK d s) {now : Int} (n0 : 0 ≤ now) (n1 : now ≤ 1099511627776) : ∃ t', SOK d (backS s now) t' := by
  unfold backS
  have h0 := w.s0; have h1 := w.s1
  split
  · exact sok_put hd w 1 _ now (.inr rfl) (by omega) (by omega) n0 n1
  · exact sok_send w 4 (by omega)
theorem sok_fails {d : DefT} (hd : DOK d) {s : SgT} {t : StepT} (h : SOK d s t) (ho : overS s = false) {now : Int} (n0 : 0 ≤ now) (n1 : now ≤ 1099511627776) : ∃ t', SOK d (failsS t s now) t' := by
  unfold failsS
  have hm := h.mo ho
  split
  · rename_i c
    refine ⟨t, ⟨h.nm, h.id0, h.p0, h.p5, h.s0, h.st, h.b0, h.b1, (tickOf_in _).1, (tickOf_in _).2, h.k0, h.k1, h.t0, h.t1, fun _ => hm, fun h => ?_, fun hp => ?_⟩⟩
    · cases h
    · have := h.pk hp
      exact this
  · rename_i c
    split
    · exact sok_back hd h.w n0 n1
    · rename_i c2
      have e : ∀ x : SgT, x.phase = 2 → planT t x = planT t s := fun x hx => by unfold planT; rw [if_neg (by omega), if_neg c2]
      have e1 := e ⟨s.id, s.df, s.start, 2, s.step, s.tries, false, s.due, s.skips⟩ rfl
      refine ⟨t, ⟨h.nm, h.id0, by show (0 : Int) ≤ 2; omega, by show (2 : Int) ≤ 5; omega, h.s0, h.st, h.b0, h.b1, h.a0, h.a1, h.k0, h.k1, h.t0, h.t1, fun _ => ?_, fun h => ?_, fun hp => ?_⟩⟩
      · rw [e1]; exact hm
      · cases h
      · rw [e1]
        show s.tries = _
        omega
theorem fails_id (t : StepT) (s : SgT) (now : Int) : (failsS t s now).id = s.id := by
  unfold failsS backS putS sendS
  repeat' split
  all_goals rfl
theorem back_id (s : SgT) (now : Int) : (backS s now).id = s.id := by
  unfold backS putS sendS
  repeat' split
  all_goals rfl
theorem sok_emit {d : DefT} (hd : DOK d) {s : SgT} {t : StepT} (h : SOK d s t) (now : Int) (ho : overS s = false) (hm : smayS d t s now = true) : SOK d (emitS d t s now) t := by
  simp only [smayS, Bool.and_eq_true, Bool.not_eq_true', decide_eq_true_eq, decide_eq_false_iff_not] at hm
  obtain ⟨m1, m2, m3, m4, m5⟩ := hm
  have := h.t0; have r := ret_in hd h.st; have p0 := h.p0; have p5 := h.p5
  have ph := not_over p0 p5 ho
  exact ⟨h.nm, h.id0, h.p0, h.p5, h.s0, h.st, h.b0, h.b1, (tickOf_in _).1, (tickOf_in _).2, h.k0, h.k1, by show 0 ≤ s.tries + 1; omega, by show s.tries + 1 ≤ 1001; omega,
    fun _ => by show s.tries + 1 ≤ (planT t s).ret + 1; omega, fun _ => ⟨by show 1 ≤ s.tries + 1; omega, by show s.phase ≤ 1; omega⟩, fun hp => absurd hp m1⟩
theorem sok_at {d : DefT} {s : SgT} {t : StepT} (h : SOK d s t) : stepAt d s = t := by
  unfold stepAt
  rw [h.st]
  rfl
theorem sok_do {d : DefT} (hd : DOK d) {s : SgT} {t : StepT} (h : SOK d s t) {now : Int} (n0 : 0 ≤ now) (n1 : now ≤ 1099511627776) (k : Nat) (hk : k ≤ 1) : (∃ t', SOK d (doS d s now k) t') ∧ (doS d s now k).id = s.id ∧ (doS d s now k).start = s.start := by
  unfold doS
  rw [sok_at h]
  split
  rotate_left
  · exact ⟨⟨t, h⟩, rfl, rfl⟩
  rename_i he
  unfold actS at he ⊢
  split
  · exact ⟨⟨t, h⟩, rfl, rfl⟩
  · rename_i ho
    have ho' : overS s = false := by simpa using ho
    rw [if_neg ho] at he
    have hk2 : k = 0 ∨ k = 1 := by omega
    rcases hk2 with rfl | rfl
    · have e : actN d t s now 0 = if s.out = true ∧ s.due ≤ now then (failsS t s now, 0) else (s, 9) := rfl
      rw [e]
      split
      · refine ⟨sok_fails hd h ho' n0 n1, fails_id t s _, ?_⟩
        unfold failsS backS
        split
        · rfl
        · split
          · split <;> rfl
          · rfl
      · exact ⟨⟨t, h⟩, rfl, rfl⟩
    · have e : actN d t s now 1 = if s.phase = 0 ∧ endS d s.start ≤ now then (backS s now, 0) else (s, 9) := rfl
      rw [e]
      split
      · refine ⟨sok_back hd h.w n0 n1, back_id s _, ?_⟩
        unfold backS
        split <;> rfl
      · exact ⟨⟨t, h⟩, rfl, rfl⟩
end Go.Proofs.YtoobogpbejdocaaDoor.Ev
