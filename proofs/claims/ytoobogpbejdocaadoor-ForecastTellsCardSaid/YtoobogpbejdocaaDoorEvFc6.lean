import Derived.Test.YtoobogpbejdocaaDoorEvSa
import Derived.Test.YtoobogpbejdocaaDoorEvFc5
set_option linter.unusedVariables false
set_option linter.unusedSectionVars false
set_option linter.unusedSimpArgs false
namespace Go.Proofs.YtoobogpbejdocaaDoor.Ev
attribute [local congr] bind_congr_head
attribute [local go_sem] AV.cells AV.tuple elems boxQ callN_any compact_same compact_new aggOf
def rightS (d : DefT) (start done : Int) : Prop := (checkS d).2 = 0 ∧ 0 ≤ start ∧ start ≤ 1099511627776 ∧ 0 ≤ done ∧ done < d.steps.list.length
instance (d : DefT) (start done : Int) : Decidable (rightS d start done) := by unfold rightS; exact inferInstance
theorem fn_right {E : Prog} (hE : Std E fns) (hv : VO E) (d : DefT) (hd : shortD d) (start done : Int) : callP E f_forecast_right [dA d, vi start, vi done] = some (vb (decide (rightS d start done))) := by
  have hc := fn_check hE hv d hd
  have ht := fn_tickGood hE start
  simp only [DefT.cells] at hc
  rw [hE.run rfl rfl]
  unfold rightS
  by_cases c1 : (checkS d).2 = 0
  · by_cases c2 : 0 ≤ start ∧ start ≤ 1099511627776
    · have t1 : tickGood start = true := by simp [tickGood, c2]
      rw [t1] at ht
      by_cases c3 : 0 ≤ done
      · by_cases c4 : done < (d.steps.list.length : Int)
        · simp -implicitDefEqProofs only [go_sem, ↓reduceIte, ir_forecast_right, hc, ht, c1, c2, c3, c4, ro_step]
        · simp -implicitDefEqProofs only [go_sem, ↓reduceIte, ir_forecast_right, hc, ht, c1, c2, c3, c4, ro_step]
      · simp -implicitDefEqProofs only [go_sem, ↓reduceIte, ir_forecast_right, hc, ht, c1, c2, c3, ro_step]
    · have t1 : tickGood start = false := by
        cases hq : tickGood start with
        | false => rfl
        | true => simp only [tickGood, Bool.and_eq_true, decide_eq_true_eq] at hq; exact absurd hq c2
      rw [t1] at ht
      have e : decide ((checkS d).2 = 0 ∧ 0 ≤ start ∧ start ≤ 1099511627776 ∧ 0 ≤ done ∧ done < (d.steps.list.length : Int)) = false := decide_eq_false fun h => c2 ⟨h.2.1, h.2.2.1⟩
      rw [e]
      simp -implicitDefEqProofs only [go_sem, ↓reduceIte, ir_forecast_right, hc, ht, c1, ro_step]
  · simp -implicitDefEqProofs only [go_sem, ↓reduceIte, ir_forecast_right, hc, c1, ro_step]
theorem fn_refRight {E : Prog} (hE : Std E fns) (d : DefT) (hd : shortD d) (start done : Int) : callP E f_usufructref30_Right [dA d, vi start, vi done] = some (vb (decide (rightS d start done))) := by
  have hc := fn_checkRef hE d hd
  simp only [DefT.cells] at hc
  rw [hE.run rfl rfl]
  unfold rightS
  by_cases c1 : (checkS d).2 = 0
  · by_cases c2 : 0 ≤ start
    · by_cases c2' : start ≤ 1099511627776
      · by_cases c3 : 0 ≤ done
        · by_cases c4 : done < (d.steps.list.length : Int)
          · simp -implicitDefEqProofs only [go_sem, ↓reduceIte, ir_usufructref30_Right, hc, c1, c2, c2', c3, c4, ro_step]
          · simp -implicitDefEqProofs only [go_sem, ↓reduceIte, ir_usufructref30_Right, hc, c1, c2, c2', c3, c4, ro_step]
        · simp -implicitDefEqProofs only [go_sem, ↓reduceIte, ir_usufructref30_Right, hc, c1, c2, c2', c3, ro_step]
      · simp -implicitDefEqProofs only [go_sem, ↓reduceIte, ir_usufructref30_Right, hc, c1, c2, c2', ro_step]
    · simp -implicitDefEqProofs only [go_sem, ↓reduceIte, ir_usufructref30_Right, hc, c1, c2, ro_step]
  · simp -implicitDefEqProofs only [go_sem, ↓reduceIte, ir_usufructref30_Right, hc, c1, ro_step]
def lastS (W : List WnT) (start : Int) : Int := match W[W.length - 1]? with | some w => w.to | none => start
section
variable {E : Prog} (hE : Std E fns) (hlp : LpO E) (hv : VO E) (d : DefT) (hd : shortD d) (start done : Int)
include hE hv hd
theorem of_bad (h : ¬ rightS d start done) : callP E f_forecast_Of [dA d, vi start, vi done] = some nilS := by
  have hr := fn_right hE hv d hd start done
  rw [decide_eq_false h] at hr
  rw [hE.run rfl rfl]
  simp -implicitDefEqProofs only [go_sem, ↓reduceIte, ir_forecast_Of, hr, ro_step]
  try rfl
theorem phase_bad (h : ¬ rightS d start done) : callP E f_forecast_Phase [dA d, vi start, vi done] = some (vi 0) := by
  have hr := fn_right hE hv d hd start done
  rw [decide_eq_false h] at hr
  rw [hE.run rfl rfl]
  simp -implicitDefEqProofs only [go_sem, ↓reduceIte, ir_forecast_Phase, hr, ro_step]
  try rfl
theorem last_bad (h : ¬ rightS d start done) : callP E f_forecast_Last [dA d, vi start, vi done] = some (vi start) := by
  have ho := of_bad hE hv d hd start done h
  rw [hE.run rfl rfl]
  simp -implicitDefEqProofs only [go_sem, ↓reduceIte, ir_forecast_Last, ho, ro_step]
  try rfl
include hlp
theorem fn_of (h : rightS d start done) : callP E f_forecast_Of [dA d, vi start, vi done] = some ((slOf (foreS d start done).1).av 5 WnT.cells) := by
  have hr := fn_right hE hv d hd start done
  rw [decide_eq_true h] at hr
  obtain ⟨c, s0, s1, k0, k1⟩ := h
  obtain ⟨k, rfl⟩ := Int.eq_ofNat_of_zero_le k0
  obtain ⟨g, now, st, hf, _⟩ := fn_follow hE hlp ⟨hd, c⟩ start k s0 s1 k1
  rw [hE.run rfl rfl]
  generalize (foreS d start k).1 = W at *
  by_cases hne : W = []
  · subst hne
    rw [crS_nil] at hf
    simp -implicitDefEqProofs only [go_sem, ↓reduceIte, ir_forecast_Of, hr, hf, slOf, ro_step]
    try rfl
  · rw [crS_ne _ hne] at hf
    rw [slOf_ne hne]
    simp -implicitDefEqProofs only [go_sem, ↓reduceIte, ir_forecast_Of, hr, hf, ro_step, ro_wn, take_map_all]
    try rfl
theorem fn_phase (h : rightS d start done) : callP E f_forecast_Phase [dA d, vi start, vi done] = some (vi (foreS d start done).2) := by
  have hr := fn_right hE hv d hd start done
  rw [decide_eq_true h] at hr
  obtain ⟨c, s0, s1, k0, k1⟩ := h
  obtain ⟨k, rfl⟩ := Int.eq_ofNat_of_zero_le k0
  obtain ⟨g, now, st, hf, he⟩ := fn_follow hE hlp ⟨hd, c⟩ start k s0 s1 k1
  rw [hE.run rfl rfl, he]
  generalize (foreS d start k).1 = W at *
  clear he
  by_cases hne : W = []
  · subst hne
    rw [crS_nil] at hf
    cases st with
    | true => simp -implicitDefEqProofs only [go_sem, ↓reduceIte, ir_forecast_Phase, hr, hf, ro_step]; try rfl
    | false =>
      by_cases cz : (k : Int) = 0
      · have hk : k = 0 := by omega
        subst hk
        simp only [Int.natCast_zero] at hf hr
        simp -implicitDefEqProofs only [go_sem, ↓reduceIte, ir_forecast_Phase, hr, hf, ro_step, Int.natCast_zero]
        try rfl
      · simp -implicitDefEqProofs only [go_sem, ↓reduceIte, ir_forecast_Phase, hr, hf, cz, ro_step]
        try rfl
  · rw [crS_ne _ hne] at hf
    cases st with
    | true => simp -implicitDefEqProofs only [go_sem, ↓reduceIte, ir_forecast_Phase, hr, hf, ro_step, ro_wn]; try rfl
    | false =>
      by_cases cz : (k : Int) = 0
      · have hk : k = 0 := by omega
        subst hk
        simp only [Int.natCast_zero] at hf hr
        simp -implicitDefEqProofs only [go_sem, ↓reduceIte, ir_forecast_Phase, hr, hf, ro_step, ro_wn, Int.natCast_zero]
        try rfl
      · simp -implicitDefEqProofs only [go_sem, ↓reduceIte, ir_forecast_Phase, hr, hf, cz, ro_step, ro_wn]
        try rfl
theorem fn_last (h : rightS d start done) (hW : (foreS d start done).1.length ≤ 3000) : callP E f_forecast_Last [dA d, vi start, vi done] = some (vi (lastS (foreS d start done).1 start)) := by
  have ho := fn_of hE hlp hv d hd start done h
  rw [hE.run rfl rfl]
  generalize (foreS d start done).1 = W at *
  unfold lastS
  by_cases hne : W = []
  · subst hne
    simp only [slOf, Sl.av] at ho
    simp -implicitDefEqProofs only [go_sem, ↓reduceIte, ir_forecast_Last, ho, lenAV, ro_step]
    try rfl
  · rw [slOf_ne hne] at ho
    have hl : 0 < W.length := List.length_pos_iff.2 hne
    obtain ⟨w, hw⟩ : ∃ w, W[W.length - 1]? = some w := ⟨_, List.getElem?_eq_getElem (by omega)⟩
    have e1 : IntKind.i64.wrap ((W.length : Int) - 1) = ((W.length - 1 : Nat) : Int) := by rw [IntWalk.i64_in _ (by omega)]; omega
    have e2 : ¬ (W.length : Int) = 0 := by omega
    have e3 : ((W.length - 1 : Nat) : Int) < (W.length : Int) := by omega
    rw [hw]
    have lm : (Sl.mk W).list = W := rfl
    simp -implicitDefEqProofs only [go_sem, ↓reduceIte, ir_forecast_Last, ho, hw, e1, e2, e3, lm, hne, WnT.cells, ro_step, ro_wn, Int.natCast_nonneg]
    try rfl
end
end Go.Proofs.YtoobogpbejdocaaDoor.Ev
