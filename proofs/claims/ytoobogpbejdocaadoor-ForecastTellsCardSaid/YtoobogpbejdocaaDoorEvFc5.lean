import Derived.Test.YtoobogpbejdocaaDoorEvSa
import Derived.Test.YtoobogpbejdocaaDoorEvFc4
set_option linter.unusedVariables false
set_option linter.unusedSectionVars false
set_option linter.unusedSimpArgs false
namespace Go.Proofs.YtoobogpbejdocaaDoor.Ev
attribute [local congr] bind_congr_head
attribute [local go_sem] AV.cells AV.tuple elems boxQ callN_any compact_same compact_new aggOf
theorem trC_len (p : PlanT) (tmo k : Int) (u : Bool) (e : Int) : ∀ (m n : Nat) (a : Int), (trC p tmo k u e m n a).1.length ≤ m
  | 0, _, _ => Nat.le_refl _
  | m + 1, n, a => by
    rw [trC]
    split
    · exact Nat.zero_le _
    · split
      · exact Nat.zero_le _
      · split
        · simp
        · split
          · simp
          · split
            · simp
            · simp only [List.length_cons]
              exact Nat.succ_le_succ (trC_len p tmo k u e m (n + 1) _)
theorem trC_pos (p : PlanT) (tmo k : Int) (u : Bool) (e : Int) (m n : Nat) (a : Int) (h1 : a < 1099511627776) (h2 : a < e) : (trC p tmo k u e (m + 1) n a).1 ≠ [] := by
  rw [trC, if_neg (by omega), if_neg (by omega)]
  split
  · simp
  · split
    · simp
    · split <;> simp
theorem end_gt {d : DefT} (hd : DOK d) {a : Int} (h0 : 0 ≤ a) (h1 : a < 1099511627776) : a < endS d a := by
  have hc := hd.ck
  unfold checkS at hc
  split at hc
  · exact absurd hc (by dsimp only; omega)
  · split at hc
    · exact absurd hc (by dsimp only; omega)
    · rename_i hg
      unfold endS
      split
      · omega
      · rename_i hz
        have hg2 : tickGood d.deadline = true := by simpa using hg
        simp only [tickGood, Bool.and_eq_true, decide_eq_true_eq] at hg2
        exact (tick_add h0 (by omega) (by omega) hg2.2).2.2 h1
theorem fn_follow {E : Prog} (hE : Std E fns) (hlp : LpO E) {d : DefT} (hd : DOK d) (start : Int) (k : Nat) (a0 : 0 ≤ start) (a1 : start ≤ 1099511627776) (k1 : (k : Int) < d.steps.list.length) :
    ∃ (h : Nat) (now : Int) (st : Bool), callL E f_forecast_follow [dA d, vi start, vi k] [] [] = some (.ref 0 0 0 0, crS d (foreS d start k).1 h now st) ∧ (foreS d start k).2 = (if st = true then 0 else if (k : Int) = 0 then 4 else 2) := by
  obtain ⟨t, ht⟩ := step_at0 (d := d) (i := (k : Int)) (by omega) k1
  rw [Int.toNat_natCast] at ht
  obtain ⟨p1, p2, t1, t2⟩ := hd.step (i := k) ht
  have hen := fn_end hE d start
  simp only [DefT.cells] at hen
  obtain ⟨h1, now1, hA, hn⟩ := try_A hE hlp d t k ht p1 t1 t2 (endS d start) start a0 a1 false
  have hlen := trC_len t.tr t.timeout k false (endS d start) (t.tr.ret + 1).toNat 0 start
  have hpo := plan_ok p1
  have q0 := hpo.r0; have q1 := hpo.r1
  have hpos : (trC t.tr t.timeout k false (endS d start) (t.tr.ret + 1).toNat 0 start).2 < 1099511627776 → (trC t.tr t.timeout k false (endS d start) (t.tr.ret + 1).toNat 0 start).1 ≠ [] := fun h => by
    obtain ⟨m, hm⟩ : ∃ m, (t.tr.ret + 1).toNat = m + 1 := ⟨t.tr.ret.toNat, by omega⟩
    rw [hm] at h ⊢
    by_cases c : start < 1099511627776
    · exact trC_pos _ _ _ _ _ _ _ _ c (end_gt hd a0 c)
    · rw [trC_max _ _ _ _ _ _ _ _ (by omega)] at h
      have := end_in d a0 a1
      dsimp only at h; omega
  have hz0 : 0 ≤ (trC t.tr t.timeout k false (endS d start) (t.tr.ret + 1).toNat 0 start).2 := by
    obtain ⟨e1, e2⟩ := end_in d a0 a1
    have := (play_F (d := d) (t := t) (k := (k : Int)) (by rw [Int.toNat_natCast]; exact ht) 0 d.name start 0 hpo t1 t2 (endS d start) rfl e2 (t.tr.ret + 1).toNat 0 start start [] 5000 (by omega) (by omega) a0 a1 (Int.le_refl _) e1 a0 (by omega)).1
    exact this
  unfold foreS
  rw [Int.toNat_natCast, ht]
  dsimp only
  generalize trC t.tr t.timeout k false (endS d start) (t.tr.ret + 1).toNat 0 start = R at *
  obtain ⟨W, z⟩ := R
  dsimp only at *
  rw [crS_nil] at hA
  by_cases c : 1099511627776 ≤ z
  · rw [if_pos c]
    rw [decide_eq_true c] at hA
    refine ⟨h1, now1, true, ?_, rfl⟩
    rw [hE.runN rfl rfl]
    dsimp only
    by_cases hne : W = []
    · subst hne
      rw [crS_nil] at hA ⊢
      simp -implicitDefEqProofs only [go_sem, ↓reduceIte, ir_forecast_follow, hen, hA, ro_step]
      try rfl
    · rw [crS_ne _ hne] at hA ⊢
      simp -implicitDefEqProofs only [go_sem, ↓reduceIte, ir_forecast_follow, hen, hA, ro_step, ro_wn]
      try rfl
  · rw [if_neg c]
    rw [decide_eq_false c] at hA
    have hne := hpos (by omega)
    rw [crS_ne _ hne] at hA
    have hnow := hn (by omega)
    subst hnow
    by_cases c0 : (k : Int) = 0
    · rw [if_pos c0]
      have hk0 : k = 0 := by omega
      subst hk0
      refine ⟨h1, now1, false, ?_, rfl⟩
      rw [hE.runN rfl rfl]
      dsimp only
      rw [crS_ne _ hne]
      simp only [Int.natCast_zero] at hA
      simp -implicitDefEqProofs only [go_sem, ↓reduceIte, ir_forecast_follow, hen, hA, ro_step, ro_wn, Int.natCast_zero]
      try rfl
    · rw [if_neg c0]
      obtain ⟨t', ht'⟩ := step_at0 (d := d) (i := (k : Int) - 1) (by omega) (by omega)
      obtain ⟨j, hj⟩ : ∃ j : Nat, (k : Int) - 1 = (j : Int) := ⟨k - 1, by omega⟩
      rw [hj] at ht' ⊢
      rw [ht']
      rw [Int.toNat_natCast] at ht'
      obtain ⟨_, u2, u3, u4⟩ := hd.step (i := j) ht'
      obtain ⟨h2, now2, hB⟩ := try_B hE hlp d t' j ht' u2 u3 u4 now1 hz0 (by omega) false W hne (by omega) h1
      have w1 : IntKind.i64.wrap ((k : Int) - 1) = (j : Int) := by rw [hj]; exact IntWalk.i64_in _ (by have := hd.f; omega)
      have w2 : (0 : Int) < (k : Int) := by omega
      dsimp only
      have e0 : (1099511627776 : Int) + 1 = 1099511627777 := rfl
      rw [e0]
      generalize trC t'.un t'.timeout j true 1099511627777 (t'.un.ret + 1).toNat 0 now1 = R2 at *
      obtain ⟨W2, z2⟩ := R2
      dsimp only at *
      have hne2 : W ++ W2 ≠ [] := by simp [hne]
      refine ⟨h2, now2, decide (1099511627776 ≤ z2), ?_, by rw [if_neg c0]; by_cases cz : 1099511627776 ≤ z2 <;> simp [cz]⟩
      rw [hE.runN rfl rfl]
      rw [crS_ne _ hne, crS_ne _ hne2] at hB
      rw [crS_ne _ hne2]
      generalize W ++ W2 = P2 at *
      simp -implicitDefEqProofs only [go_sem, ↓reduceIte, ir_forecast_follow, hen, hA, hB, w1, w2, ro_step, ro_wn]
      try rfl
end Go.Proofs.YtoobogpbejdocaaDoor.Ev
