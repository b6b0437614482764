import Derived.Test.YtoobogpbejdocaaDoorEvSa
import Derived.Test.YtoobogpbejdocaaDoorEvFc10
set_option linter.unusedVariables false
set_option linter.unusedSectionVars false
set_option linter.unusedSimpArgs false
set_option linter.unusedSectionVars false
namespace Go.Proofs.YtoobogpbejdocaaDoor.Ev
attribute [local congr] bind_congr_head
attribute [local go_sem] AV.cells AV.tuple elems boxQ callN_any compact_same compact_new aggOf
theorem en_wn : (slOf ([] : List WnT)).av 5 WnT.cells = nilS := rfl
theorem fn_Play {E : Prog} (hE : Std E fns) {d : DefT} (hd : DOK d) (start done : Int) (a0 : 0 ≤ start) (a1 : start ≤ 1099511627776) (k0 : 0 ≤ done) (k1 : done < d.steps.list.length) :
    callP E f_usufructref30_Play [dA d, vi start, vi done] = some (.tup [(slOf (play d (endS d start) 5000 ⟨0, d.name, start, 0, done, 0, false, start, 0⟩ start []).1).av 5 WnT.cells, sA (play d (endS d start) 5000 ⟨0, d.name, start, 0, done, 0, false, start, 0⟩ start []).2]) := by
  obtain ⟨t, ht⟩ := step_at0 k0 k1
  obtain ⟨p1, p2, t1, t2⟩ := hd.step ht
  have hpo := plan_ok p1
  have q0 := hpo.r0
  obtain ⟨e1, e2⟩ := end_in d a0 a1
  have hen := fn_endRef hE d start
  simp only [DefT.cells] at hen
  have so : SOK d ⟨0, d.name, start, 0, done, 0, false, start, 0⟩ t := ⟨rfl, Int.le_refl _, Int.le_refl _, (by decide : (0 : Int) ≤ 5), k0, ht, a0, a1, a0, a1, Int.le_refl _, (by decide : (0 : Int) ≤ 32), Int.le_refl _, (by decide : (0 : Int) ≤ 1001),
    fun _ => by show (0 : Int) ≤ (planT t ⟨0, d.name, start, 0, done, 0, false, start, 0⟩).ret + 1; unfold planT; rw [if_pos rfl]; omega, fun h => (by cases h), fun h => (by cases h)⟩
  obtain ⟨g', hl⟩ := pl_loop hE hd (endS d start) (loopL_eq (IR.runL E.glob (callL E) [] ir_usufructref30_Play_L0) (compact [] 3 [3, 7, 8, 9, 10, 11, 12])) (by omega) 5000 0 ⟨0, d.name, start, 0, done, 0, false, start, 0⟩ start [] 0 rfl ⟨t, so⟩ rfl a0 a1 (Nat.le_refl _) (fun h => by cases h)
  rw [(pl_nil d sg0 _ 0).1, (pl_nil d sg0 ⟨0, d.name, start, 0, done, 0, false, start, 0⟩ 0).2] at hl
  simp only [SgT.cells, sg0, Int.natCast_zero] at hl
  rw [hE.run rfl rfl]
  generalize play d (endS d start) 5000 ⟨0, d.name, start, 0, done, 0, false, start, 0⟩ start [] = R at *
  obtain ⟨W, s'⟩ := R
  dsimp only at *
  by_cases hne : W = []
  · subst hne
    rw [(pl_nil d _ s' g').1, (pl_nil d s' s' g').2, (pl_nil d s' s' g').1] at hl
    rcases hl with hl | hl
    · simp -implicitDefEqProofs only [go_sem, ↓reduceIte, ir_usufructref30_Play, SgT.cells, hen, hl, en_wn, ro_step]
      try rfl
    · simp -implicitDefEqProofs only [go_sem, ↓reduceIte, ir_usufructref30_Play, SgT.cells, hen, hl, en_wn, ro_step]
      try rfl
  · rw [(pl_ne d _ s' g' hne).1, (pl_ne d s' s' g' hne).2, (pl_ne d s' s' g' hne).1] at hl
    rw [slOf_ne hne]
    rcases hl with hl | hl
    · simp -implicitDefEqProofs only [go_sem, ↓reduceIte, ir_usufructref30_Play, SgT.cells, hen, hl, take_map_all, ro_step, ro_wn]
      try rfl
    · simp -implicitDefEqProofs only [go_sem, ↓reduceIte, ir_usufructref30_Play, SgT.cells, hen, hl, take_map_all, ro_step, ro_wn]
      try rfl
theorem eqL_wn (w : WnT) : eqL [.i, .b, .i, .i, .i] [vi w.step, vb w.undo, vi w.try_, vi w.fr, vi w.to] [vi w.step, vb w.undo, vi w.try_, vi w.fr, vi w.to] = some true := by
  simp only [eqL, eqV, if_true, decide_true, Bool.and_true, int_beq, beq_self_eq_true]
theorem same_loop {E : Prog} (a b : Sl WnT) (hab : a.list = b.list) (hl : a.list.length ≤ 9000) {L : Env × Store → Option (Sig × Env × Store)}
    (hL : ∀ e st, L (e, st) = (IR.runL E.glob (callL E) [] ir_usufructlaw30_same_L0 e st).bind (seqK fun e st => L (compact [] 0 [0, 1, 5] e st))) :
    ∀ (rest : List WnT) (i : Nat), a.list.drop i = rest → i ≤ a.list.length → L ([(0, a.av 5 WnT.cells), (1, b.av 5 WnT.cells), (5, vi i)], []) = some (.exit 0, [], [])
  | [], i, h0, hi => by
    have h1 := drop_nil' h0 hi
    rw [hL]
    simp -implicitDefEqProofs only [go_sem, ↓reduceIte, ir_usufructlaw30_same_L0, h1, ro_wn]
  | w :: rest, i, h0, hi => by
    obtain ⟨h1, h2, h3, h4, h5⟩ := drop_cons h0
    have h6 := wrap_succ (i := i) (by omega)
    have ih := same_loop a b hab hl hL rest (i + 1) h2 h4
    have b1 : b.list[i]? = some w := by rw [← hab]; exact h1
    have b3 : (i : Int) < (b.list.length : Int) := by rw [← hab]; exact h3
    rw [hL]
    simp -implicitDefEqProofs only [go_sem, ↓reduceIte, ir_usufructlaw30_same_L0, h1, h3, h6, b1, b3, WnT.cells, eqL_wn, ih, ro_wn, Int.natCast_nonneg]
theorem fn_same30 {E : Prog} (hE : Std E fns) (a b : Sl WnT) (hab : a.list = b.list) (hl : a.list.length ≤ 9000) : callP E f_usufructlaw30_same [a.av 5 WnT.cells, b.av 5 WnT.cells] = some (vb true) := by
  have h := same_loop a b hab hl (loopL_eq (IR.runL E.glob (callL E) [] ir_usufructlaw30_same_L0) (compact [] 0 [0, 1, 5])) a.list 0 rfl (by omega)
  simp only [Int.natCast_zero] at h
  have e : a.list.length = b.list.length := by rw [hab]
  rw [hE.run rfl rfl]
  simp -implicitDefEqProofs only [go_sem, ↓reduceIte, ir_usufructlaw30_same, e, h, ro_wn]
theorem fore_len {d : DefT} (hd : DOK d) (start done : Int) (k0 : 0 ≤ done) (k1 : done < d.steps.list.length) : (foreS d start done).1.length ≤ 2100 := by
  obtain ⟨t, ht⟩ := step_at0 k0 k1
  obtain ⟨p1, _, _, _⟩ := hd.step ht
  have hpo := plan_ok p1
  have q1 := hpo.r1
  have hl := trC_len t.tr t.timeout done false (endS d start) (t.tr.ret + 1).toNat 0 start
  unfold foreS
  rw [ht]
  dsimp only
  split
  · dsimp only; omega
  · split
    · dsimp only; omega
    · rename_i c0
      obtain ⟨t', ht'⟩ := step_at0 (d := d) (i := done - 1) (by omega) (by omega)
      obtain ⟨_, u2, _, _⟩ := hd.step ht'
      have hpu := plan_ok u2
      have v1 := hpu.r1
      rw [ht']
      dsimp only
      have hl2 := trC_len t'.un t'.timeout (done - 1) true (1099511627776 + 1) (t'.un.ret + 1).toNat 0 (trC t.tr t.timeout done false (endS d start) (t.tr.ret + 1).toNat 0 start).2
      rw [List.length_append]
      omega
theorem fn_ForecastTells {E : Prog} (hE : Std E fns) (hlp : LpO E) (hv : VO E) (hw : callP E f_usufructlaw30_awake [] = some (vb true)) (d : DefT) (start done : Int) : callP E f_usufructlaw30_ForecastTells [dA d, vi start, vi done] = some (vb true) := by
  have hsm := fn_small hE d
  simp only [DefT.cells] at hsm
  rw [hE.run rfl rfl]
  by_cases c : smallS d = 0
  rotate_left
  · simp -implicitDefEqProofs only [go_sem, ↓reduceIte, ir_usufructlaw30_ForecastTells, hw, hsm, c, ro_step]
    try rfl
  rw [c] at hsm
  have hd := short_of c
  have hrr := fn_refRight hE d hd start done
  by_cases hr : rightS d start done
  · rw [decide_eq_true hr] at hrr
    have ho := fn_of hE hlp hv d hd start done hr
    have hph := fn_phase hE hlp hv d hd start done hr
    obtain ⟨ck, s0, s1, k0, k1⟩ := id hr
    have hD : DOK d := ⟨hd, ck⟩
    have hlen := fore_len hD start done k0 k1
    have hla := fn_last hE hlp hv d hd start done hr (by omega)
    have hpl := fn_Play hE hD start done s0 s1 k0 k1
    obtain ⟨s', hp1, hp2⟩ := fore_play hD start done s0 s1 k0 k1
    rw [hp1] at hpl
    have hsame := fn_same30 hE (slOf (foreS d start done).1) (slOf (foreS d start done).1) rfl (by rw [slOf_list]; omega)
    dsimp only at hpl
    clear hp1 hr
    generalize (foreS d start done).1 = W at *
    generalize (foreS d start done).2 = ph at *
    unfold lastS at hla
    have hcase : (1 < s'.phase ∧ s'.phase = ph) ∨ (¬ 1 < s'.phase ∧ ph = 0) := by
      by_cases h1 : 1 < s'.phase
      · rw [if_pos h1] at hp2; exact .inl ⟨h1, hp2⟩
      · rw [if_neg h1] at hp2; exact .inr ⟨h1, hp2.symm⟩
    by_cases hne : W = []
    · subst hne
      have e0 : ([] : List WnT)[([] : List WnT).length - 1]? = none := rfl
      rw [e0] at hla
      dsimp only at hla
      rw [en_wn] at ho hpl
      rw [en_wn] at hsame
      rcases hcase with ⟨h1, h2⟩ | ⟨h1, h2⟩
      · subst h2
        simp -implicitDefEqProofs only [go_sem, ↓reduceIte, ir_usufructlaw30_ForecastTells, hw, hsm, hrr, ho, hph, hla, hpl, hsame, h1, lenAV, SgT.cells, ro_step]
        try rfl
      · subst h2
        simp -implicitDefEqProofs only [go_sem, ↓reduceIte, ir_usufructlaw30_ForecastTells, hw, hsm, hrr, ho, hph, hla, hpl, hsame, h1, lenAV, SgT.cells, ro_step]
        try rfl
    · rw [slOf_ne hne] at ho hpl hsame
      have hl : 0 < W.length := List.length_pos_iff.2 hne
      obtain ⟨w, hwl⟩ : ∃ w, W[W.length - 1]? = some w := ⟨_, List.getElem?_eq_getElem (by omega)⟩
      rw [hwl] at hla
      dsimp only at hla
      have e1 : IntKind.i64.wrap ((W.length : Int) - 1) = ((W.length - 1 : Nat) : Int) := by rw [IntWalk.i64_in _ (by omega)]; omega
      have e2 : (0 : Int) < (W.length : Int) := by omega
      have e3 : ((W.length - 1 : Nat) : Int) < (W.length : Int) := by omega
      have lm : (Sl.mk W).list = W := rfl
      rcases hcase with ⟨h1, h2⟩ | ⟨h1, h2⟩
      · subst h2
        simp -implicitDefEqProofs only [go_sem, ↓reduceIte, ir_usufructlaw30_ForecastTells, hw, hsm, hrr, ho, hph, hla, hpl, hsame, h1, hwl, e1, e2, e3, lm, SgT.cells, WnT.cells, ro_step, ro_wn, Int.natCast_nonneg]
        try rfl
      · subst h2
        simp -implicitDefEqProofs only [go_sem, ↓reduceIte, ir_usufructlaw30_ForecastTells, hw, hsm, hrr, ho, hph, hla, hpl, hsame, h1, hwl, e1, e2, e3, lm, SgT.cells, WnT.cells, ro_step, ro_wn, Int.natCast_nonneg]
        try rfl
  · rw [decide_eq_false hr] at hrr
    have ho := of_bad hE hv d hd start done hr
    have hph := phase_bad hE hv d hd start done hr
    have hla := last_bad hE hv d hd start done hr
    simp -implicitDefEqProofs only [go_sem, ↓reduceIte, ir_usufructlaw30_ForecastTells, hw, hsm, hrr, ho, hph, hla, lenAV, ro_step]
    try rfl
end Go.Proofs.YtoobogpbejdocaaDoor.Ev
