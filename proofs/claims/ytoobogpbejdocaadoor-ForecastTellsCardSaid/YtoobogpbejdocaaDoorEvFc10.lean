import Derived.Test.YtoobogpbejdocaaDoorEvSa
import Derived.Test.YtoobogpbejdocaaDoorEvFc9
set_option linter.unusedVariables false
set_option linter.unusedSectionVars false
set_option linter.unusedSimpArgs false
set_option linter.unusedSectionVars false
namespace Go.Proofs.YtoobogpbejdocaaDoor.Ev
attribute [local congr] bind_congr_head
attribute [local go_sem] AV.cells AV.tuple elems boxQ callN_any compact_same compact_new aggOf
theorem do_out {d : DefT} {s : SgT} {now : Int} {k : Nat} (h : (doS d s now k).out = true) : s.out = true := by
  have hb : ∀ (s : SgT) (now : Int), (backS s now).out = false := fun s now => by unfold backS; split <;> rfl
  have hdn : ∀ (s : SgT) (now : Int), (doneS d s now).out = false := fun s now => by
    unfold doneS
    split
    · split <;> rfl
    · split
      · rfl
      · split <;> rfl
  have hf : ∀ (t : StepT) (s : SgT) (now : Int), (failsS t s now).out = false := fun t s now => by
    unfold failsS
    split
    · rfl
    · split
      · exact hb _ _
      · rfl
  unfold doS at h
  split at h
  rotate_left
  · exact h
  unfold actS at h
  split at h
  · exact h
  · unfold actN at h
    split at h <;> split at h <;> first | exact h | (rw [hf] at h; cases h) | (rw [hb] at h; cases h) | (rw [hdn] at h; cases h) | cases h
section
variable {E : Prog} (hE : Std E fns) {d : DefT} (hd : DOK d) (e : Int) {L : Env × Store → Option (Sig × Env × Store)} (hL : ∀ e st, L (e, st) = (IR.runL E.glob (callL E) [] ir_usufructref30_Play_L0 e st).bind (seqK fun e st => L (compact [] 3 [3, 7, 8, 9, 10, 11, 12] e st)))
include hL
theorem pl_exit (turn : Nat) (s : SgT) (now : Int) (g : Nat) (P : List WnT) (h : ¬ (turn < 5000 ∧ s.phase ≤ 1)) : L (plE e (plO g P) now turn, plS d sg0 s g P) = some (.exit 0, [(7, .ref 1 0 0 0), (8, .ref 2 0 0 0), (10, plO g P)], plS d sg0 s g P) := by
  have h' : ¬ ((turn : Int) < 5000 ∧ s.phase ≤ 1) := fun hh => h ⟨by omega, hh.2⟩
  rw [hL]
  by_cases hne : P = []
  · subst hne
    rw [(pl_nil d sg0 s g).1, (pl_nil d sg0 s g).2]
    simp -implicitDefEqProofs only [go_sem, ↓reduceIte, ir_usufructref30_Play_L0, SgT.cells, h', gand_b, Bool.and_eq_true, ro_step]
    try rfl
  · rw [(pl_ne d sg0 s g hne).1, (pl_ne d sg0 s g hne).2]
    simp -implicitDefEqProofs only [go_sem, ↓reduceIte, ir_usufructref30_Play_L0, SgT.cells, h', gand_b, Bool.and_eq_true, ro_step, ro_wn]
    try rfl
theorem pl_stop (turn : Nat) (ht : turn < 5000) (s : SgT) (hp : s.phase ≤ 1) (now : Int) (g : Nat) (P : List WnT) (hPl : P.length ≤ 6000) (hout : s.out = true → P ≠ []) (nx : Int) (hx : (if s.phase = 0 ∧ e < s.due then e else s.due) = nx) (hm : 1099511627776 ≤ nx) :
    L (plE e (plO g P) now turn, plS d sg0 s g P) = some (.ret, [(6, plO g (if s.out = true then setTo P 1099511627776 else P)), (7, .ref 1 0 0 0)], plS d s s g (if s.out = true then setTo P 1099511627776 else P)) := by
  have htt : (turn : Int) < 5000 := by omega
  have hb : (turn : Int) < 5000 ∧ s.phase ≤ 1 := ⟨htt, hp⟩
  rw [hL]
  cases ho : s.out with
  | false =>
    rw [if_neg (by decide)]
    by_cases c1 : s.phase = 0 ∧ e < s.due
    · rw [if_pos c1] at hx
      subst hx
      obtain ⟨i1, i2, i3, ph, i5, i6, o, du, sk⟩ := s
      dsimp only at *
      subst ho
      obtain ⟨c1a, c1b⟩ := c1
      subst c1a
      by_cases hne : P = []
      · subst hne
        rw [(pl_nil d sg0 _ g).1, (pl_nil d sg0 ⟨i1, i2, i3, 0, i5, i6, false, du, sk⟩ g).2, (pl_nil d ⟨i1, i2, i3, 0, i5, i6, false, du, sk⟩ _ g).1]
        simp -implicitDefEqProofs only [go_sem, ↓reduceIte, ir_usufructref30_Play_L0, SgT.cells, htt, hp, c1b, hm, gand_b, Bool.and_eq_true, ro_step]
        try rfl
      · rw [(pl_ne d sg0 _ g hne).1, (pl_ne d sg0 ⟨i1, i2, i3, 0, i5, i6, false, du, sk⟩ g hne).2, (pl_ne d ⟨i1, i2, i3, 0, i5, i6, false, du, sk⟩ _ g hne).1]
        simp -implicitDefEqProofs only [go_sem, ↓reduceIte, ir_usufructref30_Play_L0, SgT.cells, htt, hp, c1b, hm, gand_b, Bool.and_eq_true, ro_step, ro_wn]
        try rfl
    · rw [if_neg c1] at hx
      subst hx
      obtain ⟨i1, i2, i3, ph, i5, i6, o, du, sk⟩ := s
      dsimp only at *
      subst ho
      by_cases hne : P = []
      · subst hne
        rw [(pl_nil d sg0 _ g).1, (pl_nil d sg0 ⟨i1, i2, i3, ph, i5, i6, false, du, sk⟩ g).2, (pl_nil d ⟨i1, i2, i3, ph, i5, i6, false, du, sk⟩ _ g).1]
        simp -implicitDefEqProofs only [go_sem, ↓reduceIte, ir_usufructref30_Play_L0, SgT.cells, htt, hp, c1, hm, gand_b, Bool.and_eq_true, ro_step]
        try rfl
      · rw [(pl_ne d sg0 _ g hne).1, (pl_ne d sg0 ⟨i1, i2, i3, ph, i5, i6, false, du, sk⟩ g hne).2, (pl_ne d ⟨i1, i2, i3, ph, i5, i6, false, du, sk⟩ _ g hne).1]
        simp -implicitDefEqProofs only [go_sem, ↓reduceIte, ir_usufructref30_Play_L0, SgT.cells, htt, hp, c1, hm, gand_b, Bool.and_eq_true, ro_step, ro_wn]
        try rfl
  | true =>
    rw [if_pos rfl]
    have hne := hout ho
    obtain ⟨w, e7, e8⟩ := set_map hne
    have e8 := e8 1099511627776
    have hl : 0 < P.length := List.length_pos_iff.2 hne
    have e9 : IntKind.i64.wrap ((P.length : Int) - 1) = ((P.length - 1 : Nat) : Int) := by rw [IntWalk.i64_in _ (by omega)]; omega
    have e10 : P.length - 1 < P.length := by omega
    have hne1 : setTo P 1099511627776 ≠ [] := fun hh => by have := set_len P 1099511627776; rw [hh] at this; simp at this; omega
    by_cases c1 : s.phase = 0 ∧ e < s.due
    · rw [if_pos c1] at hx
      subst hx
      obtain ⟨i1, i2, i3, ph, i5, i6, o, du, sk⟩ := s
      dsimp only at *
      subst ho
      obtain ⟨c1a, c1b⟩ := c1
      subst c1a
      rw [(pl_ne d sg0 _ g hne).1, (pl_ne d sg0 ⟨i1, i2, i3, 0, i5, i6, true, du, sk⟩ g hne).2, (pl_ne d ⟨i1, i2, i3, 0, i5, i6, true, du, sk⟩ _ g hne1).1, (pl_ne d sg0 ⟨i1, i2, i3, 0, i5, i6, true, du, sk⟩ g hne1).2, set_len]
      simp -implicitDefEqProofs only [go_sem, ↓reduceIte, ir_usufructref30_Play_L0, SgT.cells, htt, hp, c1b, hm, e7, e8, e9, e10, ias_ow2, lenA_ow2, set_len, gand_b, Bool.and_eq_true, ro_step, ro_wn, Int.natCast_nonneg]
      try rfl
    · rw [if_neg c1] at hx
      subst hx
      obtain ⟨i1, i2, i3, ph, i5, i6, o, du, sk⟩ := s
      dsimp only at *
      subst ho
      rw [(pl_ne d sg0 _ g hne).1, (pl_ne d sg0 ⟨i1, i2, i3, ph, i5, i6, true, du, sk⟩ g hne).2, (pl_ne d ⟨i1, i2, i3, ph, i5, i6, true, du, sk⟩ _ g hne1).1, (pl_ne d sg0 ⟨i1, i2, i3, ph, i5, i6, true, du, sk⟩ g hne1).2, set_len]
      simp -implicitDefEqProofs only [go_sem, ↓reduceIte, ir_usufructref30_Play_L0, SgT.cells, htt, hp, c1, hm, e7, e8, e9, e10, ias_ow2, lenA_ow2, set_len, gand_b, Bool.and_eq_true, ro_step, ro_wn, Int.natCast_nonneg]
      try rfl
include hE hd
theorem pl_loop (he0 : 0 ≤ e) : ∀ (f turn : Nat) (s : SgT) (now : Int) (P : List WnT) (g : Nat), turn + f = 5000 → (∃ t, SOK d s t) → s.id = 0 → 0 ≤ now → now ≤ 1099511627776 → P.length ≤ turn → (s.out = true → P ≠ []) →
    ∃ g', L (plE e (plO g P) now turn, plS d sg0 s g P) = some (.exit 0, [(7, .ref 1 0 0 0), (8, .ref 2 0 0 0), (10, plO g' (play d e f s now P).1)], plS d sg0 (play d e f s now P).2 g' (play d e f s now P).1) ∨
      L (plE e (plO g P) now turn, plS d sg0 s g P) = some (.ret, [(6, plO g' (play d e f s now P).1), (7, .ref 1 0 0 0)], plS d (play d e f s now P).2 (play d e f s now P).2 g' (play d e f s now P).1)
  | 0, turn, s, now, P, g, ht, _, _, _, _, _, _ => ⟨g, .inl (by rw [pl_exit e hL turn s now g P (by omega)]; rfl)⟩
  | f + 1, turn, s, now, P, g, ht, ⟨t, so⟩, hid, n0, n1, hPl, hout => by
    by_cases hp : s.phase ≤ 1
    rotate_left
    · rw [play_over _ _ _ _ _ _ (by omega)]
      exact ⟨g, .inl (pl_exit e hL turn s now g P (by omega))⟩
    obtain ⟨nx, hx⟩ : ∃ nx, (if s.phase = 0 ∧ e < s.due then e else s.due) = nx := ⟨_, rfl⟩
    by_cases hm : 1099511627776 ≤ nx
    · rw [play_end d e f s now P nx hp hx hm]
      exact ⟨g, .inr (pl_stop e hL turn (by omega) s hp now g P (by omega) hout nx hx hm)⟩
    · obtain ⟨nw, hw⟩ : ∃ nw, (if now < nx then nx else now) = nw := ⟨_, rfl⟩
      have hnx0 : 0 ≤ nx := by rw [← hx]; have := so.a0; split <;> omega
      have w0 : 0 ≤ nw := by rw [← hw]; split <;> omega
      have w1 : nw ≤ 1099511627776 := by rw [← hw]; split <;> omega
      obtain ⟨⟨t1, so1⟩, id1, _⟩ := sok_do hd so w0 w1 0 (by omega)
      obtain ⟨⟨t2, so2⟩, id2, _⟩ := sok_do hd so1 w0 w1 1 (by omega)
      obtain ⟨g', hr⟩ := turn_all hE hd e hL turn (by omega) s t so hid hp now g P (by omega) hout nx nw hx (by omega) hw w0 w1 _ _ rfl rfl
      rw [play_go d e f s now P nx nw hp hx (by omega) hw _ _ rfl rfl, hr]
      have hq : (if s.out = true ∧ (doS d (doS d s nw 0) nw 1).out = false then setTo P nw else P).length = P.length := by split <;> simp [set_len]
      have hq2 : s.out = true → (if s.out = true ∧ (doS d (doS d s nw 0) nw 1).out = false then setTo P nw else P) ≠ [] := fun ho hh => by
        rw [hh] at hq
        exact hout ho (List.length_eq_zero_iff.1 hq.symm)
      generalize (if s.out = true ∧ (doS d (doS d s nw 0) nw 1).out = false then setTo P nw else P) = P1 at *
      have hoo : (doS d (doS d s nw 0) nw 1).out = true → s.out = true := fun h => do_out (do_out h)
      generalize doS d (doS d s nw 0) nw 1 = s2 at *
      cases hb : mayB d s2 nw with
      | true =>
        rw [if_pos rfl, mid_yes hb]
        simp only [mayB, Bool.and_eq_true, Bool.not_eq_true'] at hb
        rw [sok_at so2] at hb ⊢
        exact pl_loop he0 f (turn + 1) _ nw _ g' (by omega) ⟨t2, sok_emit hd so2 nw hb.1 hb.2⟩ (by show s2.id = 0; omega) w0 w1 (by simp only [List.length_append, List.length_cons, List.length_nil]; omega) (fun _ => by simp)
      | false =>
        rw [if_neg (by decide), mid_no hb]
        exact pl_loop he0 f (turn + 1) _ nw _ g' (by omega) ⟨t2, so2⟩ (by omega) w0 w1 (by omega) (fun h => hq2 (hoo h))
end
end Go.Proofs.YtoobogpbejdocaaDoor.Ev
