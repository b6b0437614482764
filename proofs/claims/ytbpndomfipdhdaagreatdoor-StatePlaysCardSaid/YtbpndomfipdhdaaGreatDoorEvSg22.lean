import Derived.Test.YtbpndomfipdhdaaGreatDoorEvSa
import Derived.Test.YtbpndomfipdhdaaGreatDoorEvSg21
import Derived.Test.YtbpndomfipdhdaaGreatDoorEvSgS
set_option linter.unusedVariables false
set_option linter.unusedSimpArgs false
namespace Go.Proofs.YtbpndomfipdhdaaGreatDoor.Ev
attribute [local congr] bind_congr_head
attribute [local go_sem] AV.cells AV.tuple elems boxQ callN_any compact_same compact_new aggOf
theorem plays_loop {E : Prog} (hk : LOK E) (l : Sl EvT) (lim : Int) (hl : l.list.length ≤ 40) {L : Env × Store → Option (Sig × Env × Store)}
    (hL : ∀ e st, L (e, st) = (IR.runL E.glob (callL E) [] ir_usufructlaw16_StatePlays_L0 e st).bind (seqK fun e st => L (compact [] 2 [0, 1, 5, 6, 7] e st))) :
    ∀ (rest : List EvT) (i : Nat) (x y : StT), l.list.drop i = rest → i ≤ l.list.length → XOK x → NN x → Eqv x y → (x.sagas.list.length : Int) ≤ max lim 0 →
    ∃ x' y' : StT, L ([(0, lv l), (1, vi lim), (5, .ref 0 0 0 0), (6, .ref 1 0 0 0), (7, vi i)], [bxS x, bxS y]) = some (.exit 0, [], [bxS x', bxS y']) ∨
      L ([(0, lv l), (1, vi lim), (5, .ref 0 0 0 0), (6, .ref 1 0 0 0), (7, vi i)], [bxS x, bxS y]) = some (.ret, [(4, vb true)], [bxS x', bxS y'])
  | [], i, x, y, h, hi, hx, hn, q, hm => by
    have h1 := drop_nil' h hi
    refine ⟨x, y, .inl ?_⟩
    rw [hL]
    simp -implicitDefEqProofs only [go_sem, reduceIte, reduceCtorEq, Nat.reduceEqDiff, Nat.reduceAdd, Nat.reduceSub, Nat.reduceLT, Nat.reduceLeDiff, Nat.reduceBEq, Nat.reduceMul, Nat.reduceBNe, Int.reduceEq, Int.reduceLT, Int.reduceLE, Int.reduceNe, Int.reduceToNat, ir_usufructlaw16_StatePlays_L0, h1]
  | v :: rest, i, x, y, h, hi, hx, hn, q, hm => by
    have hE := hk.hE
    obtain ⟨h1, h2, h3, h4, h5⟩ := drop_cons h
    have h6 := wrap_succ (i := i) (by omega)
    have hs := fn_short hE v
    by_cases c : shortS v = 0
    · obtain ⟨s1, s2⟩ := short_ev c
      obtain ⟨x', y', cm, e, d1, d2, q', ok', nn', _, m'⟩ := do_both hE hk.hv hk.hi hk.hin hk.hdl x y hx hn q v s1 s2 lim
      have hm' := m' hm
      obtain ⟨X, Y, ih⟩ := plays_loop hk l lim hl hL rest (i + 1) x' y' h2 h4 ok' nn' q' hm'
      refine ⟨X, Y, ?_⟩
      have g1 := fn_refSame hE x' y' ok' q'.d q'.s q'.n
      have g2 := fn_stgood hE hk.hv x' ok'
      have g3 := eqL_cm cm
      have g4 : ¬ (if lim < 0 then 0 else lim) < (x'.sagas.list.length : Int) := by split <;> omega
      rw [c] at hs
      obtain ⟨q1, q2, q3, q4, q5, q6⟩ := cm
      unfold ansA at d1 d2
      dsimp only [cA] at d1 d2 g3
      clear m' hm hm' ok' nn' q' q hx hn
      have run : L ([(0, lv l), (1, vi lim), (5, .ref 0 0 0 0), (6, .ref 1 0 0 0), (7, vi i)], [bxS x, bxS y]) = L ([(0, lv l), (1, vi lim), (5, .ref 0 0 0 0), (6, .ref 1 0 0 0), (7, vi ((i + 1 : Nat) : Int))], [bxS x', bxS y']) := by
        rw [hL]
        simp -implicitDefEqProofs only [go_sem, reduceIte, reduceCtorEq, Nat.reduceEqDiff, Nat.reduceAdd, Nat.reduceSub, Nat.reduceLT, Nat.reduceLeDiff, Nat.reduceBEq, Nat.reduceMul, Nat.reduceBNe, Int.reduceEq, Int.reduceLT, Int.reduceLE, Int.reduceNe, Int.reduceToNat, ir_usufructlaw16_StatePlays_L0, h1, h3, h6, EvT.cells, hs, d1, d2, g1, g2, g3, g4, gor_b, ro_ev, ro_def, ro_sg, ro_step, Int.natCast_nonneg]
      rw [run]
      exact ih
    · refine ⟨x, y, .inr ?_⟩
      rw [hL]
      simp -implicitDefEqProofs only [go_sem, reduceIte, reduceCtorEq, Nat.reduceEqDiff, Nat.reduceAdd, Nat.reduceSub, Nat.reduceLT, Nat.reduceLeDiff, Nat.reduceBEq, Nat.reduceMul, Nat.reduceBNe, Int.reduceEq, Int.reduceLT, Int.reduceLE, Int.reduceNe, Int.reduceToNat, ir_usufructlaw16_StatePlays_L0, h1, h3, h6, EvT.cells, hs, c, ro_ev, ro_def, ro_sg, ro_step, Int.natCast_nonneg]
theorem fn_StatePlays {E : Prog} (hk : LOK E) (hw : callP E f_usufructlaw16_awake [] = some (vb true)) (l : Sl EvT) (hb : l.list.length < 9223372036854775808) (lim : Int) : callP E f_usufructlaw16_StatePlays [lv l, vi lim] = some (vb true) := by
  have hE := hk.hE
  rw [hE.run rfl rfl]
  by_cases c : (40 : Int) < (l.list.length : Int)
  · simp -implicitDefEqProofs only [go_sem, reduceIte, reduceCtorEq, Nat.reduceEqDiff, Nat.reduceAdd, Nat.reduceSub, Nat.reduceLT, Nat.reduceLeDiff, Nat.reduceBEq, Nat.reduceMul, Nat.reduceBNe, Int.reduceEq, Int.reduceLT, Int.reduceLE, Int.reduceNe, Int.reduceToNat, ir_usufructlaw16_StatePlays, hw, c, ro_ev]
  · obtain ⟨x, y, h⟩ := plays_loop hk l lim (by omega) (loopL_eq (IR.runL E.glob (callL E) [] ir_usufructlaw16_StatePlays_L0) (compact [] 2 [0, 1, 5, 6, 7])) l.list 0 ⟨.nil, .nil, 0⟩ ⟨.nil, .nil, 0⟩ rfl (by omega) gok0 (fun _ => rfl) ⟨rfl, rfl, rfl⟩
      (by show ((0 : Nat) : Int) ≤ max lim 0; omega)
    simp only [Int.natCast_zero, bxS, avN] at h
    rcases h with h | h
    · simp -implicitDefEqProofs only [go_sem, reduceIte, reduceCtorEq, Nat.reduceEqDiff, Nat.reduceAdd, Nat.reduceSub, Nat.reduceLT, Nat.reduceLeDiff, Nat.reduceBEq, Nat.reduceMul, Nat.reduceBNe, Int.reduceEq, Int.reduceLT, Int.reduceLE, Int.reduceNe, Int.reduceToNat, ir_usufructlaw16_StatePlays, hw, c, h, ro_ev, ro_def, ro_sg]
    · simp -implicitDefEqProofs only [go_sem, reduceIte, reduceCtorEq, Nat.reduceEqDiff, Nat.reduceAdd, Nat.reduceSub, Nat.reduceLT, Nat.reduceLeDiff, Nat.reduceBEq, Nat.reduceMul, Nat.reduceBNe, Int.reduceEq, Int.reduceLT, Int.reduceLE, Int.reduceNe, Int.reduceToNat, ir_usufructlaw16_StatePlays, hw, c, h, ro_ev, ro_def, ro_sg]
end Go.Proofs.YtbpndomfipdhdaaGreatDoor.Ev
