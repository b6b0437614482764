import Derived.Test.YtbpndomfipdhdaaGreatDoorEvSa
import Derived.Test.YtbpndomfipdhdaaGreatDoorEvDf
set_option linter.unusedVariables false
set_option linter.unusedSimpArgs false
namespace Go.Proofs.YtbpndomfipdhdaaGreatDoor.Ev
attribute [local congr] bind_congr_head
attribute [local go_sem] AV.cells AV.tuple elems boxQ callN_any compact_same compact_new aggOf
theorem sameRef_loop {G : Nat → Option (List AV)} {raw : Raw} {L : Env × Store → Option (Sig × Env × Store)} (a b : DefT) (hlen : a.steps.list.length = b.steps.list.length) (hb : a.steps.list.length < 9223372036854775807)
    (hL : ∀ e st, L (e, st) = (IR.runL G raw [] ir_usufructref13_Same_L0 e st).bind (seqK fun e st => L (compact [] 2 [2, 3, 5] e st))) :
    ∀ (r1 r2 : List StepT) (i : Nat), a.steps.list.drop i = r1 → b.steps.list.drop i = r2 → i ≤ a.steps.list.length →
    L ([(2, AV.ref 0 0 0 0), (3, AV.ref 1 0 0 0), (5, vi i)], stTwo a b) = if r1 = r2 then some (.exit 0, [], stTwo a b) else some (.ret, [(4, vb false)], stTwo a b)
  | [], r2, i, h, k, hi => by
    have h1 := drop_nil' h hi
    have : r2 = [] := by rw [← k]; exact List.drop_of_length_le (by omega)
    subst this
    rw [hL]
    simp -implicitDefEqProofs only [go_sem, reduceIte, reduceCtorEq, Nat.reduceEqDiff, Nat.reduceAdd, Nat.reduceSub, Nat.reduceLT, Nat.reduceLeDiff, Nat.reduceBEq, Nat.reduceMul, Nat.reduceBNe, Int.reduceEq, Int.reduceLT, Int.reduceLE, Int.reduceNe, Int.reduceToNat, ir_usufructref13_Same_L0, h1, stTwo]
  | x :: r1, [], i, h, k, hi => by
    obtain ⟨_, _, _, h4, _⟩ := drop_cons h
    have := drop_nil' k (by omega)
    omega
  | x :: r1, y :: r2, i, h, k, hi => by
    obtain ⟨h1, h2, h3, h4, h5⟩ := drop_cons h
    obtain ⟨k1, k2, _, _, _⟩ := drop_cons k
    have h6 := wrap_succ (i := i) (by omega)
    have ih := sameRef_loop a b hlen hb hL r1 r2 (i + 1) h2 k2 h4
    have e1 : ∀ s : StepT, aggOf (some 12) s.cells = some (.agg s.cells) := fun _ => rfl
    have he := eqL_step x y
    rw [hL]
    by_cases c : x = y
    · subst c
      simp only [List.cons.injEq, true_and]
      rw [← ih]
      simp only [decide_true] at he
      simp only [StepT.cells] at he
      simp -implicitDefEqProofs only [go_sem, reduceIte, reduceCtorEq, Nat.reduceEqDiff, Nat.reduceAdd, Nat.reduceSub, Nat.reduceLT, Nat.reduceLeDiff, Nat.reduceBEq, Nat.reduceMul, Nat.reduceBNe, Int.reduceEq, Int.reduceLT, Int.reduceLE, Int.reduceNe, Int.reduceToNat, ir_usufructref13_Same_L0, h1, h3, h6, k1, stTwo, StepT.cells, he]
    · simp only [c, decide_false] at he
      simp only [StepT.cells] at he
      simp -implicitDefEqProofs only [go_sem, reduceIte, reduceCtorEq, Nat.reduceEqDiff, Nat.reduceAdd, Nat.reduceSub, Nat.reduceLT, Nat.reduceLeDiff, Nat.reduceBEq, Nat.reduceMul, Nat.reduceBNe, Int.reduceEq, Int.reduceLT, Int.reduceLE, Int.reduceNe, Int.reduceToNat, ir_usufructref13_Same_L0, h1, h3, h6, k1, stTwo, StepT.cells, he, List.cons.injEq, c]
theorem fn_sameRef {E : Prog} (hE : Std E fns) (a b : DefT) (hb : a.steps.list.length < 9223372036854775807) : callP E f_usufructref13_Same [.agg a.cells, .agg b.cells] = some (vb (sameS a b)) := by
  rw [hE.run rfl rfl]
  simp -implicitDefEqProofs only [go_sem, reduceIte, reduceCtorEq, Nat.reduceEqDiff, Nat.reduceAdd, Nat.reduceSub, Nat.reduceLT, Nat.reduceLeDiff, Nat.reduceBEq, Nat.reduceMul, Nat.reduceBNe, Int.reduceEq, Int.reduceLT, Int.reduceLE, Int.reduceNe, Int.reduceToNat, ir_usufructref13_Same, DefT.cells]
  by_cases c1 : a.name = b.name
  · by_cases c2 : a.deadline = b.deadline
    · by_cases c3 : a.steps.list.length = b.steps.list.length
      · have hl := sameRef_loop a b c3 hb (loopL_eq (IR.runL E.glob (callL E) [] ir_usufructref13_Same_L0) (compact [] 2 [2, 3, 5])) _ _ 0 rfl rfl (by omega)
        simp only [Int.natCast_zero, stTwo, c1, c2, List.drop_zero] at hl
        have c3' : (a.steps.list.length : Int) = b.steps.list.length := by omega
        by_cases c4 : a.steps.list = b.steps.list
        · simp -implicitDefEqProofs only [go_sem, reduceIte, reduceCtorEq, Nat.reduceEqDiff, Nat.reduceAdd, Nat.reduceSub, Nat.reduceLT, Nat.reduceLeDiff, Nat.reduceBEq, Nat.reduceMul, Nat.reduceBNe, Int.reduceEq, Int.reduceLT, Int.reduceLE, Int.reduceNe, Int.reduceToNat, c1, c2, c3, hl, c4, sameS, ro_step]
        · simp -implicitDefEqProofs only [go_sem, reduceIte, reduceCtorEq, Nat.reduceEqDiff, Nat.reduceAdd, Nat.reduceSub, Nat.reduceLT, Nat.reduceLeDiff, Nat.reduceBEq, Nat.reduceMul, Nat.reduceBNe, Int.reduceEq, Int.reduceLT, Int.reduceLE, Int.reduceNe, Int.reduceToNat, c1, c2, c3, hl, c4, sameS, ro_step]
      · have c3' : ¬ (a.steps.list.length : Int) = b.steps.list.length := by omega
        have c4 : ¬ a.steps.list = b.steps.list := fun e => c3 (by rw [e])
        simp -implicitDefEqProofs only [go_sem, reduceIte, reduceCtorEq, Nat.reduceEqDiff, Nat.reduceAdd, Nat.reduceSub, Nat.reduceLT, Nat.reduceLeDiff, Nat.reduceBEq, Nat.reduceMul, Nat.reduceBNe, Int.reduceEq, Int.reduceLT, Int.reduceLE, Int.reduceNe, Int.reduceToNat, c1, c2, c3', c4, sameS, ro_step]
    · simp -implicitDefEqProofs only [go_sem, reduceIte, reduceCtorEq, Nat.reduceEqDiff, Nat.reduceAdd, Nat.reduceSub, Nat.reduceLT, Nat.reduceLeDiff, Nat.reduceBEq, Nat.reduceMul, Nat.reduceBNe, Int.reduceEq, Int.reduceLT, Int.reduceLE, Int.reduceNe, Int.reduceToNat, c1, c2, sameS, ro_step]
  · simp -implicitDefEqProofs only [go_sem, reduceIte, reduceCtorEq, Nat.reduceEqDiff, Nat.reduceAdd, Nat.reduceSub, Nat.reduceLT, Nat.reduceLeDiff, Nat.reduceBEq, Nat.reduceMul, Nat.reduceBNe, Int.reduceEq, Int.reduceLT, Int.reduceLE, Int.reduceNe, Int.reduceToNat, c1, sameS, ro_step]
end Go.Proofs.YtbpndomfipdhdaaGreatDoor.Ev
