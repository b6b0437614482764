import Derived.Test.YtbpndomfipdhdaaGreatDoorEvSa
import Derived.Test.YtbpndomfipdhdaaGreatDoorEvSg9
import Derived.Test.YtbpndomfipdhdaaGreatDoorEvDfS
set_option linter.unusedVariables false
set_option linter.unusedSimpArgs false
namespace Go.Proofs.YtbpndomfipdhdaaGreatDoor.Ev
attribute [local congr] bind_congr_head
attribute [local go_sem] AV.cells AV.tuple elems boxQ callN_any compact_same compact_new aggOf
theorem sameD_loop {E : Prog} (hE : Std E fns) (x y : StT) (h : XOK x) (hd : x.defs.list = y.defs.list) {L : Env × Store → Option (Sig × Env × Store)}
    (hL : ∀ e st, L (e, st) = (IR.runL E.glob (callL E) [] ir_usufructref16_Same_L1 e st).bind (seqK fun e st => L (compact [] 2 [2, 3, 5] e st))) :
    ∀ (rest : List DefT) (i : Nat), x.defs.list.drop i = rest → i ≤ x.defs.list.length → L ([(2, .ref 0 0 0 0), (3, .ref 1 0 0 0), (5, vi i)], stXX x y) = some (.exit 0, [(2, .ref 0 0 0 0), (3, .ref 1 0 0 0)], stXX x y)
  | [], i, h0, hi => by
    have h1 := drop_nil' h0 hi
    rw [hL]
    simp -implicitDefEqProofs only [go_sem, reduceIte, reduceCtorEq, Nat.reduceEqDiff, Nat.reduceAdd, Nat.reduceSub, Nat.reduceLT, Nat.reduceLeDiff, Nat.reduceBEq, Nat.reduceMul, Nat.reduceBNe, Int.reduceEq, Int.reduceLT, Int.reduceLE, Int.reduceNe, Int.reduceToNat, ir_usufructref16_Same_L1, h1]
  | d :: rest, i, h0, hi => by
    obtain ⟨h1, h2, h3, h4, h5⟩ := drop_cons h0
    have hdl := h.dl
    have h6 := wrap_succ (i := i) (by omega)
    have hok := h.dk d (List.mem_of_getElem? h1)
    have hs := fn_sameRef hE d d (by have := hok.sh.2.1; omega)
    rw [sameS_refl] at hs
    simp only [DefT.cells] at hs
    have k1 : y.defs.list[i]? = some d := by rw [← hd]; exact h1
    have ih := sameD_loop hE x y h hd hL rest (i + 1) h2 h4
    rw [hL]
    simp -implicitDefEqProofs only [go_sem, reduceIte, reduceCtorEq, Nat.reduceEqDiff, Nat.reduceAdd, Nat.reduceSub, Nat.reduceLT, Nat.reduceLeDiff, Nat.reduceBEq, Nat.reduceMul, Nat.reduceBNe, Int.reduceEq, Int.reduceLT, Int.reduceLE, Int.reduceNe, Int.reduceToNat, ir_usufructref16_Same_L1, h1, k1, h3, DefT.cells, h6, hs, ih, ro_def, ro_step, Int.natCast_nonneg]
theorem sameSg_loop {E : Prog} (hE : Std E fns) (x y : StT) (h : XOK x) (hd : x.sagas.list = y.sagas.list) {L : Env × Store → Option (Sig × Env × Store)}
    (hL : ∀ e st, L (e, st) = (IR.runL E.glob (callL E) [] ir_usufructref16_Same_L0 e st).bind (seqK fun e st => L (compact [] 2 [2, 3, 6] e st))) :
    ∀ (rest : List SgT) (i : Nat), x.sagas.list.drop i = rest → i ≤ x.sagas.list.length → L ([(2, .ref 0 0 0 0), (3, .ref 1 0 0 0), (6, vi i)], stXX x y) = some (.exit 2, [], stXX x y)
  | [], i, h0, hi => by
    have h1 := drop_nil' h0 hi
    rw [hL]
    simp -implicitDefEqProofs only [go_sem, reduceIte, reduceCtorEq, Nat.reduceEqDiff, Nat.reduceAdd, Nat.reduceSub, Nat.reduceLT, Nat.reduceLeDiff, Nat.reduceBEq, Nat.reduceMul, Nat.reduceBNe, Int.reduceEq, Int.reduceLT, Int.reduceLE, Int.reduceNe, Int.reduceToNat, ir_usufructref16_Same_L0, h1]
  | s :: rest, i, h0, hi => by
    obtain ⟨h1, h2, h3, h4, h5⟩ := drop_cons h0
    have hsl := h.sl
    have h6 := wrap_succ (i := i) (by omega)
    have he := eqL_sg s
    have k1 : y.sagas.list[i]? = some s := by rw [← hd]; exact h1
    have ih := sameSg_loop hE x y h hd hL rest (i + 1) h2 h4
    rw [hL]
    simp only [SgT.cells] at he
    simp -implicitDefEqProofs only [go_sem, reduceIte, reduceCtorEq, Nat.reduceEqDiff, Nat.reduceAdd, Nat.reduceSub, Nat.reduceLT, Nat.reduceLeDiff, Nat.reduceBEq, Nat.reduceMul, Nat.reduceBNe, Int.reduceEq, Int.reduceLT, Int.reduceLE, Int.reduceNe, Int.reduceToNat, ir_usufructref16_Same_L0, h1, k1, h3, SgT.cells, h6, he, ih, ro_sg, Int.natCast_nonneg]
theorem fn_refSame {E : Prog} (hE : Std E fns) (x y : StT) (h : XOK x) (hd : x.defs.list = y.defs.list) (hs : x.sagas.list = y.sagas.list) (hn : x.next = y.next) : callP E f_usufructref16_Same [stA x, stA y] = some (vb true) := by
  have h1 := sameD_loop hE x y h hd (loopL_eq (IR.runL E.glob (callL E) [] ir_usufructref16_Same_L1) (compact [] 2 [2, 3, 5])) x.defs.list 0 rfl (by omega)
  have h2 := sameSg_loop hE x y h hs (loopL_eq (IR.runL E.glob (callL E) [] ir_usufructref16_Same_L0) (compact [] 2 [2, 3, 6])) x.sagas.list 0 rfl (by omega)
  have e1 : x.defs.list.length = y.defs.list.length := by rw [hd]
  have e2 : x.sagas.list.length = y.sagas.list.length := by rw [hs]
  simp only [Int.natCast_zero, stXX, hn] at h1 h2
  rw [hE.run rfl rfl]
  simp -implicitDefEqProofs only [go_sem, reduceIte, reduceCtorEq, Nat.reduceEqDiff, Nat.reduceAdd, Nat.reduceSub, Nat.reduceLT, Nat.reduceLeDiff, Nat.reduceBEq, Nat.reduceMul, Nat.reduceBNe, Int.reduceEq, Int.reduceLT, Int.reduceLE, Int.reduceNe, Int.reduceToNat, ir_usufructref16_Same, hn, e1, e2, h1, h2, ro_def, ro_sg]
end Go.Proofs.YtbpndomfipdhdaaGreatDoor.Ev
