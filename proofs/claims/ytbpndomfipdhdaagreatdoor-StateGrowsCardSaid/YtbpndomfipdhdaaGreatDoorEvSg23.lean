import Derived.Test.YtbpndomfipdhdaaGreatDoorEvSa
import Derived.Test.YtbpndomfipdhdaaGreatDoorEvSg21
import Derived.Test.YtbpndomfipdhdaaGreatDoorEvSgS
set_option linter.unusedVariables false
set_option linter.unusedSimpArgs false
namespace Go.Proofs.YtbpndomfipdhdaaGreatDoor.Ev
attribute [local congr] bind_congr_head
attribute [local go_sem] AV.cells AV.tuple elems boxQ callN_any compact_same compact_new aggOf
theorem grD_loop {E : Prog} (hE : Std E fns) (l : Sl EvT) (lim n : Int) (x y : StT) (c : CmT) (hxl : x.defs.list.length ≤ 64) (hl : y.defs.list.length ≤ 64) (hx : ∀ d, d ∈ x.defs.list → d ∈ y.defs.list) (hk : ∀ d, d ∈ y.defs.list → DOK d) (hs : y.defs.list.Pairwise ltN)
    {L : Env × Store → Option (Sig × Env × Store)}
    (hL : ∀ e st, L (e, st) = (IR.runL E.glob (callL E) [] ir_usufructlaw16_StateGrows_L1 e st).bind (seqK fun e st => L (compact [] 3 [0, 1, 5, 6, 7, 11] e st))) :
    ∀ (rest : List DefT) (i : Nat), x.defs.list.drop i = rest → i ≤ x.defs.list.length →
    L ([(0, lv l), (1, vi lim), (5, .ref 0 0 0 0), (6, vi n), (7, .ref 1 0 0 0), (11, vi i)], [bxS x, bxS y, .box [vi c.saga, vi c.step, vb c.undo, vi c.try_, vs c.party, vs c.key]]) =
      some (.exit 2, [(0, lv l), (1, vi lim), (5, .ref 0 0 0 0), (6, vi n), (7, .ref 1 0 0 0)], [bxS x, bxS y, .box [vi c.saga, vi c.step, vb c.undo, vi c.try_, vs c.party, vs c.key]])
  | [], i, h0, hi => by
    have h1 := drop_nil' h0 hi
    rw [hL]
    simp -implicitDefEqProofs only [go_sem, reduceIte, reduceCtorEq, Nat.reduceEqDiff, Nat.reduceAdd, Nat.reduceSub, Nat.reduceLT, Nat.reduceLeDiff, Nat.reduceBEq, Nat.reduceMul, Nat.reduceBNe, Int.reduceEq, Int.reduceLT, Int.reduceLE, Int.reduceNe, Int.reduceToNat, ir_usufructlaw16_StateGrows_L1, h1]
  | d :: rest, i, h0, hi => by
    obtain ⟨h1, h2, h3, h4, h5⟩ := drop_cons h0
    have h6 := wrap_succ (i := i) (by omega)
    have hm := hx d (List.mem_of_getElem? h1)
    have hok := hk d hm
    obtain ⟨j, k1, k2⟩ := def_found hs hm
    have hD := fn_refDef hE y d.name hl
    rw [k1] at hD
    have hss := fn_sameRef hE d d (by have := hok.sh.2.1; omega)
    rw [sameS_refl] at hss
    simp only [DefT.cells] at hss
    have c1 : ¬ ((j : Int) < 0) := by omega
    have ih := grD_loop hE l lim n x y c hxl hl hx hk hs hL rest (i + 1) h2 h4
    rw [hL]
    simp -implicitDefEqProofs only [go_sem, reduceIte, reduceCtorEq, Nat.reduceEqDiff, Nat.reduceAdd, Nat.reduceSub, Nat.reduceLT, Nat.reduceLeDiff, Nat.reduceBEq, Nat.reduceMul, Nat.reduceBNe, Int.reduceEq, Int.reduceLT, Int.reduceLE, Int.reduceNe, Int.reduceToNat, ir_usufructlaw16_StateGrows_L1, h1, h3, h6, k2, DefT.cells, hD, c1, hss, ih, ro_ev, ro_def, ro_sg, ro_step, Int.natCast_nonneg]
theorem sg_found {S : List SgT} (hs : S.Pairwise ltI) {s : SgT} (h : s ∈ S) : ∃ k : Nat, fidx (isId s.id) S 0 = (k : Int) ∧ S[k]? = some s := by
  rcases fidx_cases (isId s.id) S 0 with ⟨_, h2⟩ | ⟨k, z, h1, h2, h3, _⟩
  · have := h2 s h
    rw [decide_eq_false_iff_not] at this
    exact absurd rfl this
  · rw [Nat.zero_add] at h1
    refine ⟨k, h1, ?_⟩
    have hz : z.id = s.id := of_decide_eq_true h3
    obtain ⟨i, hi⟩ := List.getElem?_of_mem h
    obtain ⟨a1, e1⟩ := List.getElem?_eq_some_iff.1 h2
    obtain ⟨a2, e2⟩ := List.getElem?_eq_some_iff.1 hi
    have hp := List.pairwise_iff_getElem.1 hs
    rcases Nat.lt_trichotomy k i with h4 | h4 | h4
    · have := hp k i a1 a2 h4
      rw [e1, e2] at this
      simp only [ltI] at this; omega
    · subst h4; exact hi
    · have := hp i k a2 a1 h4
      rw [e1, e2] at this
      simp only [ltI] at this; omega
theorem grS_loop {E : Prog} (hE : Std E fns) (l : Sl EvT) (lim : Int) (n : Nat) (v : EvT) (hn : l.list[n]? = some v) (x y : StT) (c : CmT) (hxl : x.sagas.list.length ≤ 1048576) (hl : y.sagas.list.length ≤ 1048576) (hx : ∀ s, s ∈ x.sagas.list → s.id ≠ v.saga → s ∈ y.sagas.list) (hs : y.sagas.list.Pairwise ltI)
    {L : Env × Store → Option (Sig × Env × Store)}
    (hL : ∀ e st, L (e, st) = (IR.runL E.glob (callL E) [] ir_usufructlaw16_StateGrows_L0 e st).bind (seqK fun e st => L (compact [] 3 [0, 1, 5, 6, 7, 13] e st))) :
    ∀ (rest : List SgT) (i : Nat), x.sagas.list.drop i = rest → i ≤ x.sagas.list.length →
    L ([(0, lv l), (1, vi lim), (5, .ref 0 0 0 0), (6, vi n), (7, .ref 1 0 0 0), (13, vi i)], [bxS x, bxS y, .box [vi c.saga, vi c.step, vb c.undo, vi c.try_, vs c.party, vs c.key]]) =
      some (.exit 4, [(0, lv l), (1, vi lim), (5, .ref 0 0 0 0), (6, vi n), (7, .ref 1 0 0 0)], [bxS x, bxS y, .box [vi c.saga, vi c.step, vb c.undo, vi c.try_, vs c.party, vs c.key]])
  | [], i, h0, hi => by
    have h1 := drop_nil' h0 hi
    rw [hL]
    simp -implicitDefEqProofs only [go_sem, reduceIte, reduceCtorEq, Nat.reduceEqDiff, Nat.reduceAdd, Nat.reduceSub, Nat.reduceLT, Nat.reduceLeDiff, Nat.reduceBEq, Nat.reduceMul, Nat.reduceBNe, Int.reduceEq, Int.reduceLT, Int.reduceLE, Int.reduceNe, Int.reduceToNat, ir_usufructlaw16_StateGrows_L0, h1]
  | s :: rest, i, h0, hi => by
    obtain ⟨h1, h2, h3, h4, h5⟩ := drop_cons h0
    have h6 := wrap_succ (i := i) (by omega)
    have hF := fn_refFind hE y s.id hl
    have ih := grS_loop hE l lim n v hn x y c hxl hl hx hs hL rest (i + 1) h2 h4
    rw [hL]
    by_cases cs : s.id = v.saga
    · have hF' := fn_refFind hE y v.saga hl
      simp -implicitDefEqProofs only [go_sem, reduceIte, reduceCtorEq, Nat.reduceEqDiff, Nat.reduceAdd, Nat.reduceSub, Nat.reduceLT, Nat.reduceLeDiff, Nat.reduceBEq, Nat.reduceMul, Nat.reduceBNe, Int.reduceEq, Int.reduceLT, Int.reduceLE, Int.reduceNe, Int.reduceToNat, ir_usufructlaw16_StateGrows_L0, h1, h3, h6, hn, SgT.cells, EvT.cells, hF', cs, ih, ro_ev, ro_def, ro_sg, ro_step, Int.natCast_nonneg]
    · obtain ⟨k, k1, k2⟩ := sg_found hs (hx s (List.mem_of_getElem? h1) cs)
      have he := eqL_sg s
      simp only [SgT.cells] at he
      rw [k1] at hF
      have c1 : ¬ ((k : Int) < 0) := by omega
      simp -implicitDefEqProofs only [go_sem, reduceIte, reduceCtorEq, Nat.reduceEqDiff, Nat.reduceAdd, Nat.reduceSub, Nat.reduceLT, Nat.reduceLeDiff, Nat.reduceBEq, Nat.reduceMul, Nat.reduceBNe, Int.reduceEq, Int.reduceLT, Int.reduceLE, Int.reduceNe, Int.reduceToNat, ir_usufructlaw16_StateGrows_L0, h1, h3, h6, hn, SgT.cells, EvT.cells, hF, cs, k2, c1, he, ih, ro_ev, ro_def, ro_sg, ro_step, Int.natCast_nonneg]
theorem grows_loop {E : Prog} (hk : LOK E) (l : Sl EvT) (lim : Int) (hl : l.list.length ≤ 40) {L : Env × Store → Option (Sig × Env × Store)}
    (hL : ∀ e st, L (e, st) = (IR.runL E.glob (callL E) [] ir_usufructlaw16_StateGrows_L2 e st).bind (seqK fun e st => L (compact [] 1 [0, 1, 5, 6] e st))) :
    ∀ (rest : List EvT) (i : Nat) (x : StT), l.list.drop i = rest → i ≤ l.list.length → XOK x → NN x →
    ∃ x' : StT, L ([(0, lv l), (1, vi lim), (5, .ref 0 0 0 0), (6, vi i)], [bxS x]) = some (.exit 0, [], [bxS x']) ∨
      L ([(0, lv l), (1, vi lim), (5, .ref 0 0 0 0), (6, vi i)], [bxS x]) = some (.ret, [(4, vb true)], [bxS x'])
  | [], i, x, h, hi, hx, hn => by
    have h1 := drop_nil' h hi
    refine ⟨x, .inl ?_⟩
    rw [hL]
    simp -implicitDefEqProofs only [go_sem, reduceIte, reduceCtorEq, Nat.reduceEqDiff, Nat.reduceAdd, Nat.reduceSub, Nat.reduceLT, Nat.reduceLeDiff, Nat.reduceBEq, Nat.reduceMul, Nat.reduceBNe, Int.reduceEq, Int.reduceLT, Int.reduceLE, Int.reduceNe, Int.reduceToNat, ir_usufructlaw16_StateGrows_L2, h1]
  | v :: rest, i, x, h, hi, hx, hn => by
    have hE := hk.hE
    obtain ⟨h1, h2, h3, h4, h5⟩ := drop_cons h
    have h6 := wrap_succ (i := i) (by omega)
    have hs := fn_short hE v
    by_cases c : shortS v = 0
    · obtain ⟨s1, s2⟩ := short_ev c
      obtain ⟨x', y', cm, e, d1, _, _, ok', nn', g, _⟩ := do_both hE hk.hv hk.hi hk.hin hk.hdl x x hx hn ⟨rfl, rfl, rfl⟩ v s1 s2 lim
      obtain ⟨X, ih⟩ := grows_loop hk l lim hl hL rest (i + 1) x' h2 h4 ok' nn'
      refine ⟨X, ?_⟩
      have a1 := grD_loop hE l lim i x x' cm hx.dl ok'.dl g.d ok'.dk ok'.ds (loopL_eq (IR.runL E.glob (callL E) [] ir_usufructlaw16_StateGrows_L1) (compact [] 3 [0, 1, 5, 6, 7, 11])) x.defs.list 0 rfl (by omega)
      have a2 := grS_loop hE l lim i v h1 x x' cm hx.sl ok'.sl g.s ok'.ss (loopL_eq (IR.runL E.glob (callL E) [] ir_usufructlaw16_StateGrows_L0) (compact [] 3 [0, 1, 5, 6, 7, 13])) x.sagas.list 0 rfl (by omega)
      have n0 := hx.n0; have n1 := hx.n1
      have w : IntKind.i64.wrap (x.next + 1) = x.next + 1 := IntWalk.i64_in _ (by omega)
      have gl : ¬ (x'.defs.list.length : Int) < (x.defs.list.length : Int) := by have := g.l; omega
      have gn := g.n
      rw [c] at hs
      simp only [Int.natCast_zero] at a1 a2
      obtain ⟨q1, q2, q3, q4, q5, q6⟩ := cm
      unfold ansA at d1
      dsimp only [cA] at d1 a1 a2
      clear ok' nn' hx hn g
      have run : L ([(0, lv l), (1, vi lim), (5, .ref 0 0 0 0), (6, vi i)], [bxS x]) = L ([(0, lv l), (1, vi lim), (5, .ref 0 0 0 0), (6, vi ((i + 1 : Nat) : Int))], [bxS x']) := by
        rw [hL]
        rcases gn with ⟨e0, e1, e2⟩ | ⟨e1, e2⟩
        · subst e0
          obtain ⟨xd, xs, xn⟩ := x'
          obtain ⟨kd, nw, sg, nm, ⟨r1, r2, r3, r4, r5⟩, df⟩ := v
          dsimp only at *
          subst e1
          subst e2
          simp -implicitDefEqProofs only [go_sem, reduceIte, reduceCtorEq, Nat.reduceEqDiff, Nat.reduceAdd, Nat.reduceSub, Nat.reduceLT, Nat.reduceLeDiff, Nat.reduceBEq, Nat.reduceMul, Nat.reduceBNe, Int.reduceEq, Int.reduceLT, Int.reduceLE, Int.reduceNe, Int.reduceToNat, ir_usufructlaw16_StateGrows_L2, h1, h3, h6, EvT.cells, hs, d1, w, gl, a1, a2, ro_ev, ro_def, ro_sg, ro_step, Int.natCast_nonneg]
        · obtain ⟨xd, xs, xn⟩ := x'
          dsimp only at *
          subst e2
          by_cases e0 : e = 0
          · have e3 : ¬ v.kind = 1 := fun hh => e1 ⟨e0, hh⟩
            subst e0
            simp -implicitDefEqProofs only [go_sem, reduceIte, reduceCtorEq, Nat.reduceEqDiff, Nat.reduceAdd, Nat.reduceSub, Nat.reduceLT, Nat.reduceLeDiff, Nat.reduceBEq, Nat.reduceMul, Nat.reduceBNe, Int.reduceEq, Int.reduceLT, Int.reduceLE, Int.reduceNe, Int.reduceToNat, ir_usufructlaw16_StateGrows_L2, h1, h3, h6, EvT.cells, hs, d1, w, e3, gl, a1, a2, ro_ev, ro_def, ro_sg, ro_step, Int.natCast_nonneg]
          · simp -implicitDefEqProofs only [go_sem, reduceIte, reduceCtorEq, Nat.reduceEqDiff, Nat.reduceAdd, Nat.reduceSub, Nat.reduceLT, Nat.reduceLeDiff, Nat.reduceBEq, Nat.reduceMul, Nat.reduceBNe, Int.reduceEq, Int.reduceLT, Int.reduceLE, Int.reduceNe, Int.reduceToNat, ir_usufructlaw16_StateGrows_L2, h1, h3, h6, EvT.cells, hs, d1, w, e0, gl, a1, a2, ro_ev, ro_def, ro_sg, ro_step, Int.natCast_nonneg]
      rw [run]
      exact ih
    · refine ⟨x, .inr ?_⟩
      rw [hL]
      simp -implicitDefEqProofs only [go_sem, reduceIte, reduceCtorEq, Nat.reduceEqDiff, Nat.reduceAdd, Nat.reduceSub, Nat.reduceLT, Nat.reduceLeDiff, Nat.reduceBEq, Nat.reduceMul, Nat.reduceBNe, Int.reduceEq, Int.reduceLT, Int.reduceLE, Int.reduceNe, Int.reduceToNat, ir_usufructlaw16_StateGrows_L2, h1, h3, h6, EvT.cells, hs, c, ro_ev, ro_def, ro_sg, ro_step, Int.natCast_nonneg]
theorem fn_StateGrows {E : Prog} (hk : LOK E) (hw : callP E f_usufructlaw16_awake [] = some (vb true)) (l : Sl EvT) (hb : l.list.length < 9223372036854775808) (lim : Int) : callP E f_usufructlaw16_StateGrows [lv l, vi lim] = some (vb true) := by
  have hE := hk.hE
  rw [hE.run rfl rfl]
  by_cases c : (40 : Int) < (l.list.length : Int)
  · simp -implicitDefEqProofs only [go_sem, reduceIte, reduceCtorEq, Nat.reduceEqDiff, Nat.reduceAdd, Nat.reduceSub, Nat.reduceLT, Nat.reduceLeDiff, Nat.reduceBEq, Nat.reduceMul, Nat.reduceBNe, Int.reduceEq, Int.reduceLT, Int.reduceLE, Int.reduceNe, Int.reduceToNat, ir_usufructlaw16_StateGrows, hw, c, ro_ev]
  · obtain ⟨x, h⟩ := grows_loop hk l lim (by omega) (loopL_eq (IR.runL E.glob (callL E) [] ir_usufructlaw16_StateGrows_L2) (compact [] 1 [0, 1, 5, 6])) l.list 0 ⟨.nil, .nil, 0⟩ rfl (by omega) gok0 (fun _ => rfl)
    simp only [Int.natCast_zero, bxS, avN] at h
    rcases h with h | h
    · simp -implicitDefEqProofs only [go_sem, reduceIte, reduceCtorEq, Nat.reduceEqDiff, Nat.reduceAdd, Nat.reduceSub, Nat.reduceLT, Nat.reduceLeDiff, Nat.reduceBEq, Nat.reduceMul, Nat.reduceBNe, Int.reduceEq, Int.reduceLT, Int.reduceLE, Int.reduceNe, Int.reduceToNat, ir_usufructlaw16_StateGrows, hw, c, h, ro_ev, ro_def, ro_sg]
    · simp -implicitDefEqProofs only [go_sem, reduceIte, reduceCtorEq, Nat.reduceEqDiff, Nat.reduceAdd, Nat.reduceSub, Nat.reduceLT, Nat.reduceLeDiff, Nat.reduceBEq, Nat.reduceMul, Nat.reduceBNe, Int.reduceEq, Int.reduceLT, Int.reduceLE, Int.reduceNe, Int.reduceToNat, ir_usufructlaw16_StateGrows, hw, c, h, ro_ev, ro_def, ro_sg]
end Go.Proofs.YtbpndomfipdhdaaGreatDoor.Ev
