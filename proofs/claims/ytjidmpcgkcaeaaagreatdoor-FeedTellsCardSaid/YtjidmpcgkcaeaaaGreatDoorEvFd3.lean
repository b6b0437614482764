import Derived.Test.YtjidmpcgkcaeaaaGreatDoorEvSa
import Derived.Test.YtjidmpcgkcaeaaaGreatDoorEvFd2
set_option linter.unusedVariables false
set_option linter.unusedSimpArgs false
namespace Go.Proofs.YtjidmpcgkcaeaaaGreatDoor.Ev
attribute [local congr] bind_congr_head
attribute [local go_sem] AV.cells AV.tuple elems boxQ callN_any compact_same compact_new aggOf
abbrev stFo (x : StT) : Store := [.box [x.defs.av 3 DefT.cells, x.sagas.av 9 SgT.cells, vi x.next]]
theorem chg_no {i : Nat} {x x' : StT} {v : EvT} (h : v.kind = 0 ∨ phS x.sagas.list v.saga = phS x'.sagas.list v.saga) : chg i x x' v = [] := by
  unfold chg
  rw [if_neg]
  rintro ⟨h1, h2⟩
  rcases h with h | h
  · exact h1 h
  · exact h2 h
theorem chg_yes {i : Nat} {x x' : StT} {v : EvT} (h1 : ¬ v.kind = 0) (h2 : ¬ phS x.sagas.list v.saga = phS x'.sagas.list v.saga) : chg i x x' v = [⟨i, v.saga, phS x.sagas.list v.saga, phS x'.sagas.list v.saga⟩] := by
  unfold chg
  rw [if_pos ⟨h1, h2⟩]
def Junk (G : Store) : Prop := ∃ (g : Nat) (v : EvT) (x : StT) (c : CmT), G = [.box v.cells, .box [x.defs.av 3 DefT.cells, x.sagas.av 9 SgT.cells, vi x.next], .box [vi c.saga, vi c.step, vb c.undo, vi c.try_, vs c.party, vs c.key]] ∨
  ∃ o : List ChT, G = [.row 4 g (o.map ChT.cells) false, .box v.cells, .box [x.defs.av 3 DefT.cells, x.sagas.av 9 SgT.cells, vi x.next], .box [vi c.saga, vi c.step, vb c.undo, vi c.try_, vs c.party, vs c.key]]
set_option maxHeartbeats 4000000 in
theorem follow_loop {E : Prog} (hE : Std E fns) (l : Sl EvT) (hl : l.list.length ≤ 60) {L : Env × Store → Option (Sig × Env × Store)}
    (hL : ∀ e st, L (e, st) = (IR.runL E.glob (callL E) [] ir_feed_follow_L0 e st).bind (seqK fun e st => L (compact [] 1 [2, 3, 12, 13, 14] e st)))
    {rest : List EvT} {x y : StT} {T : List (StT × StT × CmT)} {b : Bool} (t : Steps E x y rest T b) :
    ∀ (i : Nat) (out : List ChT) (g : Nat), XOK x → l.list.drop i = rest → i ≤ l.list.length → out.length ≤ i →
    ∃ (g' : Nat) (x' : StT) (G : Store), (b = false → Junk G) ∧ L ([(2, (bld 4 ChT.cells g (stFo x) out).1), (3, .ref 0 0 0 0), (12, lv l), (13, vi l.list.length), (14, vi i)], (bld 4 ChT.cells g (stFo x) out).2) =
      if b = true then some (.exit 0, [(2, (bld 4 ChT.cells g' (stFo (lastX x T)) (out ++ chgs i x rest T)).1), (3, .ref 0 0 0 0)], (bld 4 ChT.cells g' (stFo (lastX x T)) (out ++ chgs i x rest T)).2)
      else some (.ret, [(2, .v (.slice none 0 0)), (3, .ref 0 0 0 0), (4, vb false)], .box [x'.defs.av 3 DefT.cells, x'.sagas.av 9 SgT.cells, vi x'.next] :: G) := by
  induction t with
  | @nil x y =>
    intro i out g hx h0 hi ho
    have h1 := drop_nil' h0 hi
    refine ⟨g, x, [], fun h => (by cases h), ?_⟩
    rw [hL, if_pos rfl, chgs, List.append_nil, lastX]
    by_cases hne : out = []
    · subst hne
      simp -implicitDefEqProofs only [go_sem, reduceIte, reduceCtorEq, Nat.reduceEqDiff, Nat.reduceAdd, Nat.reduceSub, Nat.reduceLT, Nat.reduceLeDiff, Nat.reduceBEq, Nat.reduceMul, Nat.reduceBNe, Int.reduceEq, Int.reduceLT, Int.reduceLE, Int.reduceNe, Int.reduceToNat, ir_feed_follow_L0, h1, bld_nil, ro_ev, ro_def, ro_sg, ro_ch]
    · simp -implicitDefEqProofs only [go_sem, reduceIte, reduceCtorEq, Nat.reduceEqDiff, Nat.reduceAdd, Nat.reduceSub, Nat.reduceLT, Nat.reduceLeDiff, Nat.reduceBEq, Nat.reduceMul, Nat.reduceBNe, Int.reduceEq, Int.reduceLT, Int.reduceLE, Int.reduceNe, Int.reduceToNat, ir_feed_follow_L0, h1, bld_ne hne, ro_ev, ro_def, ro_sg, ro_ch]
    all_goals intro _ _ _; simp [chgs]
  | @stop x y v r x' y' c e he d1 d2 =>
    intro i out g hx h0 hi ho
    obtain ⟨h1, h2, h3, h4, h5⟩ := drop_cons h0
    unfold ansA at d1
    by_cases hne : out = []
    · subst hne
      refine ⟨g, x, _, fun _ => ⟨g, v, x', c, .inl rfl⟩, ?_⟩
      · rw [hL, if_neg (by decide)]
        simp -implicitDefEqProofs only [go_sem, reduceIte, reduceCtorEq, Nat.reduceEqDiff, Nat.reduceAdd, Nat.reduceSub, Nat.reduceLT, Nat.reduceLeDiff, Nat.reduceBEq, Nat.reduceMul, Nat.reduceBNe, Int.reduceEq, Int.reduceLT, Int.reduceLE, Int.reduceNe, Int.reduceToNat, ir_feed_follow_L0, h1, h3, EvT.cells, d1, he, bld_nil, ro_ev, ro_def, ro_sg, ro_step, ro_ch, Int.natCast_nonneg]
    · refine ⟨g, x, _, fun _ => ⟨g, v, x', c, .inr ⟨out, rfl⟩⟩, ?_⟩
      · rw [hL, if_neg (by decide)]
        simp -implicitDefEqProofs only [go_sem, reduceIte, reduceCtorEq, Nat.reduceEqDiff, Nat.reduceAdd, Nat.reduceSub, Nat.reduceLT, Nat.reduceLeDiff, Nat.reduceBEq, Nat.reduceMul, Nat.reduceBNe, Int.reduceEq, Int.reduceLT, Int.reduceLE, Int.reduceNe, Int.reduceToNat, ir_feed_follow_L0, h1, h3, EvT.cells, d1, he, bld_ne hne, ro_ev, ro_def, ro_sg, ro_step, ro_ch, Int.natCast_nonneg]
  | @go x y v r x' y' c T b d1 d2 q ok gr t ih =>
    intro i out g hx h0 hi ho
    obtain ⟨h1, h2, h3, h4, h5⟩ := drop_cons h0
    have h6 := wrap_succ (i := i) (by omega)
    have p1 := fn_fdPhase hE x hx.sl v.saga
    have p2 := fn_fdPhase hE x' ok.sl v.saga
    have hb : (out.length + 1) * 32 ≤ 140737488355328 := by omega
    unfold ansA at d1
    rw [chgs, lastX]
    by_cases k0 : v.kind = 0
    · rw [chg_no (.inl k0), List.nil_append]
      obtain ⟨g', z, G, hJ, ih⟩ := ih (i + 1) out g ok h2 h4 (by omega)
      refine ⟨g', z, G, hJ, ?_⟩
      rw [← ih, hL]
      obtain ⟨kd, nw, sg, nm, ⟨r1, r2, r3, r4, r5⟩, df⟩ := v
      dsimp only at *
      subst k0
      by_cases hne : out = []
      · subst hne
        simp -implicitDefEqProofs only [go_sem, reduceIte, reduceCtorEq, Nat.reduceEqDiff, Nat.reduceAdd, Nat.reduceSub, Nat.reduceLT, Nat.reduceLeDiff, Nat.reduceBEq, Nat.reduceMul, Nat.reduceBNe, Int.reduceEq, Int.reduceLT, Int.reduceLE, Int.reduceNe, Int.reduceToNat, ir_feed_follow_L0, h1, h3, h6, EvT.cells, d1, p1, p2, bld_nil, ro_ev, ro_def, ro_sg, ro_step, ro_ch, Int.natCast_nonneg]
      · simp -implicitDefEqProofs only [go_sem, reduceIte, reduceCtorEq, Nat.reduceEqDiff, Nat.reduceAdd, Nat.reduceSub, Nat.reduceLT, Nat.reduceLeDiff, Nat.reduceBEq, Nat.reduceMul, Nat.reduceBNe, Int.reduceEq, Int.reduceLT, Int.reduceLE, Int.reduceNe, Int.reduceToNat, ir_feed_follow_L0, h1, h3, h6, EvT.cells, d1, p1, p2, bld_ne hne, ro_ev, ro_def, ro_sg, ro_step, ro_ch, Int.natCast_nonneg]
    · by_cases pe : phS x.sagas.list v.saga = phS x'.sagas.list v.saga
      · rw [chg_no (.inr pe), List.nil_append]
        obtain ⟨g', z, G, hJ, ih⟩ := ih (i + 1) out g ok h2 h4 (by omega)
        refine ⟨g', z, G, hJ, ?_⟩
        rw [← ih, hL]
        rw [pe] at p1
        by_cases hne : out = []
        · subst hne
          simp -implicitDefEqProofs only [go_sem, reduceIte, reduceCtorEq, Nat.reduceEqDiff, Nat.reduceAdd, Nat.reduceSub, Nat.reduceLT, Nat.reduceLeDiff, Nat.reduceBEq, Nat.reduceMul, Nat.reduceBNe, Int.reduceEq, Int.reduceLT, Int.reduceLE, Int.reduceNe, Int.reduceToNat, ir_feed_follow_L0, h1, h3, h6, EvT.cells, d1, k0, p1, p2, bld_nil, ro_ev, ro_def, ro_sg, ro_step, ro_ch, Int.natCast_nonneg]
        · simp -implicitDefEqProofs only [go_sem, reduceIte, reduceCtorEq, Nat.reduceEqDiff, Nat.reduceAdd, Nat.reduceSub, Nat.reduceLT, Nat.reduceLeDiff, Nat.reduceBEq, Nat.reduceMul, Nat.reduceBNe, Int.reduceEq, Int.reduceLT, Int.reduceLE, Int.reduceNe, Int.reduceToNat, ir_feed_follow_L0, h1, h3, h6, EvT.cells, d1, k0, p1, p2, bld_ne hne, ro_ev, ro_def, ro_sg, ro_step, ro_ch, Int.natCast_nonneg]
      · rw [chg_yes k0 pe, ← List.append_assoc]
        by_cases hne : out = []
        · subst hne
          obtain ⟨g', z, G, hJ, ih⟩ := ih (i + 1) [⟨i, v.saga, phS x.sagas.list v.saga, phS x'.sagas.list v.saga⟩] 0 ok h2 h4 (by simp)
          refine ⟨g', z, G, hJ, ?_⟩
          rw [List.nil_append, ← ih, hL]
          simp -implicitDefEqProofs only [go_sem, reduceIte, reduceCtorEq, Nat.reduceEqDiff, Nat.reduceAdd, Nat.reduceSub, Nat.reduceLT, Nat.reduceLeDiff, Nat.reduceBEq, Nat.reduceMul, Nat.reduceBNe, Int.reduceEq, Int.reduceLT, Int.reduceLE, Int.reduceNe, Int.reduceToNat, ir_feed_follow_L0, h1, h3, h6, EvT.cells, ChT.cells, d1, k0, pe, p1, p2, bld_nil, bld_ne (List.cons_ne_nil _ _), ro_ev, ro_def, ro_sg, ro_step, ro_ch, Int.natCast_nonneg]
        · obtain ⟨g', z, G, hJ, ih⟩ := ih (i + 1) (out ++ [⟨i, v.saga, phS x.sagas.list v.saga, phS x'.sagas.list v.saga⟩]) (g + 1) ok h2 h4 (by simp; omega)
          refine ⟨g', z, G, hJ, ?_⟩
          rw [← ih, hL]
          simp -implicitDefEqProofs only [go_sem, reduceIte, reduceCtorEq, Nat.reduceEqDiff, Nat.reduceAdd, Nat.reduceSub, Nat.reduceLT, Nat.reduceLeDiff, Nat.reduceBEq, Nat.reduceMul, Nat.reduceBNe, Int.reduceEq, Int.reduceLT, Int.reduceLE, Int.reduceNe, Int.reduceToNat, ir_feed_follow_L0, h1, h3, h6, EvT.cells, ChT.cells, d1, k0, pe, p1, p2, bld_ne hne, bld_ne (ne_app out _), hb, ro_ev, ro_def, ro_sg, ro_step, ro_ch, Int.natCast_nonneg]
abbrev x0 : StT := ⟨.nil, .nil, 0⟩
theorem fn_follow {E : Prog} (hE : Std E fns) (l : Sl EvT) (hl : l.list.length ≤ 60) {y : StT} {T : List (StT × StT × CmT)} {b : Bool} (t : Steps E x0 y l.list T b) :
    ∃ (C : Sl ChT) (x : StT), callP E f_feed_follow [lv l] = some (.tup [C.av 4 ChT.cells, stA x, vb b]) ∧ (b = true → C.list = chgs 0 x0 l.list T ∧ x = lastX x0 T) ∧ (b = false → C.list = []) := by
  obtain ⟨g, z, G, hJ, h⟩ := follow_loop hE l hl (loopL_eq (IR.runL E.glob (callL E) [] ir_feed_follow_L0) (compact [] 1 [2, 3, 12, 13, 14])) t 0 [] 0 gok0 rfl (by omega) (by simp)
  simp only [Int.natCast_zero, bld_nil, List.nil_append, stFo, avN] at h
  cases b with
  | false =>
    refine ⟨.nil, z, ?_, fun h => (by cases h), fun _ => rfl⟩
    rw [if_neg (by decide)] at h
    rw [hE.run rfl rfl]
    obtain ⟨g1, v, x, c, rfl | ⟨o, rfl⟩⟩ := hJ rfl
    · simp only [EvT.cells] at h
      simp -implicitDefEqProofs only [go_sem, reduceIte, reduceCtorEq, Nat.reduceEqDiff, Nat.reduceAdd, Nat.reduceSub, Nat.reduceLT, Nat.reduceLeDiff, Nat.reduceBEq, Nat.reduceMul, Nat.reduceBNe, Int.reduceEq, Int.reduceLT, Int.reduceLE, Int.reduceNe, Int.reduceToNat, ir_feed_follow, h, ro_ev, ro_def, ro_sg, ro_ch, ro_step]
      rfl
    · simp only [EvT.cells] at h
      simp -implicitDefEqProofs only [go_sem, reduceIte, reduceCtorEq, Nat.reduceEqDiff, Nat.reduceAdd, Nat.reduceSub, Nat.reduceLT, Nat.reduceLeDiff, Nat.reduceBEq, Nat.reduceMul, Nat.reduceBNe, Int.reduceEq, Int.reduceLT, Int.reduceLE, Int.reduceNe, Int.reduceToNat, ir_feed_follow, h, ro_ev, ro_def, ro_sg, ro_ch, ro_step]
      rfl
  | true =>
    rw [if_pos rfl] at h
    generalize hC : chgs 0 x0 l.list T = C at h ⊢
    refine ⟨slOf C, lastX x0 T, ?_, fun _ => ⟨slOf_list C, rfl⟩, fun h => (by cases h)⟩
    generalize lastX x0 T = X at h ⊢
    by_cases hne : C = []
    · subst hne
      simp only [bld_nil] at h
      rw [hE.run rfl rfl]
      simp -implicitDefEqProofs only [go_sem, reduceIte, reduceCtorEq, Nat.reduceEqDiff, Nat.reduceAdd, Nat.reduceSub, Nat.reduceLT, Nat.reduceLeDiff, Nat.reduceBEq, Nat.reduceMul, Nat.reduceBNe, Int.reduceEq, Int.reduceLT, Int.reduceLE, Int.reduceNe, Int.reduceToNat, ir_feed_follow, h, ro_ev, ro_def, ro_sg, ro_ch]
      rfl
    · simp only [bld_ne hne, List.length_cons, List.length_nil, List.cons_append, List.nil_append, Nat.zero_add] at h
      rw [slOf_ne hne, hE.run rfl rfl]
      simp -implicitDefEqProofs only [go_sem, reduceIte, reduceCtorEq, Nat.reduceEqDiff, Nat.reduceAdd, Nat.reduceSub, Nat.reduceLT, Nat.reduceLeDiff, Nat.reduceBEq, Nat.reduceMul, Nat.reduceBNe, Int.reduceEq, Int.reduceLT, Int.reduceLE, Int.reduceNe, Int.reduceToNat, ir_feed_follow, h, avM, take_map_all, ro_ev, ro_def, ro_sg, ro_ch]
end Go.Proofs.YtjidmpcgkcaeaaaGreatDoor.Ev
