import Derived.Test.YtjidmpcgkcaeaaaGreatDoorEvSa
import Derived.Test.YtjidmpcgkcaeaaaGreatDoorEvFd3
set_option linter.unusedVariables false
set_option linter.unusedSectionVars false
set_option linter.unusedSimpArgs false
namespace Go.Proofs.YtjidmpcgkcaeaaaGreatDoor.Ev
attribute [local congr] bind_congr_head
attribute [local go_sem] AV.cells AV.tuple elems boxQ callN_any compact_same compact_new aggOf
theorem of_loop {E : Prog} (hE : Std E fns) (l : Sl EvT) (X : StT) (k : Int) (C : Sl ChT) (hC : C.list.length ≤ 60) {L : Env × Store → Option (Sig × Env × Store)}
    (hL : ∀ e st, L (e, st) = (IR.runL E.glob (callL E) [] ir_feed_Of_L0 e st).bind (seqK fun e st => L (compact [] 1 [0, 1, 4, 30, 31, 32] e st))) :
    ∀ (rest : List ChT) (i : Nat) (out : List ChT) (g : Nat), C.list.drop i = rest → i ≤ C.list.length → out.length ≤ i →
    ∃ g' : Nat, L ([(0, lv l), (1, vi k), (4, (bld 4 ChT.cells g (stFo X) out).1), (30, C.av 4 ChT.cells), (31, vi C.list.length), (32, vi i)], (bld 4 ChT.cells g (stFo X) out).2) =
      some (.exit 1, [(0, lv l), (4, (bld 4 ChT.cells g' (stFo X) (out ++ fromC k rest)).1)], (bld 4 ChT.cells g' (stFo X) (out ++ fromC k rest)).2)
  | [], i, out, g, h, hi, ho => by
    have h1 := drop_nil' h hi
    refine ⟨g, ?_⟩
    rw [hL, fromC, List.filter_nil, List.append_nil]
    by_cases hne : out = []
    · subst hne
      simp -implicitDefEqProofs only [go_sem, reduceIte, reduceCtorEq, Nat.reduceEqDiff, Nat.reduceAdd, Nat.reduceSub, Nat.reduceLT, Nat.reduceLeDiff, Nat.reduceBEq, Nat.reduceMul, Nat.reduceBNe, Int.reduceEq, Int.reduceLT, Int.reduceLE, Int.reduceNe, Int.reduceToNat, ir_feed_Of_L0, h1, bld_nil, ro_ev, ro_def, ro_sg, ro_ch]
    · simp -implicitDefEqProofs only [go_sem, reduceIte, reduceCtorEq, Nat.reduceEqDiff, Nat.reduceAdd, Nat.reduceSub, Nat.reduceLT, Nat.reduceLeDiff, Nat.reduceBEq, Nat.reduceMul, Nat.reduceBNe, Int.reduceEq, Int.reduceLT, Int.reduceLE, Int.reduceNe, Int.reduceToNat, ir_feed_Of_L0, h1, bld_ne hne, ro_ev, ro_def, ro_sg, ro_ch]
  | c :: rest, i, out, g, h, hi, ho => by
    obtain ⟨h1, h2, h3, h4, h5⟩ := drop_cons h
    have h6 := wrap_succ (i := i) (by omega)
    have hb : (out.length + 1) * 32 ≤ 140737488355328 := by omega
    by_cases cp : k ≤ c.at_
    · have e : fromC k (c :: rest) = [c] ++ fromC k rest := by unfold fromC; rw [List.filter_cons, if_pos (by simpa using cp)]; rfl
      rw [e, ← List.append_assoc]
      by_cases hne : out = []
      · subst hne
        obtain ⟨g', ih⟩ := of_loop hE l X k C hC hL rest (i + 1) [c] 0 h2 h4 (by simp)
        refine ⟨g', ?_⟩
        rw [List.nil_append, ← ih, hL]
        simp -implicitDefEqProofs only [go_sem, reduceIte, reduceCtorEq, Nat.reduceEqDiff, Nat.reduceAdd, Nat.reduceSub, Nat.reduceLT, Nat.reduceLeDiff, Nat.reduceBEq, Nat.reduceMul, Nat.reduceBNe, Int.reduceEq, Int.reduceLT, Int.reduceLE, Int.reduceNe, Int.reduceToNat, ir_feed_Of_L0, h1, h3, h6, ChT.cells, cp, bld_nil, bld_ne (List.cons_ne_nil _ _), ro_ev, ro_def, ro_sg, ro_ch, Int.natCast_nonneg]
      · obtain ⟨g', ih⟩ := of_loop hE l X k C hC hL rest (i + 1) (out ++ [c]) (g + 1) h2 h4 (by simp; omega)
        refine ⟨g', ?_⟩
        rw [← ih, hL]
        simp -implicitDefEqProofs only [go_sem, reduceIte, reduceCtorEq, Nat.reduceEqDiff, Nat.reduceAdd, Nat.reduceSub, Nat.reduceLT, Nat.reduceLeDiff, Nat.reduceBEq, Nat.reduceMul, Nat.reduceBNe, Int.reduceEq, Int.reduceLT, Int.reduceLE, Int.reduceNe, Int.reduceToNat, ir_feed_Of_L0, h1, h3, h6, ChT.cells, cp, bld_ne hne, bld_ne (ne_app out c), hb, ro_ev, ro_def, ro_sg, ro_ch, Int.natCast_nonneg]
    · have e : fromC k (c :: rest) = fromC k rest := by unfold fromC; rw [List.filter_cons, if_neg (by simpa using cp)]
      obtain ⟨g', ih⟩ := of_loop hE l X k C hC hL rest (i + 1) out g h2 h4 (by omega)
      refine ⟨g', ?_⟩
      rw [e, ← ih, hL]
      by_cases hne : out = []
      · subst hne
        simp -implicitDefEqProofs only [go_sem, reduceIte, reduceCtorEq, Nat.reduceEqDiff, Nat.reduceAdd, Nat.reduceSub, Nat.reduceLT, Nat.reduceLeDiff, Nat.reduceBEq, Nat.reduceMul, Nat.reduceBNe, Int.reduceEq, Int.reduceLT, Int.reduceLE, Int.reduceNe, Int.reduceToNat, ir_feed_Of_L0, h1, h3, h6, ChT.cells, cp, bld_nil, ro_ev, ro_def, ro_sg, ro_ch, Int.natCast_nonneg]
      · simp -implicitDefEqProofs only [go_sem, reduceIte, reduceCtorEq, Nat.reduceEqDiff, Nat.reduceAdd, Nat.reduceSub, Nat.reduceLT, Nat.reduceLeDiff, Nat.reduceBEq, Nat.reduceMul, Nat.reduceBNe, Int.reduceEq, Int.reduceLT, Int.reduceLE, Int.reduceNe, Int.reduceToNat, ir_feed_Of_L0, h1, h3, h6, ChT.cells, cp, bld_ne hne, ro_ev, ro_def, ro_sg, ro_ch, Int.natCast_nonneg]
def ofA (C : List ChT) (n e : Int) : AV := .tup [(slOf C).av 4 ChT.cells, vi n, vi e]
section
variable {E : Prog} (hE : Std E fns) (l : Sl EvT) (C : Sl ChT) (X : StT)
include hE
theorem fn_of_bad (h : callP E f_feed_follow [lv l] = some (.tup [C.av 4 ChT.cells, stA X, vb false])) (k : Int) : callP E f_feed_Of [lv l, vi k] = some (ofA [] 0 3) := by
  rw [hE.run rfl rfl]
  simp -implicitDefEqProofs only [go_sem, reduceIte, reduceCtorEq, Nat.reduceEqDiff, Nat.reduceAdd, Nat.reduceSub, Nat.reduceLT, Nat.reduceLeDiff, Nat.reduceBEq, Nat.reduceMul, Nat.reduceBNe, Int.reduceEq, Int.reduceLT, Int.reduceLE, Int.reduceNe, Int.reduceToNat, ir_feed_Of, h, ro_ev, ro_def, ro_sg, ro_ch]
  rfl
theorem fn_of_arg (h : callP E f_feed_follow [lv l] = some (.tup [C.av 4 ChT.cells, stA X, vb true])) (k : Int) (hk : k < 0 ∨ (l.list.length : Int) < k) : callP E f_feed_Of [lv l, vi k] = some (ofA [] 0 1) := by
  rw [hE.run rfl rfl]
  simp -implicitDefEqProofs only [go_sem, reduceIte, reduceCtorEq, Nat.reduceEqDiff, Nat.reduceAdd, Nat.reduceSub, Nat.reduceLT, Nat.reduceLeDiff, Nat.reduceBEq, Nat.reduceMul, Nat.reduceBNe, Int.reduceEq, Int.reduceLT, Int.reduceLE, Int.reduceNe, Int.reduceToNat, ir_feed_Of, h, gor_b, Bool.or_eq_true, hk, ro_ev, ro_def, ro_sg, ro_ch]
  rfl
theorem fn_of (h : callP E f_feed_follow [lv l] = some (.tup [C.av 4 ChT.cells, stA X, vb true])) (hC : C.list.length ≤ 60) (k : Int) (hk : ¬ (k < 0 ∨ (l.list.length : Int) < k)) : callP E f_feed_Of [lv l, vi k] = some (ofA (fromC k C.list) l.list.length 0) := by
  obtain ⟨g, hl⟩ := of_loop hE l X k C hC (loopL_eq (IR.runL E.glob (callL E) [] ir_feed_Of_L0) (compact [] 1 [0, 1, 4, 30, 31, 32])) C.list 0 [] 0 rfl (by omega) (by simp)
  simp only [Int.natCast_zero, bld_nil, List.nil_append, stFo] at hl
  generalize fromC k C.list = D at *
  rw [ofA, hE.run rfl rfl]
  by_cases hne : D = []
  · subst hne
    simp only [bld_nil] at hl
    simp -implicitDefEqProofs only [go_sem, reduceIte, reduceCtorEq, Nat.reduceEqDiff, Nat.reduceAdd, Nat.reduceSub, Nat.reduceLT, Nat.reduceLeDiff, Nat.reduceBEq, Nat.reduceMul, Nat.reduceBNe, Int.reduceEq, Int.reduceLT, Int.reduceLE, Int.reduceNe, Int.reduceToNat, ir_feed_Of, h, gor_b, Bool.or_eq_true, hk, hl, ro_ev, ro_def, ro_sg, ro_ch]
    rfl
  · simp only [bld_ne hne, List.length_cons, List.length_nil, List.cons_append, List.nil_append, Nat.zero_add] at hl
    rw [slOf_ne hne]
    simp -implicitDefEqProofs only [go_sem, reduceIte, reduceCtorEq, Nat.reduceEqDiff, Nat.reduceAdd, Nat.reduceSub, Nat.reduceLT, Nat.reduceLeDiff, Nat.reduceBEq, Nat.reduceMul, Nat.reduceBNe, Int.reduceEq, Int.reduceLT, Int.reduceLE, Int.reduceNe, Int.reduceToNat, ir_feed_Of, h, gor_b, Bool.or_eq_true, hk, hl, avM, take_map_all, ro_ev, ro_def, ro_sg, ro_ch]
theorem fn_page_bad (k m n e : Int) (he : e ≠ 0) (h : callP E f_feed_Of [lv l, vi k] = some (ofA [] n e)) : callP E f_feed_Page [lv l, vi k, vi m] = some (ofA [] 0 e) := by
  rw [ofA] at h
  rw [ofA, hE.run rfl rfl]
  simp -implicitDefEqProofs only [go_sem, reduceIte, reduceCtorEq, Nat.reduceEqDiff, Nat.reduceAdd, Nat.reduceSub, Nat.reduceLT, Nat.reduceLeDiff, Nat.reduceBEq, Nat.reduceMul, Nat.reduceBNe, Int.reduceEq, Int.reduceLT, Int.reduceLE, Int.reduceNe, Int.reduceToNat, ir_feed_Page, h, he, ro_ev, ro_def, ro_sg, ro_ch]
  rfl
theorem fn_page_arg (k m n : Int) (D : List ChT) (hm : m < 1) (h : callP E f_feed_Of [lv l, vi k] = some (ofA D n 0)) : callP E f_feed_Page [lv l, vi k, vi m] = some (ofA [] 0 1) := by
  rw [ofA] at h
  rw [ofA, hE.run rfl rfl]
  simp -implicitDefEqProofs only [go_sem, reduceIte, reduceCtorEq, Nat.reduceEqDiff, Nat.reduceAdd, Nat.reduceSub, Nat.reduceLT, Nat.reduceLeDiff, Nat.reduceBEq, Nat.reduceMul, Nat.reduceBNe, Int.reduceEq, Int.reduceLT, Int.reduceLE, Int.reduceNe, Int.reduceToNat, ir_feed_Page, h, hm, ro_ev, ro_def, ro_sg, ro_ch]
  rfl
theorem fn_page_all (k m n : Int) (D : List ChT) (hm : ¬ m < 1) (hD : ¬ m < (D.length : Int)) (h : callP E f_feed_Of [lv l, vi k] = some (ofA D n 0)) : callP E f_feed_Page [lv l, vi k, vi m] = some (ofA D n 0) := by
  have e1 := slOf_list D
  rw [ofA] at h
  rw [ofA, hE.run rfl rfl]
  simp -implicitDefEqProofs only [go_sem, reduceIte, reduceCtorEq, Nat.reduceEqDiff, Nat.reduceAdd, Nat.reduceSub, Nat.reduceLT, Nat.reduceLeDiff, Nat.reduceBEq, Nat.reduceMul, Nat.reduceBNe, Int.reduceEq, Int.reduceLT, Int.reduceLE, Int.reduceNe, Int.reduceToNat, ir_feed_Page, h, hm, hD, e1, ro_ev, ro_def, ro_sg, ro_ch]
theorem fn_page_cut (k n : Int) (m : Nat) (D : List ChT) (c : ChT) (hm : 0 < m) (hD : m < D.length) (hl : D.length ≤ 60) (hc : D[m - 1]? = some c) (c0 : 0 ≤ c.at_) (c1 : c.at_ < 1000) (h : callP E f_feed_Of [lv l, vi k] = some (ofA D n 0)) :
    callP E f_feed_Page [lv l, vi k, vi m] = some (ofA (D.take m) (c.at_ + 1) 0) := by
  have hne : D ≠ [] := by intro h; rw [h] at hD; simp at hD
  have hne2 : D.take m ≠ [] := by intro h; have := congrArg List.length h; rw [List.length_take] at this; simp only [List.length_nil] at this; omega
  have z1 : ¬ (m : Int) < 1 := by omega
  have z2 : (m : Int) < (D.length : Int) := by omega
  have z3 : (m : Int) ≤ (D.length : Int) := by omega
  have w1 : IntKind.i64.wrap ((m : Int) - 1) = ((m - 1 : Nat) : Int) := by rw [show (m : Int) - 1 = ((m - 1 : Nat) : Int) by omega]; exact IntWalk.i64_in _ (by omega)
  have w2 : IntKind.i64.wrap (c.at_ + 1) = c.at_ + 1 := IntWalk.i64_in _ (by omega)
  have e2 : (D.drop 0).take (m - 0) = D.take m := by simp
  rw [ofA, slOf_ne hne] at h
  rw [ofA, slOf_ne hne2, hE.run rfl rfl]
  simp -implicitDefEqProofs only [go_sem, reduceIte, reduceCtorEq, Nat.reduceEqDiff, Nat.reduceAdd, Nat.reduceSub, Nat.reduceLT, Nat.reduceLeDiff, Nat.reduceBEq, Nat.reduceMul, Nat.reduceBNe, Int.reduceEq, Int.reduceLT, Int.reduceLE, Int.reduceNe, Int.reduceToNat, ir_feed_Page, h, z1, z2, z3, w1, w2, hc, ChT.cells, Sl.sub, Sl.list, Nat.sub_zero, List.drop_zero, Int.natCast_nonneg, ro_ev, ro_def, ro_sg, ro_ch]
end
structure PhT where
  saga : Int
  phase : Int
def PhT.cells (p : PhT) : List AV := [vi p.saga, vi p.phase]
theorem ro_ph : Ro PhT.cells := fun _ => rfl
def nowS (S : List SgT) : List PhT := S.map fun s => ⟨s.id, s.phase⟩
theorem now_loop {E : Prog} (hE : Std E fns) (X : StT) (hX : X.sagas.list.length ≤ 1048576) {L : Env × Store → Option (Sig × Env × Store)}
    (hL : ∀ e st, L (e, st) = (IR.runL E.glob (callL E) [] ir_feed_Now_L0 e st).bind (seqK fun e st => L (compact [] 1 [6, 18, 19, 20] e st))) :
    ∀ (rest : List SgT) (i : Nat) (out : List PhT) (g : Nat), X.sagas.list.drop i = rest → i ≤ X.sagas.list.length → out.length ≤ i →
    ∃ g' : Nat, L ([(6, (bld 2 PhT.cells g (stFo X) out).1), (18, X.sagas.av 9 SgT.cells), (19, vi X.sagas.list.length), (20, vi i)], (bld 2 PhT.cells g (stFo X) out).2) =
      some (.exit 0, [(6, (bld 2 PhT.cells g' (stFo X) (out ++ nowS rest)).1)], (bld 2 PhT.cells g' (stFo X) (out ++ nowS rest)).2)
  | [], i, out, g, h, hi, ho => by
    have h1 := drop_nil' h hi
    refine ⟨g, ?_⟩
    rw [hL, nowS, List.map_nil, List.append_nil]
    by_cases hne : out = []
    · subst hne
      simp -implicitDefEqProofs only [go_sem, reduceIte, reduceCtorEq, Nat.reduceEqDiff, Nat.reduceAdd, Nat.reduceSub, Nat.reduceLT, Nat.reduceLeDiff, Nat.reduceBEq, Nat.reduceMul, Nat.reduceBNe, Int.reduceEq, Int.reduceLT, Int.reduceLE, Int.reduceNe, Int.reduceToNat, ir_feed_Now_L0, h1, bld_nil, ro_def, ro_sg, ro_ph]
    · simp -implicitDefEqProofs only [go_sem, reduceIte, reduceCtorEq, Nat.reduceEqDiff, Nat.reduceAdd, Nat.reduceSub, Nat.reduceLT, Nat.reduceLeDiff, Nat.reduceBEq, Nat.reduceMul, Nat.reduceBNe, Int.reduceEq, Int.reduceLT, Int.reduceLE, Int.reduceNe, Int.reduceToNat, ir_feed_Now_L0, h1, bld_ne hne, ro_def, ro_sg, ro_ph]
  | s :: rest, i, out, g, h, hi, ho => by
    obtain ⟨h1, h2, h3, h4, h5⟩ := drop_cons h
    have h6 := wrap_succ (i := i) (by omega)
    have hb : (out.length + 1) * 16 ≤ 140737488355328 := by omega
    have e : nowS (s :: rest) = [⟨s.id, s.phase⟩] ++ nowS rest := rfl
    rw [e, ← List.append_assoc]
    by_cases hne : out = []
    · subst hne
      obtain ⟨g', ih⟩ := now_loop hE X hX hL rest (i + 1) [⟨s.id, s.phase⟩] 0 h2 h4 (by simp)
      refine ⟨g', ?_⟩
      rw [List.nil_append, ← ih, hL]
      simp -implicitDefEqProofs only [go_sem, reduceIte, reduceCtorEq, Nat.reduceEqDiff, Nat.reduceAdd, Nat.reduceSub, Nat.reduceLT, Nat.reduceLeDiff, Nat.reduceBEq, Nat.reduceMul, Nat.reduceBNe, Int.reduceEq, Int.reduceLT, Int.reduceLE, Int.reduceNe, Int.reduceToNat, ir_feed_Now_L0, h1, h3, h6, SgT.cells, PhT.cells, bld_nil, bld_ne (List.cons_ne_nil _ _), ro_def, ro_sg, ro_ph, Int.natCast_nonneg]
    · obtain ⟨g', ih⟩ := now_loop hE X hX hL rest (i + 1) (out ++ [⟨s.id, s.phase⟩]) (g + 1) h2 h4 (by simp; omega)
      refine ⟨g', ?_⟩
      rw [← ih, hL]
      simp -implicitDefEqProofs only [go_sem, reduceIte, reduceCtorEq, Nat.reduceEqDiff, Nat.reduceAdd, Nat.reduceSub, Nat.reduceLT, Nat.reduceLeDiff, Nat.reduceBEq, Nat.reduceMul, Nat.reduceBNe, Int.reduceEq, Int.reduceLT, Int.reduceLE, Int.reduceNe, Int.reduceToNat, ir_feed_Now_L0, h1, h3, h6, SgT.cells, PhT.cells, bld_ne hne, bld_ne (ne_app out _), hb, ro_def, ro_sg, ro_ph, Int.natCast_nonneg]
def nowA (P : List PhT) : AV := (slOf P).av 2 PhT.cells
theorem fn_now_bad {E : Prog} (hE : Std E fns) (l : Sl EvT) (C : Sl ChT) (X : StT) (h : callP E f_feed_follow [lv l] = some (.tup [C.av 4 ChT.cells, stA X, vb false])) : callP E f_feed_Now [lv l] = some (nowA []) := by
  rw [hE.run rfl rfl]
  simp -implicitDefEqProofs only [go_sem, reduceIte, reduceCtorEq, Nat.reduceEqDiff, Nat.reduceAdd, Nat.reduceSub, Nat.reduceLT, Nat.reduceLeDiff, Nat.reduceBEq, Nat.reduceMul, Nat.reduceBNe, Int.reduceEq, Int.reduceLT, Int.reduceLE, Int.reduceNe, Int.reduceToNat, ir_feed_Now, h, ro_ev, ro_def, ro_sg, ro_ch]
  rfl
theorem fn_now {E : Prog} (hE : Std E fns) (l : Sl EvT) (C : Sl ChT) (X : StT) (hX : X.sagas.list.length ≤ 1048576) (h : callP E f_feed_follow [lv l] = some (.tup [C.av 4 ChT.cells, stA X, vb true])) : callP E f_feed_Now [lv l] = some (nowA (nowS X.sagas.list)) := by
  obtain ⟨g, hl⟩ := now_loop hE X hX (loopL_eq (IR.runL E.glob (callL E) [] ir_feed_Now_L0) (compact [] 1 [6, 18, 19, 20])) X.sagas.list 0 [] 0 rfl (by omega) (by simp)
  simp only [Int.natCast_zero, bld_nil, List.nil_append, stFo] at hl
  generalize nowS X.sagas.list = D at *
  rw [nowA, hE.run rfl rfl]
  by_cases hne : D = []
  · subst hne
    simp only [bld_nil] at hl
    simp -implicitDefEqProofs only [go_sem, reduceIte, reduceCtorEq, Nat.reduceEqDiff, Nat.reduceAdd, Nat.reduceSub, Nat.reduceLT, Nat.reduceLeDiff, Nat.reduceBEq, Nat.reduceMul, Nat.reduceBNe, Int.reduceEq, Int.reduceLT, Int.reduceLE, Int.reduceNe, Int.reduceToNat, ir_feed_Now, h, hl, ro_ev, ro_def, ro_sg, ro_ch, ro_ph]
    rfl
  · simp only [bld_ne hne, List.length_cons, List.length_nil, List.cons_append, List.nil_append, Nat.zero_add] at hl
    rw [slOf_ne hne]
    simp -implicitDefEqProofs only [go_sem, reduceIte, reduceCtorEq, Nat.reduceEqDiff, Nat.reduceAdd, Nat.reduceSub, Nat.reduceLT, Nat.reduceLeDiff, Nat.reduceBEq, Nat.reduceMul, Nat.reduceBNe, Int.reduceEq, Int.reduceLT, Int.reduceLE, Int.reduceNe, Int.reduceToNat, ir_feed_Now, h, hl, avM, take_map_all, ro_ev, ro_def, ro_sg, ro_ch, ro_ph]
end Go.Proofs.YtjidmpcgkcaeaaaGreatDoor.Ev
