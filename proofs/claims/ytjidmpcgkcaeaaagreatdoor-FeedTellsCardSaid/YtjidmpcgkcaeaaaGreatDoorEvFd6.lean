import Derived.Test.YtjidmpcgkcaeaaaGreatDoorEvSa
import Derived.Test.YtjidmpcgkcaeaaaGreatDoorEvFd5
set_option linter.unusedVariables false
set_option linter.unusedSimpArgs false
namespace Go.Proofs.YtjidmpcgkcaeaaaGreatDoor.Ev
attribute [local congr] bind_congr_head
attribute [local go_sem] AV.cells AV.tuple elems boxQ callN_any compact_same compact_new aggOf
abbrev stTr (P : List StT) (Q : List CmT) (bad : Int) : Store := [.box [(Sl.mk P).av 3 StT.cells, (slOf Q).av 6 CmT.cells, vi bad]]
theorem ofRef_loop {E : Prog} (hE : Std E fns) (l : Sl EvT) (hl : l.list.length ≤ 60) (hg : ∀ v, v ∈ l.list → 0 ≤ v.kind) (P : List StT) (Q : List CmT) (bad : Int) {L : Env × Store → Option (Sig × Env × Store)}
    (hL : ∀ e st, L (e, st) = (IR.runL E.glob (callL E) [] ir_usufructref33_Of_L0 e st).bind (seqK fun e st => L (compact [] 1 [1, 3, 7, 8] e st)))
    {rest : List EvT} {x y : StT} {T : List (StT × StT × CmT)} {b : Bool} (t : Steps E x y rest T b) :
    b = true → ∀ (i : Nat) (out : List ChT) (g : Nat), XOK x → Eqv x y → l.list.drop i = rest → i ≤ l.list.length → P.drop i = y :: yT T → out.length ≤ i →
    ∃ g' : Nat, L ([(1, lv l), (3, .ref 0 0 0 0), (7, (bld 4 ChT.cells g (stTr P Q bad) out).1), (8, vi i)], (bld 4 ChT.cells g (stTr P Q bad) out).2) =
      some (.exit 0, [(7, (bld 4 ChT.cells g' (stTr P Q bad) (out ++ chgs i x rest T)).1)], (bld 4 ChT.cells g' (stTr P Q bad) (out ++ chgs i x rest T)).2) := by
  induction t with
  | @nil x y =>
    intro _ i out g hx q h0 hi hP ho
    have h1 := drop_nil' h0 hi
    refine ⟨g, ?_⟩
    rw [hL, chgs, List.append_nil]
    · by_cases hne : out = []
      · subst hne
        simp -implicitDefEqProofs only [go_sem, reduceIte, reduceCtorEq, Nat.reduceEqDiff, Nat.reduceAdd, Nat.reduceSub, Nat.reduceLT, Nat.reduceLeDiff, Nat.reduceBEq, Nat.reduceMul, Nat.reduceBNe, Int.reduceEq, Int.reduceLT, Int.reduceLE, Int.reduceNe, Int.reduceToNat, ir_usufructref33_Of_L0, h1, bld_nil, ro_ev, ro_st, ro_cm, ro_ch]
      · simp -implicitDefEqProofs only [go_sem, reduceIte, reduceCtorEq, Nat.reduceEqDiff, Nat.reduceAdd, Nat.reduceSub, Nat.reduceLT, Nat.reduceLeDiff, Nat.reduceBEq, Nat.reduceMul, Nat.reduceBNe, Int.reduceEq, Int.reduceLT, Int.reduceLE, Int.reduceNe, Int.reduceToNat, ir_usufructref33_Of_L0, h1, bld_ne hne, ro_ev, ro_st, ro_cm, ro_ch]
    · intro _ _ _; simp
  | @stop x y v r x' y' c e he d1 d2 => intro h; cases h
  | @go x y v r x' y' c T b d1 d2 q' ok gr t ih =>
    intro hb i out g hx q h0 hi hP ho
    obtain ⟨h1, h2, h3, h4, h5⟩ := drop_cons h0
    have h6 := wrap_succ (i := i) (by omega)
    have hP1 : P[i]? = some y := by rw [← List.head?_drop, hP]; rfl
    have hP2 : P.drop (i + 1) = y' :: yT T := by rw [← List.tail_drop, hP]; rfl
    have hP3 : P[i + 1]? = some y' := by rw [← List.head?_drop, hP2]; rfl
    have p1 := fn_phaseRef hE y (q.ok hx).sl v.saga
    have p2 := fn_phaseRef hE y' (q'.ok ok).sl v.saga
    rw [← q.s] at p1
    rw [← q'.s] at p2
    have kn := hg v (List.mem_of_getElem? h1)
    have ho2 : (out.length + 1) * 32 ≤ 140737488355328 := by omega
    have n1 : (0 : Int) ≤ ((i + 1 : Nat) : Int) := by omega
    rw [chgs]
    by_cases k0 : v.kind = 0
    · rw [chg_no (.inl k0), List.nil_append]
      obtain ⟨g', ih⟩ := ih hb (i + 1) out g ok q' h2 h4 hP2 (by omega)
      refine ⟨g', ?_⟩
      rw [← ih, hL]
      have k1 : ¬ (0 : Int) < v.kind := by omega
      by_cases hne : out = []
      · subst hne
        simp -implicitDefEqProofs only [go_sem, reduceIte, reduceCtorEq, Nat.reduceEqDiff, Nat.reduceAdd, Nat.reduceSub, Nat.reduceLT, Nat.reduceLeDiff, Nat.reduceBEq, Nat.reduceMul, Nat.reduceBNe, Int.reduceEq, Int.reduceLT, Int.reduceLE, Int.reduceNe, Int.reduceToNat, ir_usufructref33_Of_L0, h1, h3, h6, lsM, hP1, hP3, n1, EvT.cells, StT.cells, k1, p1, p2, bld_nil, ro_ev, ro_def, ro_sg, ro_step, ro_st, ro_cm, ro_ch, Int.natCast_nonneg]
      · simp -implicitDefEqProofs only [go_sem, reduceIte, reduceCtorEq, Nat.reduceEqDiff, Nat.reduceAdd, Nat.reduceSub, Nat.reduceLT, Nat.reduceLeDiff, Nat.reduceBEq, Nat.reduceMul, Nat.reduceBNe, Int.reduceEq, Int.reduceLT, Int.reduceLE, Int.reduceNe, Int.reduceToNat, ir_usufructref33_Of_L0, h1, h3, h6, lsM, hP1, hP3, n1, EvT.cells, StT.cells, k1, p1, p2, bld_ne hne, ro_ev, ro_def, ro_sg, ro_step, ro_st, ro_cm, ro_ch, Int.natCast_nonneg]
    · have k1 : (0 : Int) < v.kind := by omega
      by_cases pe : phS x.sagas.list v.saga = phS x'.sagas.list v.saga
      · rw [chg_no (.inr pe), List.nil_append]
        obtain ⟨g', ih⟩ := ih hb (i + 1) out g ok q' h2 h4 hP2 (by omega)
        refine ⟨g', ?_⟩
        rw [← ih, hL]
        rw [pe] at p1
        by_cases hne : out = []
        · subst hne
          simp -implicitDefEqProofs only [go_sem, reduceIte, reduceCtorEq, Nat.reduceEqDiff, Nat.reduceAdd, Nat.reduceSub, Nat.reduceLT, Nat.reduceLeDiff, Nat.reduceBEq, Nat.reduceMul, Nat.reduceBNe, Int.reduceEq, Int.reduceLT, Int.reduceLE, Int.reduceNe, Int.reduceToNat, ir_usufructref33_Of_L0, h1, h3, h6, lsM, hP1, hP3, n1, EvT.cells, StT.cells, k1, p1, p2, bld_nil, ro_ev, ro_def, ro_sg, ro_step, ro_st, ro_cm, ro_ch, Int.natCast_nonneg]
        · simp -implicitDefEqProofs only [go_sem, reduceIte, reduceCtorEq, Nat.reduceEqDiff, Nat.reduceAdd, Nat.reduceSub, Nat.reduceLT, Nat.reduceLeDiff, Nat.reduceBEq, Nat.reduceMul, Nat.reduceBNe, Int.reduceEq, Int.reduceLT, Int.reduceLE, Int.reduceNe, Int.reduceToNat, ir_usufructref33_Of_L0, h1, h3, h6, lsM, hP1, hP3, n1, EvT.cells, StT.cells, k1, p1, p2, bld_ne hne, ro_ev, ro_def, ro_sg, ro_step, ro_st, ro_cm, ro_ch, Int.natCast_nonneg]
      · rw [chg_yes k0 pe, ← List.append_assoc]
        by_cases hne : out = []
        · subst hne
          obtain ⟨g', ih⟩ := ih hb (i + 1) [⟨i, v.saga, phS x.sagas.list v.saga, phS x'.sagas.list v.saga⟩] 0 ok q' h2 h4 hP2 (by simp)
          refine ⟨g', ?_⟩
          rw [List.nil_append, ← ih, hL]
          simp -implicitDefEqProofs only [go_sem, reduceIte, reduceCtorEq, Nat.reduceEqDiff, Nat.reduceAdd, Nat.reduceSub, Nat.reduceLT, Nat.reduceLeDiff, Nat.reduceBEq, Nat.reduceMul, Nat.reduceBNe, Int.reduceEq, Int.reduceLT, Int.reduceLE, Int.reduceNe, Int.reduceToNat, ir_usufructref33_Of_L0, h1, h3, h6, lsM, hP1, hP3, n1, EvT.cells, StT.cells, ChT.cells, k1, pe, p1, p2, bld_nil, bld_ne (List.cons_ne_nil _ _), ro_ev, ro_def, ro_sg, ro_step, ro_st, ro_cm, ro_ch, Int.natCast_nonneg]
        · obtain ⟨g', ih⟩ := ih hb (i + 1) (out ++ [⟨i, v.saga, phS x.sagas.list v.saga, phS x'.sagas.list v.saga⟩]) (g + 1) ok q' h2 h4 hP2 (by simp; omega)
          refine ⟨g', ?_⟩
          rw [← ih, hL]
          simp -implicitDefEqProofs only [go_sem, reduceIte, reduceCtorEq, Nat.reduceEqDiff, Nat.reduceAdd, Nat.reduceSub, Nat.reduceLT, Nat.reduceLeDiff, Nat.reduceBEq, Nat.reduceMul, Nat.reduceBNe, Int.reduceEq, Int.reduceLT, Int.reduceLE, Int.reduceNe, Int.reduceToNat, ir_usufructref33_Of_L0, h1, h3, h6, lsM, hP1, hP3, n1, EvT.cells, StT.cells, ChT.cells, k1, pe, p1, p2, bld_ne hne, bld_ne (ne_app out _), ho2, ro_ev, ro_def, ro_sg, ro_step, ro_st, ro_cm, ro_ch, Int.natCast_nonneg]
theorem fn_ofRef {E : Prog} (hE : Std E fns) (l : Sl EvT) (hl : l.list.length ≤ 60) (hg : ∀ v, v ∈ l.list → 0 ≤ v.kind) (P : List StT) (Q : List CmT) (bad : Int) (k : Nat) (hk : k ≤ l.list.length)
    {x y : StT} {T : List (StT × StT × CmT)} (t : Steps E x y (l.list.drop k) T true) (hx : XOK x) (q : Eqv x y) (hP : P.drop k = y :: yT T) :
    callP E f_usufructref33_Of [trA P Q bad, lv l, vi k] = some ((slOf (chgs k x (l.list.drop k) T)).av 4 ChT.cells) := by
  obtain ⟨g, h⟩ := ofRef_loop hE l hl hg P Q bad (loopL_eq (IR.runL E.glob (callL E) [] ir_usufructref33_Of_L0) (compact [] 1 [1, 3, 7, 8])) t rfl k [] 0 hx q rfl hk hP (by simp)
  simp only [bld_nil, List.nil_append, stTr] at h
  generalize chgs k x (l.list.drop k) T = D at h ⊢
  rw [trA, hE.run rfl rfl]
  by_cases hne : D = []
  · subst hne
    simp only [bld_nil] at h
    simp -implicitDefEqProofs only [go_sem, reduceIte, reduceCtorEq, Nat.reduceEqDiff, Nat.reduceAdd, Nat.reduceSub, Nat.reduceLT, Nat.reduceLeDiff, Nat.reduceBEq, Nat.reduceMul, Nat.reduceBNe, Int.reduceEq, Int.reduceLT, Int.reduceLE, Int.reduceNe, Int.reduceToNat, ir_usufructref33_Of, h, ro_ev, ro_st, ro_cm, ro_ch]
    rfl
  · simp only [bld_ne hne, List.length_cons, List.length_nil, List.cons_append, List.nil_append, Nat.zero_add] at h
    rw [slOf_ne hne, avM (f := ChT.cells)]
    simp -implicitDefEqProofs only [go_sem, reduceIte, reduceCtorEq, Nat.reduceEqDiff, Nat.reduceAdd, Nat.reduceSub, Nat.reduceLT, Nat.reduceLeDiff, Nat.reduceBEq, Nat.reduceMul, Nat.reduceBNe, Int.reduceEq, Int.reduceLT, Int.reduceLE, Int.reduceNe, Int.reduceToNat, ir_usufructref33_Of, h, take_map_all, ro_ev, ro_st, ro_cm, ro_ch]
theorem nowR_loop {E : Prog} (hE : Std E fns) (X : StT) (hX : X.sagas.list.length ≤ 1048576) {L : Env × Store → Option (Sig × Env × Store)}
    (hL : ∀ e st, L (e, st) = (IR.runL E.glob (callL E) [] ir_usufructref33_Now_L0 e st).bind (seqK fun e st => L (compact [] 1 [1, 3, 4] e st))) :
    ∀ (rest : List SgT) (i : Nat) (out : List PhT) (g : Nat), X.sagas.list.drop i = rest → i ≤ X.sagas.list.length → out.length ≤ i →
    ∃ g' : Nat, L ([(1, .ref 0 0 0 0), (3, (bld 2 PhT.cells g (stFo X) out).1), (4, vi i)], (bld 2 PhT.cells g (stFo X) out).2) =
      some (.exit 0, [(3, (bld 2 PhT.cells g' (stFo X) (out ++ nowS rest)).1)], (bld 2 PhT.cells g' (stFo X) (out ++ nowS rest)).2)
  | [], i, out, g, h, hi, ho => by
    have h1 := drop_nil' h hi
    refine ⟨g, ?_⟩
    rw [hL, nowS, List.map_nil, List.append_nil]
    by_cases hne : out = []
    · subst hne
      simp -implicitDefEqProofs only [go_sem, reduceIte, reduceCtorEq, Nat.reduceEqDiff, Nat.reduceAdd, Nat.reduceSub, Nat.reduceLT, Nat.reduceLeDiff, Nat.reduceBEq, Nat.reduceMul, Nat.reduceBNe, Int.reduceEq, Int.reduceLT, Int.reduceLE, Int.reduceNe, Int.reduceToNat, ir_usufructref33_Now_L0, h1, bld_nil, ro_def, ro_sg, ro_ph]
    · simp -implicitDefEqProofs only [go_sem, reduceIte, reduceCtorEq, Nat.reduceEqDiff, Nat.reduceAdd, Nat.reduceSub, Nat.reduceLT, Nat.reduceLeDiff, Nat.reduceBEq, Nat.reduceMul, Nat.reduceBNe, Int.reduceEq, Int.reduceLT, Int.reduceLE, Int.reduceNe, Int.reduceToNat, ir_usufructref33_Now_L0, h1, bld_ne hne, ro_def, ro_sg, ro_ph]
  | s :: rest, i, out, g, h, hi, ho => by
    obtain ⟨h1, h2, h3, h4, h5⟩ := drop_cons h
    have h6 := wrap_succ (i := i) (by omega)
    have hb : (out.length + 1) * 16 ≤ 140737488355328 := by omega
    have e : nowS (s :: rest) = [⟨s.id, s.phase⟩] ++ nowS rest := rfl
    rw [e, ← List.append_assoc]
    by_cases hne : out = []
    · subst hne
      obtain ⟨g', ih⟩ := nowR_loop hE X hX hL rest (i + 1) [⟨s.id, s.phase⟩] 0 h2 h4 (by simp)
      refine ⟨g', ?_⟩
      rw [List.nil_append, ← ih, hL]
      simp -implicitDefEqProofs only [go_sem, reduceIte, reduceCtorEq, Nat.reduceEqDiff, Nat.reduceAdd, Nat.reduceSub, Nat.reduceLT, Nat.reduceLeDiff, Nat.reduceBEq, Nat.reduceMul, Nat.reduceBNe, Int.reduceEq, Int.reduceLT, Int.reduceLE, Int.reduceNe, Int.reduceToNat, ir_usufructref33_Now_L0, h1, h3, h6, SgT.cells, PhT.cells, bld_nil, bld_ne (List.cons_ne_nil _ _), ro_def, ro_sg, ro_ph, Int.natCast_nonneg]
    · obtain ⟨g', ih⟩ := nowR_loop hE X hX hL rest (i + 1) (out ++ [⟨s.id, s.phase⟩]) (g + 1) h2 h4 (by simp; omega)
      refine ⟨g', ?_⟩
      rw [← ih, hL]
      simp -implicitDefEqProofs only [go_sem, reduceIte, reduceCtorEq, Nat.reduceEqDiff, Nat.reduceAdd, Nat.reduceSub, Nat.reduceLT, Nat.reduceLeDiff, Nat.reduceBEq, Nat.reduceMul, Nat.reduceBNe, Int.reduceEq, Int.reduceLT, Int.reduceLE, Int.reduceNe, Int.reduceToNat, ir_usufructref33_Now_L0, h1, h3, h6, SgT.cells, PhT.cells, bld_ne hne, bld_ne (ne_app out _), hb, ro_def, ro_sg, ro_ph, Int.natCast_nonneg]
theorem fn_nowRef {E : Prog} (hE : Std E fns) (X : StT) (hX : X.sagas.list.length ≤ 1048576) : callP E f_usufructref33_Now [stA X] = some (nowA (nowS X.sagas.list)) := by
  obtain ⟨g, hl⟩ := nowR_loop hE X hX (loopL_eq (IR.runL E.glob (callL E) [] ir_usufructref33_Now_L0) (compact [] 1 [1, 3, 4])) X.sagas.list 0 [] 0 rfl (by omega) (by simp)
  simp only [Int.natCast_zero, bld_nil, List.nil_append, stFo] at hl
  generalize nowS X.sagas.list = D at *
  rw [nowA, hE.run rfl rfl]
  by_cases hne : D = []
  · subst hne
    simp only [bld_nil] at hl
    simp -implicitDefEqProofs only [go_sem, reduceIte, reduceCtorEq, Nat.reduceEqDiff, Nat.reduceAdd, Nat.reduceSub, Nat.reduceLT, Nat.reduceLeDiff, Nat.reduceBEq, Nat.reduceMul, Nat.reduceBNe, Int.reduceEq, Int.reduceLT, Int.reduceLE, Int.reduceNe, Int.reduceToNat, ir_usufructref33_Now, hl, ro_def, ro_sg, ro_ph]
    rfl
  · simp only [bld_ne hne, List.length_cons, List.length_nil, List.cons_append, List.nil_append, Nat.zero_add] at hl
    rw [slOf_ne hne]
    simp -implicitDefEqProofs only [go_sem, reduceIte, reduceCtorEq, Nat.reduceEqDiff, Nat.reduceAdd, Nat.reduceSub, Nat.reduceLT, Nat.reduceLeDiff, Nat.reduceBEq, Nat.reduceMul, Nat.reduceBNe, Int.reduceEq, Int.reduceLT, Int.reduceLE, Int.reduceNe, Int.reduceToNat, ir_usufructref33_Now, hl, avM, take_map_all, ro_def, ro_sg, ro_ph]
theorem eqL_ch (c : ChT) : eqL [.i, .i, .i, .i] [vi c.at_, vi c.saga, vi c.was, vi c.is_] [vi c.at_, vi c.saga, vi c.was, vi c.is_] = some true := by
  simp only [eqL, eqV, if_true, Bool.and_true, int_beq, beq_self_eq_true, decide_true]
theorem eqL_ph (c : PhT) : eqL [.i, .i] [vi c.saga, vi c.phase] [vi c.saga, vi c.phase] = some true := by
  simp only [eqL, eqV, if_true, Bool.and_true, int_beq, beq_self_eq_true, decide_true]
theorem same_loop {E : Prog} (hE : Std E fns) (a b : Sl ChT) (hab : a.list = b.list) (hl : a.list.length < 9223372036854775807) {L : Env × Store → Option (Sig × Env × Store)}
    (hL : ∀ e st, L (e, st) = (IR.runL E.glob (callL E) [] ir_usufructref33_Same_L0 e st).bind (seqK fun e st => L (compact [] 0 [0, 1, 5] e st))) :
    ∀ (rest : List ChT) (i : Nat), a.list.drop i = rest → i ≤ a.list.length → L ([(0, a.av 4 ChT.cells), (1, b.av 4 ChT.cells), (5, vi i)], []) = some (.exit 0, [], [])
  | [], i, h, hi => by
    have h1 := drop_nil' h hi
    rw [hL]
    simp -implicitDefEqProofs only [go_sem, reduceIte, reduceCtorEq, Nat.reduceEqDiff, Nat.reduceAdd, Nat.reduceSub, Nat.reduceLT, Nat.reduceLeDiff, Nat.reduceBEq, Nat.reduceMul, Nat.reduceBNe, Int.reduceEq, Int.reduceLT, Int.reduceLE, Int.reduceNe, Int.reduceToNat, ir_usufructref33_Same_L0, h1]
  | c :: rest, i, h, hi => by
    obtain ⟨h1, h2, h3, h4, h5⟩ := drop_cons h
    have h6 := wrap_succ (i := i) (by omega)
    have k1 : b.list[i]? = some c := by rw [← hab]; exact h1
    have he := eqL_ch c
    have ih := same_loop hE a b hab hl hL rest (i + 1) h2 h4
    rw [hL]
    simp -implicitDefEqProofs only [go_sem, reduceIte, reduceCtorEq, Nat.reduceEqDiff, Nat.reduceAdd, Nat.reduceSub, Nat.reduceLT, Nat.reduceLeDiff, Nat.reduceBEq, Nat.reduceMul, Nat.reduceBNe, Int.reduceEq, Int.reduceLT, Int.reduceLE, Int.reduceNe, Int.reduceToNat, ir_usufructref33_Same_L0, h1, k1, h3, h6, ChT.cells, he, ih, ro_ch, Int.natCast_nonneg]
theorem fn_same33 {E : Prog} (hE : Std E fns) (a b : Sl ChT) (hab : a.list = b.list) (hl : a.list.length < 9223372036854775807) : callP E f_usufructref33_Same [a.av 4 ChT.cells, b.av 4 ChT.cells] = some (vb true) := by
  have h := same_loop hE a b hab hl (loopL_eq (IR.runL E.glob (callL E) [] ir_usufructref33_Same_L0) (compact [] 0 [0, 1, 5])) a.list 0 rfl (by omega)
  have e : a.list.length = b.list.length := by rw [hab]
  simp only [Int.natCast_zero] at h
  rw [hE.run rfl rfl]
  simp -implicitDefEqProofs only [go_sem, reduceIte, reduceCtorEq, Nat.reduceEqDiff, Nat.reduceAdd, Nat.reduceSub, Nat.reduceLT, Nat.reduceLeDiff, Nat.reduceBEq, Nat.reduceMul, Nat.reduceBNe, Int.reduceEq, Int.reduceLT, Int.reduceLE, Int.reduceNe, Int.reduceToNat, ir_usufructref33_Same, e, h, ro_ch]
theorem one_loop {E : Prog} (hE : Std E fns) (a b : Sl PhT) (hab : a.list = b.list) (hl : a.list.length < 9223372036854775807) {L : Env × Store → Option (Sig × Env × Store)}
    (hL : ∀ e st, L (e, st) = (IR.runL E.glob (callL E) [] ir_usufructref33_One_L0 e st).bind (seqK fun e st => L (compact [] 0 [0, 1, 5] e st))) :
    ∀ (rest : List PhT) (i : Nat), a.list.drop i = rest → i ≤ a.list.length → L ([(0, a.av 2 PhT.cells), (1, b.av 2 PhT.cells), (5, vi i)], []) = some (.exit 0, [], [])
  | [], i, h, hi => by
    have h1 := drop_nil' h hi
    rw [hL]
    simp -implicitDefEqProofs only [go_sem, reduceIte, reduceCtorEq, Nat.reduceEqDiff, Nat.reduceAdd, Nat.reduceSub, Nat.reduceLT, Nat.reduceLeDiff, Nat.reduceBEq, Nat.reduceMul, Nat.reduceBNe, Int.reduceEq, Int.reduceLT, Int.reduceLE, Int.reduceNe, Int.reduceToNat, ir_usufructref33_One_L0, h1]
  | c :: rest, i, h, hi => by
    obtain ⟨h1, h2, h3, h4, h5⟩ := drop_cons h
    have h6 := wrap_succ (i := i) (by omega)
    have k1 : b.list[i]? = some c := by rw [← hab]; exact h1
    have he := eqL_ph c
    have ih := one_loop hE a b hab hl hL rest (i + 1) h2 h4
    rw [hL]
    simp -implicitDefEqProofs only [go_sem, reduceIte, reduceCtorEq, Nat.reduceEqDiff, Nat.reduceAdd, Nat.reduceSub, Nat.reduceLT, Nat.reduceLeDiff, Nat.reduceBEq, Nat.reduceMul, Nat.reduceBNe, Int.reduceEq, Int.reduceLT, Int.reduceLE, Int.reduceNe, Int.reduceToNat, ir_usufructref33_One_L0, h1, k1, h3, h6, PhT.cells, he, ih, ro_ph, Int.natCast_nonneg]
theorem fn_one {E : Prog} (hE : Std E fns) (a b : Sl PhT) (hab : a.list = b.list) (hl : a.list.length < 9223372036854775807) : callP E f_usufructref33_One [a.av 2 PhT.cells, b.av 2 PhT.cells] = some (vb true) := by
  have h := one_loop hE a b hab hl (loopL_eq (IR.runL E.glob (callL E) [] ir_usufructref33_One_L0) (compact [] 0 [0, 1, 5])) a.list 0 rfl (by omega)
  have e : a.list.length = b.list.length := by rw [hab]
  simp only [Int.natCast_zero] at h
  rw [hE.run rfl rfl]
  simp -implicitDefEqProofs only [go_sem, reduceIte, reduceCtorEq, Nat.reduceEqDiff, Nat.reduceAdd, Nat.reduceSub, Nat.reduceLT, Nat.reduceLeDiff, Nat.reduceBEq, Nat.reduceMul, Nat.reduceBNe, Int.reduceEq, Int.reduceLT, Int.reduceLE, Int.reduceNe, Int.reduceToNat, ir_usufructref33_One, e, h, ro_ph]
theorem few_loop {E : Prog} (hE : Std E fns) (l : Sl EvT) (hl : l.list.length ≤ 60) {L : Env × Store → Option (Sig × Env × Store)}
    (hL : ∀ e st, L (e, st) = (IR.runL E.glob (callL E) [] ir_usufructlaw33_few_L0 e st).bind (seqK fun e st => L (compact [] 0 [0, 3] e st))) :
    ∀ (rest : List EvT) (i : Nat), l.list.drop i = rest → i ≤ l.list.length → ((∀ v, v ∈ rest → shortS v = 0) ∧ L ([(0, lv l), (3, vi i)], []) = some (.exit 0, [], [])) ∨ L ([(0, lv l), (3, vi i)], []) = some (.ret, [(2, vb false)], [])
  | [], i, h, hi => by
    have h1 := drop_nil' h hi
    refine .inl ⟨fun v h => (by cases h), ?_⟩
    rw [hL]
    simp -implicitDefEqProofs only [go_sem, reduceIte, reduceCtorEq, Nat.reduceEqDiff, Nat.reduceAdd, Nat.reduceSub, Nat.reduceLT, Nat.reduceLeDiff, Nat.reduceBEq, Nat.reduceMul, Nat.reduceBNe, Int.reduceEq, Int.reduceLT, Int.reduceLE, Int.reduceNe, Int.reduceToNat, ir_usufructlaw33_few_L0, h1]
  | v :: rest, i, h, hi => by
    obtain ⟨h1, h2, h3, h4, h5⟩ := drop_cons h
    have h6 := wrap_succ (i := i) (by omega)
    have hs := fn_short hE v
    by_cases c : shortS v = 0
    · rw [c] at hs
      have run : L ([(0, lv l), (3, vi i)], []) = L ([(0, lv l), (3, vi ((i + 1 : Nat) : Int))], []) := by
        rw [hL]
        simp -implicitDefEqProofs only [go_sem, reduceIte, reduceCtorEq, Nat.reduceEqDiff, Nat.reduceAdd, Nat.reduceSub, Nat.reduceLT, Nat.reduceLeDiff, Nat.reduceBEq, Nat.reduceMul, Nat.reduceBNe, Int.reduceEq, Int.reduceLT, Int.reduceLE, Int.reduceNe, Int.reduceToNat, ir_usufructlaw33_few_L0, h1, h3, h6, EvT.cells, hs, ro_ev, ro_step, Int.natCast_nonneg]
      rw [run]
      rcases few_loop hE l hl hL rest (i + 1) h2 h4 with ⟨a, b⟩ | b
      · refine .inl ⟨fun w hw => ?_, b⟩
        rcases List.mem_cons.1 hw with rfl | hw
        · exact c
        · exact a w hw
      · exact .inr b
    · refine .inr ?_
      rw [hL]
      simp -implicitDefEqProofs only [go_sem, reduceIte, reduceCtorEq, Nat.reduceEqDiff, Nat.reduceAdd, Nat.reduceSub, Nat.reduceLT, Nat.reduceLeDiff, Nat.reduceBEq, Nat.reduceMul, Nat.reduceBNe, Int.reduceEq, Int.reduceLT, Int.reduceLE, Int.reduceNe, Int.reduceToNat, ir_usufructlaw33_few_L0, h1, h3, h6, EvT.cells, hs, c, ro_ev, ro_step, Int.natCast_nonneg]
theorem fn_few {E : Prog} (hE : Std E fns) (l : Sl EvT) (hb : l.list.length < 9223372036854775808) : (l.list.length ≤ 60 ∧ (∀ v, v ∈ l.list → shortS v = 0) ∧ callP E f_usufructlaw33_few [lv l] = some (vb true)) ∨ callP E f_usufructlaw33_few [lv l] = some (vb false) := by
  by_cases c : (60 : Int) < (l.list.length : Int)
  · refine .inr ?_
    rw [hE.run rfl rfl]
    simp -implicitDefEqProofs only [go_sem, reduceIte, reduceCtorEq, Nat.reduceEqDiff, Nat.reduceAdd, Nat.reduceSub, Nat.reduceLT, Nat.reduceLeDiff, Nat.reduceBEq, Nat.reduceMul, Nat.reduceBNe, Int.reduceEq, Int.reduceLT, Int.reduceLE, Int.reduceNe, Int.reduceToNat, ir_usufructlaw33_few, c, ro_ev]
  · rcases few_loop hE l (by omega) (loopL_eq (IR.runL E.glob (callL E) [] ir_usufructlaw33_few_L0) (compact [] 0 [0, 3])) l.list 0 rfl (by omega) with ⟨a, h⟩ | h
    · refine .inl ⟨by omega, a, ?_⟩
      simp only [Int.natCast_zero] at h
      rw [hE.run rfl rfl]
      simp -implicitDefEqProofs only [go_sem, reduceIte, reduceCtorEq, Nat.reduceEqDiff, Nat.reduceAdd, Nat.reduceSub, Nat.reduceLT, Nat.reduceLeDiff, Nat.reduceBEq, Nat.reduceMul, Nat.reduceBNe, Int.reduceEq, Int.reduceLT, Int.reduceLE, Int.reduceNe, Int.reduceToNat, ir_usufructlaw33_few, c, h, ro_ev]
    · refine .inr ?_
      simp only [Int.natCast_zero] at h
      rw [hE.run rfl rfl]
      simp -implicitDefEqProofs only [go_sem, reduceIte, reduceCtorEq, Nat.reduceEqDiff, Nat.reduceAdd, Nat.reduceSub, Nat.reduceLT, Nat.reduceLeDiff, Nat.reduceBEq, Nat.reduceMul, Nat.reduceBNe, Int.reduceEq, Int.reduceLT, Int.reduceLE, Int.reduceNe, Int.reduceToNat, ir_usufructlaw33_few, c, h, ro_ev]
end Go.Proofs.YtjidmpcgkcaeaaaGreatDoor.Ev
