import Derived.Test.YtjidmpcgkcaeaaaGreatDoorEvSa
import Derived.Test.YtjidmpcgkcaeaaaGreatDoorEvSg21
set_option linter.unusedVariables false
set_option linter.unusedSimpArgs false
namespace Go.Proofs.YtjidmpcgkcaeaaaGreatDoor.Ev
attribute [local congr] bind_congr_head
attribute [local go_sem] AV.cells AV.tuple elems boxQ callN_any compact_same compact_new aggOf
abbrev limS : Int := 1048576
inductive Steps (E : Prog) : StT → StT → List EvT → List (StT × StT × CmT) → Bool → Prop
  | nil {x y : StT} : Steps E x y [] [] true
  | stop {x y : StT} {v : EvT} {r : List EvT} {x' y' : StT} {c : CmT} {e : Int} (he : e ≠ 0) (h1 : callP E f_state_Do [stA x, vA v, vi limS] = some (ansA x' c e)) (h2 : callP E f_usufructref16_Do [stA y, vA v, vi limS] = some (ansA y' c e)) : Steps E x y (v :: r) [] false
  | go {x y : StT} {v : EvT} {r : List EvT} {x' y' : StT} {c : CmT} {T : List (StT × StT × CmT)} {b : Bool} (h1 : callP E f_state_Do [stA x, vA v, vi limS] = some (ansA x' c 0)) (h2 : callP E f_usufructref16_Do [stA y, vA v, vi limS] = some (ansA y' c 0))
      (q : Eqv x' y') (ok : XOK x') (g : Grow x x' v 0) (t : Steps E x' y' r T b) : Steps E x y (v :: r) ((x', y', c) :: T) b
theorem steps_ex {E : Prog} (hk : LOK E) : ∀ (l : List EvT) (x y : StT), XOK x → NN x → Eqv x y → (∀ v, v ∈ l → shortS v = 0) → ∃ (T : List (StT × StT × CmT)) (b : Bool), Steps E x y l T b
  | [], x, y, _, _, _, _ => ⟨[], true, .nil⟩
  | v :: r, x, y, hx, hn, q, hs => by
    obtain ⟨s1, s2⟩ := short_ev (hs v List.mem_cons_self)
    obtain ⟨x', y', c, e, d1, d2, q', ok', nn', g, _⟩ := do_both hk.hE hk.hv hk.hi hk.hin hk.hdl x y hx hn q v s1 s2 limS
    by_cases he : e = 0
    · subst he
      obtain ⟨T, b, t⟩ := steps_ex hk r x' y' ok' nn' q' fun w hw => hs w (List.mem_cons_of_mem _ hw)
      exact ⟨(x', y', c) :: T, b, .go d1 d2 q' ok' g t⟩
    · exact ⟨[], false, .stop he d1 d2⟩
def lastX (x : StT) : List (StT × StT × CmT) → StT
  | [] => x
  | (x', _, _) :: T => lastX x' T
def lastY (y : StT) : List (StT × StT × CmT) → StT
  | [] => y
  | (_, y', _) :: T => lastY y' T
theorem steps_last {E : Prog} {x y : StT} {l : List EvT} {T : List (StT × StT × CmT)} {b : Bool} (t : Steps E x y l T b) : Eqv x y → XOK x → Eqv (lastX x T) (lastY y T) ∧ XOK (lastX x T) := by
  induction t with
  | nil => exact fun q h => ⟨q, h⟩
  | stop => exact fun q h => ⟨q, h⟩
  | go _ _ q ok _ _ ih => exact fun _ _ => ih q ok
theorem steps_len {E : Prog} {x y : StT} {l : List EvT} {T : List (StT × StT × CmT)} (t : Steps E x y l T true) : T.length = l.length := by
  generalize hb : true = b at t
  induction t with
  | nil => rfl
  | stop => cases hb
  | go _ _ _ _ _ _ ih => simp only [List.length_cons, ih hb]
def zeroS : SgT := ⟨0, eTx, 0, 0, 0, 0, false, 0, 0⟩
def sgAt (S : List SgT) (k : Int) : SgT × Bool := match S[(fidx (isId k) S 0).toNat]? with | some s => if 0 ≤ fidx (isId k) S 0 then (s, true) else (zeroS, false) | none => (zeroS, false)
theorem sgAt_no {S : List SgT} {k : Int} (h : fidx (isId k) S 0 = -1) : sgAt S k = (zeroS, false) := by
  unfold sgAt
  rw [h]
  split <;> simp
theorem sgAt_yes {S : List SgT} {k : Int} {i : Nat} {s : SgT} (h : fidx (isId k) S 0 = (i : Int)) (hs : S[i]? = some s) : sgAt S k = (s, true) := by
  unfold sgAt
  rw [h, Int.toNat_natCast, hs]
  simp
def phS (S : List SgT) (k : Int) : Int := if (sgAt S k).2 = true then (sgAt S k).1.phase else -1
theorem fn_stFind {E : Prog} (hE : Std E fns) (x : StT) (hl : x.sagas.list.length ≤ 1048576) (k : Int) : callP E f_state_Find [stA x, vi k] = some (.tup [sA (sgAt x.sagas.list k).1, vb (sgAt x.sagas.list k).2]) := by
  have hf := fn_findS hE k x.sagas (by omega)
  rw [hE.run rfl rfl]
  rcases fidx_cases (isId k) x.sagas.list 0 with ⟨h1, _⟩ | ⟨i, s, h1, h2, _, _⟩
  · rw [h1] at hf
    rw [sgAt_no h1]
    simp -implicitDefEqProofs only [go_sem, reduceIte, reduceCtorEq, Nat.reduceEqDiff, Nat.reduceAdd, Nat.reduceSub, Nat.reduceLT, Nat.reduceLeDiff, Nat.reduceBEq, Nat.reduceMul, Nat.reduceBNe, Int.reduceEq, Int.reduceLT, Int.reduceLE, Int.reduceNe, Int.reduceToNat, ir_state_Find, hf, ro_def, ro_sg]
    try rfl
  · rw [Nat.zero_add] at h1
    rw [h1] at hf
    rw [sgAt_yes h1 h2]
    have h3 : ¬ ((i : Int) < 0) := by omega
    simp -implicitDefEqProofs only [go_sem, reduceIte, reduceCtorEq, Nat.reduceEqDiff, Nat.reduceAdd, Nat.reduceSub, Nat.reduceLT, Nat.reduceLeDiff, Nat.reduceBEq, Nat.reduceMul, Nat.reduceBNe, Int.reduceEq, Int.reduceLT, Int.reduceLE, Int.reduceNe, Int.reduceToNat, ir_state_Find, hf, h2, h3, ro_def, ro_sg, Int.natCast_nonneg, SgT.cells]
theorem fn_fdPhase {E : Prog} (hE : Std E fns) (x : StT) (hl : x.sagas.list.length ≤ 1048576) (k : Int) : callP E f_feed_phase [stA x, vi k] = some (vi (phS x.sagas.list k)) := by
  have hf := fn_stFind hE x hl k
  unfold phS
  rw [hE.run rfl rfl]
  cases hb : (sgAt x.sagas.list k).2 with
  | false =>
    rw [hb] at hf
    simp -implicitDefEqProofs only [go_sem, reduceIte, reduceCtorEq, Nat.reduceEqDiff, Nat.reduceAdd, Nat.reduceSub, Nat.reduceLT, Nat.reduceLeDiff, Nat.reduceBEq, Nat.reduceMul, Nat.reduceBNe, Int.reduceEq, Int.reduceLT, Int.reduceLE, Int.reduceNe, Int.reduceToNat, ir_feed_phase, hf, ro_def, ro_sg]
  | true =>
    rw [hb] at hf
    simp -implicitDefEqProofs only [go_sem, reduceIte, reduceCtorEq, Nat.reduceEqDiff, Nat.reduceAdd, Nat.reduceSub, Nat.reduceLT, Nat.reduceLeDiff, Nat.reduceBEq, Nat.reduceMul, Nat.reduceBNe, Int.reduceEq, Int.reduceLT, Int.reduceLE, Int.reduceNe, Int.reduceToNat, ir_feed_phase, hf, ro_def, ro_sg]
theorem fn_phaseRef {E : Prog} (hE : Std E fns) (x : StT) (hl : x.sagas.list.length ≤ 1048576) (k : Int) : callP E f_usufructref33_phase [stA x, vi k] = some (vi (phS x.sagas.list k)) := by
  have hf := fn_refFind hE x k hl
  unfold phS
  rw [hE.run rfl rfl]
  rcases fidx_cases (isId k) x.sagas.list 0 with ⟨h1, _⟩ | ⟨i, s, h1, h2, _, _⟩
  · rw [h1] at hf
    rw [sgAt_no h1]
    simp -implicitDefEqProofs only [go_sem, reduceIte, reduceCtorEq, Nat.reduceEqDiff, Nat.reduceAdd, Nat.reduceSub, Nat.reduceLT, Nat.reduceLeDiff, Nat.reduceBEq, Nat.reduceMul, Nat.reduceBNe, Int.reduceEq, Int.reduceLT, Int.reduceLE, Int.reduceNe, Int.reduceToNat, ir_usufructref33_phase, hf, ro_def, ro_sg]
    try rfl
  · rw [Nat.zero_add] at h1
    rw [h1] at hf
    rw [sgAt_yes h1 h2]
    have h3 : ¬ ((i : Int) < 0) := by omega
    simp -implicitDefEqProofs only [go_sem, reduceIte, reduceCtorEq, Nat.reduceEqDiff, Nat.reduceAdd, Nat.reduceSub, Nat.reduceLT, Nat.reduceLeDiff, Nat.reduceBEq, Nat.reduceMul, Nat.reduceBNe, Int.reduceEq, Int.reduceLT, Int.reduceLE, Int.reduceNe, Int.reduceToNat, ir_usufructref33_phase, hf, h2, h3, ro_def, ro_sg, Int.natCast_nonneg, SgT.cells]
end Go.Proofs.YtjidmpcgkcaeaaaGreatDoor.Ev
