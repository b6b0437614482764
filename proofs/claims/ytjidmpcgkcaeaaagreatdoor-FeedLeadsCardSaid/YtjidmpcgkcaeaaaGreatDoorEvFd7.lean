import Derived.Test.YtjidmpcgkcaeaaaGreatDoorEvSa
import Derived.Test.YtjidmpcgkcaeaaaGreatDoorEvFd5
set_option linter.unusedVariables false
set_option linter.unusedSectionVars false
set_option linter.unusedSimpArgs false
namespace Go.Proofs.YtjidmpcgkcaeaaaGreatDoor.Ev
attribute [local congr] bind_congr_head
attribute [local go_sem] AV.cells AV.tuple elems boxQ callN_any compact_same compact_new aggOf
theorem eqL_ph (c : PhT) : eqL [.i, .i] [vi c.saga, vi c.phase] [vi c.saga, vi c.phase] = some true := by
  simp only [eqL, eqV, if_true, Bool.and_true, int_beq, beq_self_eq_true, decide_true]
theorem one_loop {E : Prog} (hE : Std E fns) (a b : Sl PhT) (hab : a.list = b.list) (hl : a.list.length < 9223372036854775807) {L : Env × Store → Option (Sig × Env × Store)}
    (hL : ∀ e st, L (e, st) = (IR.runL E.glob (callL E) [] ir_usufructref33_One_L0 e st).bind (seqK fun e st => L (compact [] 0 [0, 1, 5] e st))) :
    ∀ (rest : List PhT) (i : Nat), a.list.drop i = rest → i ≤ a.list.length → L ([(0, a.av 2 PhT.cells), (1, b.av 2 PhT.cells), (5, vi i)], []) = some (.exit 0, [], [])
  | [], i, h, hi => by
    have h1 := drop_nil' h hi
    rw [hL]
    simp -implicitDefEqProofs only [go_sem, ir_usufructref33_One_L0, h1]
  | c :: rest, i, h, hi => by
    obtain ⟨h1, h2, h3, h4, h5⟩ := drop_cons h
    have h6 := wrap_succ (i := i) (by omega)
    have k1 : b.list[i]? = some c := by rw [← hab]; exact h1
    have he := eqL_ph c
    have ih := one_loop hE a b hab hl hL rest (i + 1) h2 h4
    rw [hL]
    simp -implicitDefEqProofs only [go_sem, ir_usufructref33_One_L0, h1, k1, h3, h6, PhT.cells, he, ih, ro_ph, Int.natCast_nonneg]
theorem fn_one {E : Prog} (hE : Std E fns) (a b : Sl PhT) (hab : a.list = b.list) (hl : a.list.length < 9223372036854775807) : callP E f_usufructref33_One [a.av 2 PhT.cells, b.av 2 PhT.cells] = some (vb true) := by
  have h := one_loop hE a b hab hl (loopL_eq (IR.runL E.glob (callL E) [] ir_usufructref33_One_L0) (compact [] 0 [0, 1, 5])) a.list 0 rfl (by omega)
  have e : a.list.length = b.list.length := by rw [hab]
  simp only [Int.natCast_zero] at h
  rw [hE.run rfl rfl]
  simp -implicitDefEqProofs only [go_sem, ir_usufructref33_One, e, h, ro_ph]
theorem few_loop {E : Prog} (hE : Std E fns) (l : Sl EvT) (hl : l.list.length ≤ 60) {L : Env × Store → Option (Sig × Env × Store)}
    (hL : ∀ e st, L (e, st) = (IR.runL E.glob (callL E) [] ir_usufructlaw33_few_L0 e st).bind (seqK fun e st => L (compact [] 0 [0, 3] e st))) :
    ∀ (rest : List EvT) (i : Nat), l.list.drop i = rest → i ≤ l.list.length → ((∀ v, v ∈ rest → shortS v = 0) ∧ L ([(0, lv l), (3, vi i)], []) = some (.exit 0, [], [])) ∨ L ([(0, lv l), (3, vi i)], []) = some (.ret, [(2, vb false)], [])
  | [], i, h, hi => by
    have h1 := drop_nil' h hi
    refine .inl ⟨fun v h => (by cases h), ?_⟩
    rw [hL]
    simp -implicitDefEqProofs only [go_sem, ir_usufructlaw33_few_L0, h1]
  | v :: rest, i, h, hi => by
    obtain ⟨h1, h2, h3, h4, h5⟩ := drop_cons h
    have h6 := wrap_succ (i := i) (by omega)
    have hs := fn_short hE v
    by_cases c : shortS v = 0
    · rw [c] at hs
      have run : L ([(0, lv l), (3, vi i)], []) = L ([(0, lv l), (3, vi ((i + 1 : Nat) : Int))], []) := by
        rw [hL]
        simp -implicitDefEqProofs only [go_sem, ir_usufructlaw33_few_L0, h1, h3, h6, EvT.cells, hs, ro_ev, ro_step, Int.natCast_nonneg]
      rw [run]
      rcases few_loop hE l hl hL rest (i + 1) h2 h4 with ⟨a, b⟩ | b
      · refine .inl ⟨fun w hw => ?_, b⟩
        rcases List.mem_cons.1 hw with rfl | hw
        · exact c
        · exact a w hw
      · exact .inr b
    · refine .inr ?_
      rw [hL]
      simp -implicitDefEqProofs only [go_sem, ir_usufructlaw33_few_L0, h1, h3, h6, EvT.cells, hs, c, ro_ev, ro_step, Int.natCast_nonneg]
theorem fn_few {E : Prog} (hE : Std E fns) (l : Sl EvT) (hb : l.list.length < 9223372036854775808) : (l.list.length ≤ 60 ∧ (∀ v, v ∈ l.list → shortS v = 0) ∧ callP E f_usufructlaw33_few [lv l] = some (vb true)) ∨ callP E f_usufructlaw33_few [lv l] = some (vb false) := by
  by_cases c : (60 : Int) < (l.list.length : Int)
  · refine .inr ?_
    rw [hE.run rfl rfl]
    simp -implicitDefEqProofs only [go_sem, ir_usufructlaw33_few, c, ro_ev]
  · rcases few_loop hE l (by omega) (loopL_eq (IR.runL E.glob (callL E) [] ir_usufructlaw33_few_L0) (compact [] 0 [0, 3])) l.list 0 rfl (by omega) with ⟨a, h⟩ | h
    · refine .inl ⟨by omega, a, ?_⟩
      simp only [Int.natCast_zero] at h
      rw [hE.run rfl rfl]
      simp -implicitDefEqProofs only [go_sem, ir_usufructlaw33_few, c, h, ro_ev]
    · refine .inr ?_
      simp only [Int.natCast_zero] at h
      rw [hE.run rfl rfl]
      simp -implicitDefEqProofs only [go_sem, ir_usufructlaw33_few, c, h, ro_ev]
end Go.Proofs.YtjidmpcgkcaeaaaGreatDoor.Ev
