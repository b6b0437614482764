import Derived.Test.YtoobogpbejdocaaGreatDoorEvSa
import Derived.Test.YtoobogpbejdocaaGreatDoorEvHi10
set_option linter.unusedVariables false
set_option linter.unusedSectionVars false
set_option linter.unusedSimpArgs false
namespace Go.Proofs.YtoobogpbejdocaaGreatDoor.Ev
attribute [local congr] bind_congr_head
attribute [local go_sem] AV.cells AV.tuple elems boxQ callN_any compact_same compact_new aggOf
theorem few_loop {E : Prog} (hE : Std E fns) (l : Sl EvT) (hl : l.list.length ≤ 60) {L : Env × Store → Option (Sig × Env × Store)}
    (hL : ∀ e st, L (e, st) = (IR.runL E.glob (callL E) [] ir_usufructlaw27_few_L0 e st).bind (seqK fun e st => L (compact [] 0 [0, 3] e st))) :
    ∀ (rest : List EvT) (i : Nat), l.list.drop i = rest → i ≤ l.list.length → ((∀ v, v ∈ rest → shortS v = 0) ∧ L ([(0, lv l), (3, vi i)], []) = some (.exit 0, [], [])) ∨ L ([(0, lv l), (3, vi i)], []) = some (.ret, [(2, vb false)], [])
  | [], i, h, hi => by
    have h1 := drop_nil' h hi
    refine .inl ⟨fun v h => (by cases h), ?_⟩
    rw [hL]
    simp -implicitDefEqProofs only [go_sem, ir_usufructlaw27_few_L0, h1]
  | v :: rest, i, h, hi => by
    obtain ⟨h1, h2, h3, h4, h5⟩ := drop_cons h
    have h6 := wrap_succ (i := i) (by omega)
    have hs := fn_short hE v
    by_cases c : shortS v = 0
    · rw [c] at hs
      have run : L ([(0, lv l), (3, vi i)], []) = L ([(0, lv l), (3, vi ((i + 1 : Nat) : Int))], []) := by
        rw [hL]
        simp -implicitDefEqProofs only [go_sem, ir_usufructlaw27_few_L0, h1, h3, h6, EvT.cells, hs, ro_ev, ro_step, Int.natCast_nonneg]
      rw [run]
      rcases few_loop hE l hl hL rest (i + 1) h2 h4 with ⟨a, b⟩ | b
      · refine .inl ⟨fun w hw => ?_, b⟩
        rcases List.mem_cons.1 hw with rfl | hw
        · exact c
        · exact a w hw
      · exact .inr b
    · refine .inr ?_
      rw [hL]
      simp -implicitDefEqProofs only [go_sem, ir_usufructlaw27_few_L0, h1, h3, h6, EvT.cells, hs, c, ro_ev, ro_step, Int.natCast_nonneg]
theorem fn_few {E : Prog} (hE : Std E fns) (l : Sl EvT) (hb : l.list.length < 9223372036854775808) : (l.list.length ≤ 60 ∧ (∀ v, v ∈ l.list → shortS v = 0) ∧ callP E f_usufructlaw27_few [lv l] = some (vb true)) ∨ callP E f_usufructlaw27_few [lv l] = some (vb false) := by
  by_cases c : (60 : Int) < (l.list.length : Int)
  · refine .inr ?_
    rw [hE.run rfl rfl]
    simp -implicitDefEqProofs only [go_sem, ir_usufructlaw27_few, c, ro_ev]
  · rcases few_loop hE l (by omega) (loopL_eq (IR.runL E.glob (callL E) [] ir_usufructlaw27_few_L0) (compact [] 0 [0, 3])) l.list 0 rfl (by omega) with ⟨a, h⟩ | h
    · refine .inl ⟨by omega, a, ?_⟩
      simp only [Int.natCast_zero] at h
      rw [hE.run rfl rfl]
      simp -implicitDefEqProofs only [go_sem, ir_usufructlaw27_few, c, h, ro_ev]
    · refine .inr ?_
      simp only [Int.natCast_zero] at h
      rw [hE.run rfl rfl]
      simp -implicitDefEqProofs only [go_sem, ir_usufructlaw27_few, c, h, ro_ev]
theorem ba_same {a b : List UInt8} : (BA a = BA b) = (a = b) := propext ba_inj
abbrev trB (P : List StT) (Q : List CmT) (bad : Int) : Store := [.box [(Sl.mk P).av 3 StT.cells, (slOf Q).av 6 CmT.cells, vi bad]]
theorem cnt_le (n : Nat) : ∀ M : List MoT, cntL M n ≤ M.length
  | [] => by rw [cnt_nil]; exact Nat.le_refl _
  | m :: r => by
    have := cnt_le n r
    rw [cnt_cons, List.length_cons]
    split <;> omega
theorem pre_loop {E : Prog} (hE : Std E fns) (l : Sl EvT) (st : Store) (hst : st = st) (P : List StT) (Q : List CmT) (a b : Sl (List UInt8)) (S : List (List UInt8)) (ha : a.list.length ≤ 60) {L : Env × Store → Option (Sig × Env × Store)}
    (hL : ∀ e st, L (e, st) = (IR.runL E.glob (callL E) [] ir_usufructlaw27_HistoryFewer_L1 e st).bind (seqK fun e st => L (compact [] 1 [0, 5, 6, 7, 8] e st))) :
    ∀ (rest : List (List UInt8)) (i : Nat), a.list.drop i = rest → i ≤ a.list.length → b.list.drop i = rest ++ S →
    L ([(0, lv l), (5, .ref 0 0 0 0), (6, a.av 1 tx), (7, b.av 1 tx), (8, vi i)], trB P Q (-1)) = some (.exit 0, [(0, lv l), (5, .ref 0 0 0 0), (7, b.av 1 tx)], trB P Q (-1))
  | [], i, h0, hi, hb => by
    have h1 := drop_nil' h0 hi
    rw [hL]
    simp -implicitDefEqProofs only [go_sem, ir_usufructlaw27_HistoryFewer_L1, h1, ro_ev, ro_st, ro_cm, ro_tx]
  | z :: rest, i, h0, hi, hb => by
    obtain ⟨h1, h2, h3, h4, h5⟩ := drop_cons h0
    rw [List.cons_append] at hb
    obtain ⟨b1, b2, b3, b4, b5⟩ := drop_cons hb
    have h6 := wrap_succ (i := i) (by omega)
    have ih := pre_loop hE l st hst P Q a b S ha hL rest (i + 1) h2 h4 b2
    rw [← ih, hL]
    simp -implicitDefEqProofs only [go_sem, ir_usufructlaw27_HistoryFewer_L1, h1, h3, h6, b1, b3, tx, ba_same, ro_ev, ro_st, ro_cm, ro_tx, Int.natCast_nonneg]
theorem cnt_loop {E : Prog} (hE : Std E fns) (l : Sl EvT) (P : List StT) (Q : List CmT) (b : Sl (List UInt8)) (M : List MoT) (hM : M.length ≤ 60) (y : StT) (hy : P[l.list.length]? = some y) (N : Nat) (hN : y.next = (N : Int)) (hN2 : N ≤ 60) (hl : l.list.length ≤ 60)
    (hof : ∀ id : Int, callP E f_history_Of [lv l, vi id] = some ((slOf (ofR id M)).av 1 tx)) {L : Env × Store → Option (Sig × Env × Store)}
    (hL : ∀ e st, L (e, st) = (IR.runL E.glob (callL E) [] ir_usufructlaw27_HistoryFewer_L0 e st).bind (seqK fun e st => L (compact [] 1 [0, 5, 7, 9, 10] e st))) :
    ∀ (r i : Nat), i + r = N →
    L ([(0, lv l), (5, .ref 0 0 0 0), (7, b.av 1 tx), (9, vi (cntL M i)), (10, vi i)], trB P Q (-1)) = some (.exit 2, [(7, b.av 1 tx), (9, vi (cntL M N))], trB P Q (-1))
  | 0, i, h => by
    have hi : i = N := by omega
    subst hi
    have w : ¬ ((i : Int) < (i : Int)) := by omega
    rw [hL]
    simp -implicitDefEqProofs only [go_sem, ir_usufructlaw27_HistoryFewer_L0, lsM, hy, StT.cells, hN, w, ro_ev, ro_def, ro_sg, ro_st, ro_cm, ro_tx, Int.natCast_nonneg]
  | r + 1, i, h => by
    have w : (i : Int) < (N : Int) := by omega
    have h6 := wrap_succ (i := i) (by omega)
    have h7 : IntKind.i64.wrap ((cntL M i : Int) + ((ofR (i : Int) M).length : Int)) = ((cntL M (i + 1) : Nat) : Int) := by
      have h1 := cnt_le (i + 1) M
      rw [cntL] at h1 ⊢
      rw [IntWalk.i64_in _ (by omega)]
      omega
    have ih := cnt_loop hE l P Q b M hM y hy N hN hN2 hl hof hL r (i + 1) (by omega)
    have hO := hof i
    rw [← ih, hL]
    simp -implicitDefEqProofs only [go_sem, ir_usufructlaw27_HistoryFewer_L0, lsM, hy, StT.cells, hN, w, h6, h7, hO, slOf_list, ro_ev, ro_def, ro_sg, ro_st, ro_cm, ro_tx, Int.natCast_nonneg]
theorem last_at : ∀ (T : List (StT × StT × CmT)) (y : StT), (y :: yT T)[T.length]? = some (lastY y T)
  | [], y => rfl
  | (x', y', c) :: T, y => by
    have := last_at T y'
    simpa [lastY] using this
set_option maxHeartbeats 4000000 in
theorem fn_HistoryFewer {E : Prog} (hk : LOK E) (hg0 : E.glob 0 = some phTab) (hlp : LpO E) (hw : callP E f_usufructlaw27_awake [] = some (vb true)) (l : Sl EvT) (hb : l.list.length < 9223372036854775808) (u : Int) (u0 : 0 ≤ u) (u1 : u ≤ 255) :
    callP E f_usufructlaw27_HistoryFewer [lv l, .v (.int .u8 u)] = some (vb true) := by
  have hE := hk.hE
  rcases fn_few hE l hb with ⟨hl, hs, hf⟩ | hf
  · obtain ⟨T, b, t⟩ := steps_ex hk l.list x0 x0 gok0 (fun _ => rfl) ⟨rfl, rfl, rfl⟩ hs
    obtain ⟨P, Q, bad, ht, f1, f2⟩ := fn_trail hE l hl t
    unfold trA at ht
    cases b with
    | false =>
      have hbad := f2 rfl
      rw [hE.run rfl rfl]
      simp -implicitDefEqProofs only [go_sem, ir_usufructlaw27_HistoryFewer, hw, hf, ht, hbad, ro_ev, ro_st, ro_cm]
      try rfl
    | true =>
      obtain ⟨hP, _, rfl⟩ := f1 rfl
      have hof := fun id => fn_Of hE hk.hi hg0 hlp l hl hs t id
      have hal := fn_All hE hk.hi hg0 hlp l hl hs t
      simp only [if_true] at hof hal
      have hml := mos_len x0 l.list T
      have hall := allR_len (mosL x0 l.list T)
      obtain ⟨k, hkk⟩ : ∃ k : Nat, k = u.toNat % (l.list.length + 1) := ⟨_, rfl⟩
      have hk1 : k ≤ l.list.length := by
        have := Nat.mod_lt u.toNat (show 0 < l.list.length + 1 by omega)
        omega
      have htm : Int.tmod u ((l.list.length + 1 : Nat) : Int) = (k : Int) := by
        rw [Int.tmod_eq_emod_of_nonneg u0, hkk, Int.natCast_emod, Int.toNat_of_nonneg u0]
      have wu : IntKind.i64.wrap u = u := IntWalk.i64_in _ (by omega)
      have w1 := wrap_succ (i := l.list.length) (by omega)
      have wk : IntKind.i64.wrap (k : Int) = (k : Int) := IntWalk.i64_in _ (by omega)
      have hsub : (l.sub 0 k).list = l.list.take k := by rw [sub_list]; simp
      obtain ⟨t2, m2⟩ := steps_take k t
      rw [← hsub] at t2
      have hal2 := fn_All hE hk.hi hg0 hlp (l.sub 0 k) (by rw [hsub, List.length_take]; omega) (fun v hv => hs v (by rw [hsub] at hv; exact List.mem_of_mem_take hv)) t2
      simp only [if_true] at hal2
      rw [hsub, m2] at hal2
      obtain ⟨S, hS⟩ := all_pre (mosL x0 l.list T) k
      have hcnt := mos_next t gok0 hs
      obtain ⟨n1, n2, n3⟩ := hcnt
      have hq := steps_last t ⟨rfl, rfl, rfl⟩ gok0
      have hy : P[l.list.length]? = some (lastY x0 T) := by
        rw [hP, ← steps_len t]
        exact last_at T x0
      obtain ⟨N, hN⟩ : ∃ N : Nat, (lastX x0 T).next = (N : Int) := ⟨(lastX x0 T).next.toNat, by have : (x0 : StT).next = 0 := rfl; omega⟩
      have hNb : N ≤ 60 := by have : (x0 : StT).next = 0 := rfl; omega
      have hcl := cnt_loop hE l P Q (slOf (allR (mosL x0 l.list T))) (mosL x0 l.list T) (by omega) _ hy N (by rw [← hq.1.n]; exact hN) hNb hl hof (loopL_eq (IR.runL E.glob (callL E) [] ir_usufructlaw27_HistoryFewer_L0) (compact [] 1 [0, 5, 7, 9, 10])) N 0 (by omega)
      rw [cnt_all N _ (fun m hm => by have := n3 m hm; omega)] at hcl
      have hz : cntL (mosL x0 l.list T) 0 = 0 := rfl
      have hpl := pre_loop hE l [] rfl P Q (slOf (allR ((mosL x0 l.list T).take k))) (slOf (allR (mosL x0 l.list T))) S (by rw [slOf_list]; have := congrArg List.length hS; simp only [List.length_append] at this; omega) (loopL_eq (IR.runL E.glob (callL E) [] ir_usufructlaw27_HistoryFewer_L1) (compact [] 1 [0, 5, 6, 7, 8])) _ 0 rfl (by omega) (by rw [slOf_list, slOf_list]; exact hS)
      simp only [Int.natCast_zero, hz] at hcl hpl
      have hle : ¬ ((allR (mosL x0 l.list T)).length : Int) < ((allR ((mosL x0 l.list T).take k)).length : Int) := by
        have := congrArg List.length hS
        simp only [List.length_append] at this
        omega
      have c1 : (k : Int) ≤ (l.list.length : Int) := by omega
      clear hof hS m2 n3 hN hq hy
      generalize allR ((mosL x0 l.list T).take k) = A at *
      generalize allR (mosL x0 l.list T) = B at *
      clear t t2
      rw [hE.run rfl rfl]
      simp -implicitDefEqProofs only [go_sem, ir_usufructlaw27_HistoryFewer, hw, hf, ht, hal, hal2, wu, w1, wk, htm, c1, slOf_list, hle, hpl, hcl, ro_ev, ro_st, ro_cm, ro_tx, Int.natCast_nonneg]
      try rfl
  · rw [hE.run rfl rfl]
    simp -implicitDefEqProofs only [go_sem, ir_usufructlaw27_HistoryFewer, hw, hf, ro_ev]
end Go.Proofs.YtoobogpbejdocaaGreatDoor.Ev
