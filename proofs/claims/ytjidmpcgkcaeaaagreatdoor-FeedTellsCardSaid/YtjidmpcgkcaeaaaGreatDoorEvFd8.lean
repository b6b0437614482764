import Derived.Test.YtjidmpcgkcaeaaaGreatDoorEvSa
import Derived.Test.YtjidmpcgkcaeaaaGreatDoorEvFd7
set_option linter.unusedVariables false
set_option linter.unusedSectionVars false
set_option linter.unusedSimpArgs false
namespace Go.Proofs.YtjidmpcgkcaeaaaGreatDoor.Ev
attribute [local congr] bind_congr_head
attribute [local go_sem] AV.cells AV.tuple elems boxQ callN_any compact_same compact_new aggOf
theorem last_get : ∀ (T : List (StT × StT × CmT)) (y : StT), (y :: yT T)[T.length]? = some (lastY y T)
  | [], y => rfl
  | (x', y', c) :: T, y => by
    rw [List.length_cons, List.getElem?_cons_succ]
    exact last_get T y'
section
variable {E : Prog} (hk : LOK E) (hw : callP E f_usufructlaw33_awake [] = some (vb true)) (l : Sl EvT) (k m : Int) (hl : l.list.length ≤ 60) (hf : callP E f_usufructlaw33_few [lv l] = some (vb true))
include hk hw hl hf
theorem tells_bad (P : List StT) (Q : List CmT) (bad : Int) (hbad : 0 ≤ bad) (ht : callP E f_usufructref24_Follow [lv l] = some (trA P Q bad)) (ho : callP E f_feed_Of [lv l, vi k] = some (ofA [] 0 3)) (hn : callP E f_feed_Now [lv l] = some (nowA [])) :
    callP E f_usufructlaw33_FeedTells [lv l, vi k, vi m] = some (vb true) := by
  have hE := hk.hE
  have hp := fn_page_bad hE l k m 0 3 (by decide) ho
  unfold ofA at ho hp
  unfold nowA at hn
  unfold trA at ht
  simp only [slOf, avN] at ho hp hn
  rw [hE.run rfl rfl]
  simp -implicitDefEqProofs only [go_sem, reduceIte, reduceCtorEq, Nat.reduceEqDiff, Nat.reduceAdd, Nat.reduceSub, Nat.reduceLT, Nat.reduceLeDiff, Nat.reduceBEq, Nat.reduceMul, Nat.reduceBNe, Int.reduceEq, Int.reduceLT, Int.reduceLE, Int.reduceNe, Int.reduceToNat, ir_usufructlaw33_FeedTells, lenA_nil, Int.natCast_zero, hw, hf, ht, ho, hp, hn, hbad, ro_ev, ro_ch, ro_st, ro_cm, ro_ph]
theorem tells_arg (P : List StT) (Q : List CmT) (Y : StT) (D : List PhT) (hD : D.length < 9223372036854775807) (hP : P[l.list.length]? = some Y) (ht : callP E f_usufructref24_Follow [lv l] = some (trA P Q (-1))) (ho : callP E f_feed_Of [lv l, vi k] = some (ofA [] 0 1))
    (hn : callP E f_feed_Now [lv l] = some (nowA D)) (hr : callP E f_usufructref33_Now [stA Y] = some (nowA D)) (hkk : k < 0 ∨ (l.list.length : Int) < k) :
    callP E f_usufructlaw33_FeedTells [lv l, vi k, vi m] = some (vb true) := by
  have hE := hk.hE
  have hp := fn_page_bad hE l k m 0 1 (by decide) ho
  have h1 := fn_one hE (slOf D) (slOf D) rfl (by rw [slOf_list]; exact hD)
  unfold ofA at ho hp
  unfold nowA at hn hr
  unfold trA at ht
  simp only [slOf, avN] at ho hp
  rw [hE.run rfl rfl]
  simp -implicitDefEqProofs only [go_sem, reduceIte, reduceCtorEq, Nat.reduceEqDiff, Nat.reduceAdd, Nat.reduceSub, Nat.reduceLT, Nat.reduceLeDiff, Nat.reduceBEq, Nat.reduceMul, Nat.reduceBNe, Int.reduceEq, Int.reduceLT, Int.reduceLE, Int.reduceNe, Int.reduceToNat, ir_usufructlaw33_FeedTells, lenA_nil, Int.natCast_zero, hw, hf, ht, ho, hp, hn, hr, h1, hP, lsM, StT.cells, gor_b, Bool.or_eq_true, hkk, ro_ev, ro_ch, ro_def, ro_sg, ro_st, ro_cm, ro_ph, Int.natCast_nonneg]
theorem tells_few (P : List StT) (Q : List CmT) (Y : StT) (D : List PhT) (hD : D.length < 9223372036854775807) (hP : P[l.list.length]? = some Y) (ht : callP E f_usufructref24_Follow [lv l] = some (trA P Q (-1))) (C : List ChT) (hC : C.length ≤ 60) (ho : callP E f_feed_Of [lv l, vi k] = some (ofA C l.list.length 0))
    (hn : callP E f_feed_Now [lv l] = some (nowA D)) (hr : callP E f_usufructref33_Now [stA Y] = some (nowA D)) (hkk : ¬ (k < 0 ∨ (l.list.length : Int) < k)) (hO : callP E f_usufructref33_Of [trA P Q (-1), lv l, vi k] = some ((slOf C).av 4 ChT.cells)) (hm : m < 1) :
    callP E f_usufructlaw33_FeedTells [lv l, vi k, vi m] = some (vb true) := by
  have hE := hk.hE
  have hp := fn_page_arg hE l k m _ C hm ho
  have h1 := fn_one hE (slOf D) (slOf D) rfl (by rw [slOf_list]; exact hD)
  have h2 := fn_same33 hE (slOf C) (slOf C) rfl (by rw [slOf_list]; omega)
  unfold ofA at ho hp
  unfold nowA at hn hr
  unfold trA at ht hO
  simp only [slOf, avN] at hp
  rw [hE.run rfl rfl]
  simp -implicitDefEqProofs only [go_sem, reduceIte, reduceCtorEq, Nat.reduceEqDiff, Nat.reduceAdd, Nat.reduceSub, Nat.reduceLT, Nat.reduceLeDiff, Nat.reduceBEq, Nat.reduceMul, Nat.reduceBNe, Int.reduceEq, Int.reduceLT, Int.reduceLE, Int.reduceNe, Int.reduceToNat, ir_usufructlaw33_FeedTells, lenA_nil, Int.natCast_zero, hw, hf, ht, ho, hp, hn, hr, h1, h2, hO, hm, hP, lsM, StT.cells, gor_b, Bool.or_eq_true, hkk, ro_ev, ro_ch, ro_def, ro_sg, ro_st, ro_cm, ro_ph, Int.natCast_nonneg]
theorem tells_all (P : List StT) (Q : List CmT) (Y : StT) (D : List PhT) (hD : D.length < 9223372036854775807) (hP : P[l.list.length]? = some Y) (ht : callP E f_usufructref24_Follow [lv l] = some (trA P Q (-1))) (C : List ChT) (hC : C.length ≤ 60) (ho : callP E f_feed_Of [lv l, vi k] = some (ofA C l.list.length 0))
    (hn : callP E f_feed_Now [lv l] = some (nowA D)) (hr : callP E f_usufructref33_Now [stA Y] = some (nowA D)) (hkk : ¬ (k < 0 ∨ (l.list.length : Int) < k)) (hO : callP E f_usufructref33_Of [trA P Q (-1), lv l, vi k] = some ((slOf C).av 4 ChT.cells)) (hm : ¬ m < 1) (hm2 : (C.length : Int) ≤ m) :
    callP E f_usufructlaw33_FeedTells [lv l, vi k, vi m] = some (vb true) := by
  have hE := hk.hE
  have hp := fn_page_all hE l k m _ C hm (by omega) ho
  have h1 := fn_one hE (slOf D) (slOf D) rfl (by rw [slOf_list]; exact hD)
  have h2 := fn_same33 hE (slOf C) (slOf C) rfl (by rw [slOf_list]; omega)
  have e1 := slOf_list C
  unfold ofA at ho hp
  unfold nowA at hn hr
  unfold trA at ht hO
  rw [hE.run rfl rfl]
  simp -implicitDefEqProofs only [go_sem, reduceIte, reduceCtorEq, Nat.reduceEqDiff, Nat.reduceAdd, Nat.reduceSub, Nat.reduceLT, Nat.reduceLeDiff, Nat.reduceBEq, Nat.reduceMul, Nat.reduceBNe, Int.reduceEq, Int.reduceLT, Int.reduceLE, Int.reduceNe, Int.reduceToNat, ir_usufructlaw33_FeedTells, lenA_nil, Int.natCast_zero, hw, hf, ht, ho, hp, hn, hr, h1, h2, hO, hm, hm2, e1, hP, lsM, StT.cells, gor_b, Bool.or_eq_true, hkk, ro_ev, ro_ch, ro_def, ro_sg, ro_st, ro_cm, ro_ph, Int.natCast_nonneg]
theorem tells_cut (P : List StT) (Q : List CmT) (Y : StT) (D : List PhT) (hD : D.length < 9223372036854775807) (hP : P[l.list.length]? = some Y) (ht : callP E f_usufructref24_Follow [lv l] = some (trA P Q (-1))) (C : List ChT) (hC : C.length ≤ 60) (hr1 : ∀ c, c ∈ C → 0 ≤ c.at_ ∧ c.at_ < 1000)
    (ho : callP E f_feed_Of [lv l, vi k] = some (ofA C l.list.length 0)) (hn : callP E f_feed_Now [lv l] = some (nowA D)) (hr : callP E f_usufructref33_Now [stA Y] = some (nowA D)) (hkk : ¬ (k < 0 ∨ (l.list.length : Int) < k))
    (hO : callP E f_usufructref33_Of [trA P Q (-1), lv l, vi k] = some ((slOf C).av 4 ChT.cells)) (j : Nat) (hj : 0 < j) (hj2 : j < C.length) :
    callP E f_usufructlaw33_FeedTells [lv l, vi k, vi j] = some (vb true) := by
  have hE := hk.hE
  have hc : C[j - 1]? = some (C[j - 1]'(by omega)) := List.getElem?_eq_getElem _
  generalize C[j - 1]'(by omega) = c at hc
  have hb := hr1 c (List.mem_of_getElem? hc)
  have hp := fn_page_cut hE l k _ j C c hj hj2 hC hc hb.1 hb.2 ho
  have h1 := fn_one hE (slOf D) (slOf D) rfl (by rw [slOf_list]; exact hD)
  have h2 := fn_same33 hE (slOf C) (slOf C) rfl (by rw [slOf_list]; omega)
  have hne : C ≠ [] := by intro h; rw [h] at hj2; simp at hj2
  have hne2 : C.take j ≠ [] := by intro h; have := congrArg List.length h; rw [List.length_take] at this; simp only [List.length_nil] at this; omega
  have h3 := fn_same33 hE (.mk (C.take j)) (.mk (C.take j)) rfl (by rw [Sl.list, List.length_take]; omega)
  have z1 : ¬ (j : Int) < 1 := by omega
  have z2 : ¬ (C.length : Int) ≤ (j : Int) := by omega
  have z3 : (j : Int) ≤ (C.length : Int) := by omega
  have w1 : IntKind.i64.wrap ((j : Int) - 1) = ((j - 1 : Nat) : Int) := by rw [show (j : Int) - 1 = ((j - 1 : Nat) : Int) by omega]; exact IntWalk.i64_in _ (by omega)
  have w2 : IntKind.i64.wrap (c.at_ + 1) = c.at_ + 1 := IntWalk.i64_in _ (by omega)
  have e2 : (C.drop 0).take (j - 0) = C.take j := by simp
  unfold ofA at ho hp
  unfold nowA at hn hr
  unfold trA at ht hO
  rw [slOf_ne hne] at ho h2 hO
  rw [slOf_ne hne2] at hp
  rw [hE.run rfl rfl]
  simp -implicitDefEqProofs only [go_sem, reduceIte, reduceCtorEq, Nat.reduceEqDiff, Nat.reduceAdd, Nat.reduceSub, Nat.reduceLT, Nat.reduceLeDiff, Nat.reduceBEq, Nat.reduceMul, Nat.reduceBNe, Int.reduceEq, Int.reduceLT, Int.reduceLE, Int.reduceNe, Int.reduceToNat, ir_usufructlaw33_FeedTells, lenA_nil, Int.natCast_zero, hw, hf, ht, ho, hp, hn, hr, h1, h2, h3, hO, z1, z2, z3, w1, w2, hc, ChT.cells, Sl.sub, Nat.sub_zero, List.drop_zero, hP, lsM, StT.cells, gor_b, Bool.or_eq_true, hkk, ro_ev, ro_ch, ro_def, ro_sg, ro_st, ro_cm, ro_ph, Int.natCast_nonneg]
end
theorem fn_FeedTells {E : Prog} (hk : LOK E) (hw : callP E f_usufructlaw33_awake [] = some (vb true)) (l : Sl EvT) (hb : l.list.length < 9223372036854775808) (k m : Int) : callP E f_usufructlaw33_FeedTells [lv l, vi k, vi m] = some (vb true) := by
  have hE := hk.hE
  rcases fn_few hE l hb with ⟨hl, hs, hf⟩ | hf
  · obtain ⟨T, b, t⟩ := steps_ex hk l.list x0 x0 gok0 (fun _ => rfl) ⟨rfl, rfl, rfl⟩ hs
    obtain ⟨Cs, X, hfo, f1, f2⟩ := fn_follow hE l hl t
    obtain ⟨P, Q, bad, ht, g1, g2⟩ := fn_trail hE l hl t
    cases b with
    | false => exact tells_bad hk hw l k m hl hf P Q bad (g2 rfl) ht (fn_of_bad hE l Cs X hfo k) (fn_now_bad hE l Cs X hfo)
    | true =>
      obtain ⟨f1a, rfl⟩ := f1 rfl
      obtain ⟨rfl, rfl, rfl⟩ := g1 rfl
      obtain ⟨qL, okL⟩ := steps_last t ⟨rfl, rfl, rfl⟩ gok0
      have hP : (x0 :: yT T)[l.list.length]? = some (lastY x0 T) := by rw [← steps_len t]; exact last_get T x0
      have hn := fn_now hE l Cs _ okL.sl hfo
      have hr := fn_nowRef hE (lastY x0 T) (qL.ok okL).sl
      rw [← qL.s] at hr
      have hD : (nowS (lastX x0 T).sagas.list).length < 9223372036854775807 := by unfold nowS; rw [List.length_map]; have := okL.sl; omega
      have hCl : Cs.list.length ≤ 60 := by
        rw [f1a]
        exact Nat.le_trans (chgs_len l.list T 0 x0) hl
      by_cases hkk : k < 0 ∨ (l.list.length : Int) < k
      · exact tells_arg hk hw l k m hl hf _ _ _ _ hD hP ht (fn_of_arg hE l Cs _ hfo k hkk) hn hr hkk
      · have ho := fn_of hE l Cs _ hfo hCl k hkk
        obtain ⟨j, rfl⟩ : ∃ j : Nat, k = (j : Int) := ⟨k.toNat, by omega⟩
        obtain ⟨x', y', t2, k1, k2, k3, k4⟩ := steps_at j (by omega) t gok0 ⟨rfl, rfl, rfl⟩
        have hg := steps_good hE t rfl hs
        have hO := fn_ofRef hE l hl (fun v hv => (ev_in (hg v hv)).1) (x0 :: yT T) (cT T) (-1) j (by omega) t2 k1 k2 k3
        have k5 := k4 0
        rw [Nat.zero_add, ← f1a] at k5
        rw [← k5] at hO
        have hin := chgs_in l.list T 0 x0
        have hr1 : ∀ c, c ∈ fromC (j : Int) Cs.list → 0 ≤ c.at_ ∧ c.at_ < 1000 := fun c hc => by
          have h1 := (List.mem_filter.1 hc).1
          rw [f1a] at h1
          have := hin c h1; omega
        have hC2 : (fromC (j : Int) Cs.list).length ≤ 60 := Nat.le_trans (List.length_filter_le _ _) hCl
        by_cases hm : m < 1
        · exact tells_few hk hw l j m hl hf _ _ _ _ hD hP ht _ hC2 ho hn hr hkk hO hm
        · by_cases hm2 : ((fromC (j : Int) Cs.list).length : Int) ≤ m
          · exact tells_all hk hw l j m hl hf _ _ _ _ hD hP ht _ hC2 ho hn hr hkk hO hm hm2
          · obtain ⟨i, rfl⟩ : ∃ i : Nat, m = (i : Int) := ⟨m.toNat, by omega⟩
            exact tells_cut hk hw l j hl hf _ _ _ _ hD hP ht _ hC2 hr1 ho hn hr hkk hO i (by omega) (by omega)
  · rw [hE.run rfl rfl]
    simp -implicitDefEqProofs only [go_sem, reduceIte, reduceCtorEq, Nat.reduceEqDiff, Nat.reduceAdd, Nat.reduceSub, Nat.reduceLT, Nat.reduceLeDiff, Nat.reduceBEq, Nat.reduceMul, Nat.reduceBNe, Int.reduceEq, Int.reduceLT, Int.reduceLE, Int.reduceNe, Int.reduceToNat, ir_usufructlaw33_FeedTells, hw, hf, ro_ev]
end Go.Proofs.YtjidmpcgkcaeaaaGreatDoor.Ev
