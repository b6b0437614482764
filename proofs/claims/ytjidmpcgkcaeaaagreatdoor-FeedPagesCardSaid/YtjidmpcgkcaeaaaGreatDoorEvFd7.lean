import Derived.Test.YtjidmpcgkcaeaaaGreatDoorEvSa
import Derived.Test.YtjidmpcgkcaeaaaGreatDoorEvFd6
set_option linter.unusedVariables false
set_option linter.unusedSimpArgs false
namespace Go.Proofs.YtjidmpcgkcaeaaaGreatDoor.Ev
attribute [local congr] bind_congr_head
attribute [local go_sem] AV.cells AV.tuple elems boxQ callN_any compact_same compact_new aggOf
theorem fn_page {E : Prog} (hE : Std E fns) (l : Sl EvT) (k n : Int) (m : Nat) (D : List ChT) (hm : 0 < m) (hl : D.length ≤ 60) (hD : ∀ c, c ∈ D → 0 ≤ c.at_ ∧ c.at_ < 1000) (h : callP E f_feed_Of [lv l, vi k] = some (ofA D n 0)) :
    callP E f_feed_Page [lv l, vi k, vi m] = some (ofA (pageC n m D).1 (pageC n m D).2 0) := by
  unfold pageC
  by_cases c : m < D.length
  · have hc : D[m - 1]? = some (D[m - 1]'(by omega)) := List.getElem?_eq_getElem _
    generalize D[m - 1]'(by omega) = d at hc
    have hb := hD d (List.mem_of_getElem? hc)
    rw [if_pos c, hc]
    exact fn_page_cut hE l k n m D d hm c hl hc hb.1 hb.2 h
  · rw [if_neg c]
    exact fn_page_all hE l k m n D (by omega) (by omega) h
theorem all_ch (xs : List ChT) : ((xs.map ChT.cells).all fun c => c.length == 4) = true := by
  simp only [List.all_map, List.all_eq_true]
  intro x _
  rfl
theorem pages_loop {E : Prog} (hE : Std E fns) (l : Sl EvT) (n k : Nat) (hk : k ≤ 8) (u : Int) (hu : Int.tmod u 9 = (k : Int)) (u0 : 0 ≤ u) (u1 : u ≤ 255) (C : List ChT) (N : Nat) (hN : N ≤ 60) (hC : C.length ≤ 60) (hp : C.Pairwise ltA) (hr : ∀ c, c ∈ C → 0 ≤ c.at_ ∧ c.at_ < (N : Int))
    (hof : ∀ a : Int, 0 ≤ a → a ≤ (N : Int) → callP E f_feed_Of [lv l, vi a] = some (ofA (fromC a C) N 0)) {L : Env × Store → Option (Sig × Env × Store)}
    (hL : ∀ e st, L (e, st) = (IR.runL E.glob (callL E) [] ir_usufructlaw33_FeedPages_L0 e st).bind (seqK fun e st => L (compact [] 0 [0, 1, 5, 6, 8, 9, 10] e st))) :
    ∀ (r t : Nat) (a : Int) (g : Nat), t + r = C.length + 2 → PgI C N (k + 1) t a →
    ∃ g' : Nat, L ([(0, lv l), (1, .v (.int .u8 u)), (5, (slOf C).av 4 ChT.cells), (6, vi N), (8, (bld 4 ChT.cells g [] (C.take (t * (k + 1)))).1), (9, vi a), (10, vi t)], (bld 4 ChT.cells g [] (C.take (t * (k + 1)))).2) =
      some (.exit 0, [(5, (slOf C).av 4 ChT.cells), (6, vi N), (8, (bld 4 ChT.cells g' [] C).1), (9, vi N)], (bld 4 ChT.cells g' [] C).2)
  | 0, t, a, g, htr, hi => by
    have h1 : ¬ (t : Int) ≤ ((C.length + 1 : Nat) : Int) := by omega
    have w := wrap_succ (i := C.length) (by omega)
    have e1 := slOf_list C
    have h0 : C.length ≤ t * (k + 1) := by
      have : t * 1 ≤ t * (k + 1) := Nat.mul_le_mul_left t (by omega)
      omega
    have ea := hi.en h0 (by omega)
    have e2 : C.take (t * (k + 1)) = C := List.take_of_length_le h0
    refine ⟨g, ?_⟩
    rw [hL, e2, ea]
    by_cases hne : C = []
    · have hb : bld 4 ChT.cells g [] C = (.v (.slice none 0 0), []) := by rw [hne]; rfl
      rw [hb]
      simp -implicitDefEqProofs only [go_sem, reduceIte, reduceCtorEq, Nat.reduceEqDiff, Nat.reduceAdd, Nat.reduceSub, Nat.reduceLT, Nat.reduceLeDiff, Nat.reduceBEq, Nat.reduceMul, Nat.reduceBNe, Int.reduceEq, Int.reduceLT, Int.reduceLE, Int.reduceNe, Int.reduceToNat, ir_usufructlaw33_FeedPages_L0, e1, h1, w, ro_ev, ro_ch]
    · simp -implicitDefEqProofs only [go_sem, reduceIte, reduceCtorEq, Nat.reduceEqDiff, Nat.reduceAdd, Nat.reduceSub, Nat.reduceLT, Nat.reduceLeDiff, Nat.reduceBEq, Nat.reduceMul, Nat.reduceBNe, Int.reduceEq, Int.reduceLT, Int.reduceLE, Int.reduceNe, Int.reduceToNat, ir_usufructlaw33_FeedPages_L0, e1, h1, w, bld_ne hne, ro_ev, ro_ch]
  | r + 1, t, a, g, htr, hi => by
    have h1 : (t : Int) ≤ ((C.length + 1 : Nat) : Int) := by omega
    have w := wrap_succ (i := C.length) (by omega)
    have w1 := wrap_succ (i := t) (by omega)
    have wu : IntKind.i64.wrap u = u := IntWalk.i64_in _ (by omega)
    have wk : IntKind.i64.wrap (k : Int) = (k : Int) := IntWalk.i64_in _ (by omega)
    have wm : IntKind.i64.wrap (1 + (k : Int)) = ((k + 1 : Nat) : Int) := by rw [show 1 + (k : Int) = ((k + 1 : Nat) : Int) by omega]; exact IntWalk.i64_in _ (by omega)
    obtain ⟨s1, s2, s3, s4⟩ := pg_step hp hr (Nat.succ_pos k) hi
    have hO := hof a hi.nn hi.le
    have hpg := fn_page hE l a N (k + 1) (fromC a C) (Nat.succ_pos k) (by have := List.length_filter_le (fun c : ChT => decide (a ≤ c.at_)) C; unfold fromC; omega)
      (fun c hc => by have := hr c (List.mem_filter.1 hc).1; omega) hO
    rw [hi.fr] at hpg
    have e1 := slOf_list C
    generalize pageC (N : Int) (k + 1) (C.drop (t * (k + 1))) = pg at *
    obtain ⟨p, a'⟩ := pg
    dsimp only at *
    have c1 : ¬ a' < a := by omega
    have ep := slOf_list p
    unfold ofA at hpg
    have hlp : p.length ≤ 60 := by rw [s3, List.length_take, List.length_drop]; omega
    have hlt : (C.take (t * (k + 1))).length ≤ 60 := by rw [List.length_take]; omega
    have key : ∃ g2, L ([(0, lv l), (1, .v (.int .u8 u)), (5, (slOf C).av 4 ChT.cells), (6, vi N), (8, (bld 4 ChT.cells g [] (C.take (t * (k + 1)))).1), (9, vi a), (10, vi t)], (bld 4 ChT.cells g [] (C.take (t * (k + 1)))).2) =
        L ([(0, lv l), (1, .v (.int .u8 u)), (5, (slOf C).av 4 ChT.cells), (6, vi N), (8, (bld 4 ChT.cells g2 [] (C.take (t * (k + 1)) ++ p)).1), (9, vi a'), (10, vi ((t + 1 : Nat) : Int))], (bld 4 ChT.cells g2 [] (C.take (t * (k + 1)) ++ p)).2) := by
      rw [hL]
      generalize C.take (t * (k + 1)) = G at *
      clear s1 s3 s4 hi hp hr hof hO htr
      have lC : (((slOf C).list.length : Nat) : Int) = (C.length : Int) := by rw [e1]
      have b1 : (G.length + p.length) * 32 ≤ 140737488355328 := by omega
      have b0 : p.length * 32 ≤ 140737488355328 := by omega
      by_cases hG : G = []
      · subst hG
        by_cases hP : p = []
        · subst hP
          refine ⟨0, ?_⟩
          simp only [slOf, avN] at hpg
          simp -implicitDefEqProofs only [go_sem, reduceIte, reduceCtorEq, Nat.reduceEqDiff, Nat.reduceAdd, Nat.reduceSub, Nat.reduceLT, Nat.reduceLeDiff, Nat.reduceBEq, Nat.reduceMul, Nat.reduceBNe, Int.reduceEq, Int.reduceLT, Int.reduceLE, Int.reduceNe, Int.reduceToNat, ir_usufructlaw33_FeedPages_L0, e1, h1, w, w1, wu, hu, wk, wm, hpg, c1, bld_nil, List.append_nil, ro_ev, ro_ch]
        · refine ⟨0, ?_⟩
          have z : ¬ p.length = 0 := by simpa using hP
          have z2 : ¬ p.map ChT.cells = [] := by simpa using hP
          rw [slOf_ne hP] at hpg
          simp -implicitDefEqProofs only [go_sem, reduceIte, reduceCtorEq, Nat.reduceEqDiff, Nat.reduceAdd, Nat.reduceSub, Nat.reduceLT, Nat.reduceLeDiff, Nat.reduceBEq, Nat.reduceMul, Nat.reduceBNe, Int.reduceEq, Int.reduceLT, Int.reduceLE, Int.reduceNe, Int.reduceToNat, ir_usufructlaw33_FeedPages_L0, e1, h1, w, w1, wu, hu, wk, wm, hpg, c1, z, z2, b0, all_ch, avM, elems_sl, bld_nil, List.nil_append, bld_ne hP, ro_ev, ro_ch]
      · by_cases hP : p = []
        · subst hP
          refine ⟨g + 1, ?_⟩
          simp only [slOf, avN] at hpg
          simp only [List.length_nil, Nat.add_zero] at b1
          simp -implicitDefEqProofs only [go_sem, reduceIte, reduceCtorEq, Nat.reduceEqDiff, Nat.reduceAdd, Nat.reduceSub, Nat.reduceLT, Nat.reduceLeDiff, Nat.reduceBEq, Nat.reduceMul, Nat.reduceBNe, Int.reduceEq, Int.reduceLT, Int.reduceLE, Int.reduceNe, Int.reduceToNat, ir_usufructlaw33_FeedPages_L0, e1, h1, w, w1, wu, hu, wk, wm, hpg, c1, b1, all_ch, List.append_nil, bld_ne hG, List.map_nil, Nat.add_zero, ro_ev, ro_ch]
        · refine ⟨g + 1, ?_⟩
          have hGP : G ++ p ≠ [] := by simp [hG]
          have e5 : (G ++ p).length = G.length + p.length := by simp
          have e6 : (G ++ p).map ChT.cells = G.map ChT.cells ++ p.map ChT.cells := by simp
          rw [slOf_ne hP] at hpg
          rw [bld_ne hGP, e5, e6]
          simp -implicitDefEqProofs only [go_sem, reduceIte, reduceCtorEq, Nat.reduceEqDiff, Nat.reduceAdd, Nat.reduceSub, Nat.reduceLT, Nat.reduceLeDiff, Nat.reduceBEq, Nat.reduceMul, Nat.reduceBNe, Int.reduceEq, Int.reduceLT, Int.reduceLE, Int.reduceNe, Int.reduceToNat, ir_usufructlaw33_FeedPages_L0, e1, h1, w, w1, wu, hu, wk, wm, hpg, c1, b1, all_ch, avM, elems_sl, bld_ne hG, tk3, ro_ev, ro_ch]
    obtain ⟨g2, key⟩ := key
    rw [s4] at key
    obtain ⟨g', ih⟩ := pages_loop hE l n k hk u hu u0 u1 C N hN hC hp hr hof hL r (t + 1) a' g2 (by omega) s1
    exact ⟨g', by rw [key]; exact ih⟩
theorem fn_FeedPages {E : Prog} (hk : LOK E) (hw : callP E f_usufructlaw33_awake [] = some (vb true)) (l : Sl EvT) (hb : l.list.length < 9223372036854775808) (u : Int) (u0 : 0 ≤ u) (u1 : u ≤ 255) : callP E f_usufructlaw33_FeedPages [lv l, .v (.int .u8 u)] = some (vb true) := by
  have hE := hk.hE
  rcases fn_few hE l hb with ⟨hl, hs, hf⟩ | hf
  · obtain ⟨T, b, t⟩ := steps_ex hk l.list x0 x0 gok0 (fun _ => rfl) ⟨rfl, rfl, rfl⟩ hs
    obtain ⟨Cs, X, hfo, f1, f2⟩ := fn_follow hE l hl t
    cases b with
    | false =>
      have ho := fn_of_bad hE l Cs X hfo 0
      unfold ofA at ho
      rw [hE.run rfl rfl]
      simp -implicitDefEqProofs only [go_sem, reduceIte, reduceCtorEq, Nat.reduceEqDiff, Nat.reduceAdd, Nat.reduceSub, Nat.reduceLT, Nat.reduceLeDiff, Nat.reduceBEq, Nat.reduceMul, Nat.reduceBNe, Int.reduceEq, Int.reduceLT, Int.reduceLE, Int.reduceNe, Int.reduceToNat, ir_usufructlaw33_FeedPages, hw, hf, ho, ro_ev, ro_ch]
    | true =>
      obtain ⟨f1a, rfl⟩ := f1 rfl
      have hin := chgs_in l.list T 0 x0
      have hCl : Cs.list.length ≤ 60 := by
        rw [f1a]
        exact Nat.le_trans (chgs_len l.list T 0 x0) hl
      have hr : ∀ c, c ∈ Cs.list → 0 ≤ c.at_ ∧ c.at_ < (l.list.length : Int) := fun c hc => by rw [f1a] at hc; have := hin c hc; omega
      have hp : Cs.list.Pairwise ltA := by rw [f1a]; exact chgs_pw l.list T 0 x0
      have hof : ∀ a : Int, 0 ≤ a → a ≤ (l.list.length : Int) → callP E f_feed_Of [lv l, vi a] = some (ofA (fromC a Cs.list) l.list.length 0) := fun a a0 a1 => fn_of hE l Cs _ hfo hCl a (by omega)
      have ho := hof 0 (by omega) (by omega)
      rw [from_all fun c hc => (hr c hc).1] at ho
      unfold ofA at ho
      have htm : Int.tmod u 9 = ((u.toNat % 9 : Nat) : Int) := by rw [Int.tmod_eq_emod_of_nonneg u0]; omega
      obtain ⟨g, hlp⟩ := pages_loop hE l 0 (u.toNat % 9) (by omega) u htm u0 u1 Cs.list l.list.length hl hCl hp hr hof (loopL_eq (IR.runL E.glob (callL E) [] ir_usufructlaw33_FeedPages_L0) (compact [] 0 [0, 1, 5, 6, 8, 9, 10]))
        (Cs.list.length + 2) 0 0 0 (by omega) (pg_start Cs.list l.list.length _ (fun c hc => (hr c hc).1) (by omega))
      simp only [Nat.zero_mul, List.take_zero, bld_nil, Int.natCast_zero] at hlp
      have hsm := fn_same33 hE (slOf Cs.list) (slOf Cs.list) rfl (by rw [slOf_list]; omega)
      generalize Cs.list = C at *
      clear hof hr hp hin f1a f2 hfo
      rw [hE.run rfl rfl]
      by_cases hne : C = []
      · subst hne
        simp only [bld_nil, slOf, avN] at hlp hsm ho
        simp -implicitDefEqProofs only [go_sem, reduceIte, reduceCtorEq, Nat.reduceEqDiff, Nat.reduceAdd, Nat.reduceSub, Nat.reduceLT, Nat.reduceLeDiff, Nat.reduceBEq, Nat.reduceMul, Nat.reduceBNe, Int.reduceEq, Int.reduceLT, Int.reduceLE, Int.reduceNe, Int.reduceToNat, ir_usufructlaw33_FeedPages, hw, hf, ho, hlp, hsm, ro_ev, ro_ch]
      · simp only [slOf_ne hne, avM, bld_ne hne, List.length_nil, List.nil_append] at hlp hsm ho
        simp -implicitDefEqProofs only [go_sem, reduceIte, reduceCtorEq, Nat.reduceEqDiff, Nat.reduceAdd, Nat.reduceSub, Nat.reduceLT, Nat.reduceLeDiff, Nat.reduceBEq, Nat.reduceMul, Nat.reduceBNe, Int.reduceEq, Int.reduceLT, Int.reduceLE, Int.reduceNe, Int.reduceToNat, ir_usufructlaw33_FeedPages, hw, hf, ho, hlp, hsm, take_map_all, ro_ev, ro_ch]
  · rw [hE.run rfl rfl]
    simp -implicitDefEqProofs only [go_sem, reduceIte, reduceCtorEq, Nat.reduceEqDiff, Nat.reduceAdd, Nat.reduceSub, Nat.reduceLT, Nat.reduceLeDiff, Nat.reduceBEq, Nat.reduceMul, Nat.reduceBNe, Int.reduceEq, Int.reduceLT, Int.reduceLE, Int.reduceNe, Int.reduceToNat, ir_usufructlaw33_FeedPages, hw, hf, ro_ev, ro_ch]
end Go.Proofs.YtjidmpcgkcaeaaaGreatDoor.Ev
