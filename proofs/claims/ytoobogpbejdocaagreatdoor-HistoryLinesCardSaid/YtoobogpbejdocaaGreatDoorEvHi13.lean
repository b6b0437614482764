import Derived.Test.YtoobogpbejdocaaGreatDoorEvSa
import Derived.Test.YtoobogpbejdocaaGreatDoorEvHi10
set_option linter.unusedVariables false
set_option linter.unusedSectionVars false
set_option linter.unusedSimpArgs false
namespace Go.Proofs.YtoobogpbejdocaaGreatDoor.Ev
attribute [local congr] bind_congr_head
attribute [local go_sem] AV.cells AV.tuple elems boxQ callN_any compact_same compact_new aggOf
theorem fn_refLine {E : Prog} (hE : Std E fns) (l : Sl EvT) (i : Nat) (v : EvT) (rest : List EvT) (h0 : l.list.drop i = v :: rest) (hl : l.list.length ≤ 60) (P : List StT) (Q : List CmT) (x y x' y' : StT) (hy : P[i]? = some y) (hy' : P[i + 1]? = some y') (q : Eqv x y) (q' : Eqv x' y') (m : MOK x x' v) (hk : v.kind ≠ 0) :
    callP E f_usufructref27_Line [trA P Q (-1), lv l, vi i] = some (vs (BA (mline x x' v))) := by
  obtain ⟨hg, _⟩ := m.g.b rfl
  obtain ⟨k0, k10, n0, n1, s0⟩ := ev_in hg
  have hd := fn_decimal hE v.now n0 (by omega)
  have hI := itoa_len n0 (by omega)
  have hr := fn_refSaga hE y (by rw [← q.s]; exact m.ok.sl) v.saga
  have hr' := fn_refSaga hE y' (by rw [← q'.s]; exact m.ok'.sl) v.saga
  rw [← q.s] at hr
  rw [← q'.s] at hr'
  unfold mline lineL
  by_cases k1 : v.kind = 1
  · have hn := m.nm
    rw [← ba_of v.name, ba_size] at hn
    have := rl_1 hE l i v rest h0 hl P Q y y' hy hy' _ hI hd _ _ _ _ hr hr' k1 v.name.data.toList (ba_of _).symm hn
    rw [this, deedL, if_pos k1, sfxL, if_neg (fun h => h.2.1 k1), List.append_nil]
  · obtain ⟨d, t, s, s', a⟩ := m.act (by omega)
    rw [a.wa] at hr ⊢
    dsimp only at hr ⊢
    rw [a.df]
    dsimp only
    by_cases k10 : v.kind = 10
    · rw [a.is10 k10] at hr' ⊢
      have := rl_10 hE l i v rest h0 hl P Q y y' hy hy' _ hI hd _ _ _ _ hr hr' k10
      rw [this, deedL, if_neg (by omega), if_neg (by omega), if_neg (by omega), if_neg (by omega), sfxL, if_neg (fun h => by cases h.1), List.append_nil, k10]
      rfl
    · obtain ⟨i1, i2, i3⟩ := a.is9 (by omega)
      rw [i1] at hr' ⊢
      dsimp only at hr' ⊢
      have so := a.so; have t0 := so.t0; have t1 := so.t1
      obtain ⟨j, hj, hdj⟩ := a.fj
      rw [q.d] at hj hdj
      have hdl : y.defs.list.length ≤ 64 := by rw [← q.d]; exact m.ok.dl
      have hph := fn_refPh hE s'.phase i2 i3
      have hW := phW_len s'.phase
      have htr := fun (u : Bool) (n : Int) (z0 : 0 ≤ n) (z1 : n ≤ 2000) => fn_refTry hE y hdl s d a.dk j hj hdj s.step t so.s0 so.st u n z0 z1
      have hL := fun (u : Bool) (n : Int) (z0 : 0 ≤ n) (z1 : n ≤ 2000) => tryL_len a.dk (step := s.step) so.st u (n := n) z0 z1
      by_cases hp : s.phase = s'.phase
      · have e1 : sfxL v s s' true = [] := by rw [sfxL, if_neg (fun h => h.2.2 hp)]
        rw [e1, List.append_nil]
        by_cases k2 : v.kind = 2
        · have := rl_2n hE l i v rest h0 hl P Q y y' hy hy' _ hI hd s s' _ _ hr hr' k2 rfl (by omega) (by omega) _ (hL _ _ (by omega) (by omega)) (htr _ _ (by omega) (by omega)) hp
          rw [this, deedL, if_neg k1, if_pos k2]
        · by_cases k3 : v.kind = 3
          · obtain ⟨p1, p2, p3⟩ := a.rp k3
            cases hgd : v.rep.good with
            | true =>
              have := rl_3gn hE l i v rest h0 hl P Q y y' hy hy' _ hI hd s s' _ _ hr hr' k3 hgd rfl _ (hL v.rep.undo v.rep.try_ (by omega) (by omega)) (by rw [p1]; exact htr _ _ (by omega) (by omega)) hp
              rw [this, deedL, if_neg k1, if_neg k2, if_pos k3, hgd, p1]
              rfl
            | false =>
              have := rl_3bn hE l i v rest h0 hl P Q y y' hy hy' _ hI hd s s' _ _ hr hr' k3 hgd rfl _ (hL v.rep.undo v.rep.try_ (by omega) (by omega)) (by rw [p1]; exact htr _ _ (by omega) (by omega)) hp
              rw [this, deedL, if_neg k1, if_neg k2, if_pos k3, hgd, p1]
              rfl
          · by_cases k4 : v.kind = 4
            · have := rl_4n hE l i v rest h0 hl P Q y y' hy hy' _ hI hd s s' _ _ hr hr' k4 rfl _ (hL _ _ (by omega) (by omega)) (htr _ _ (by omega) (by omega)) hp
              rw [this, deedL, if_neg k1, if_neg k2, if_neg k3, if_pos k4]
            · rw [deedL, if_neg k1, if_neg k2, if_neg k3, if_neg k4]
              have kk : v.kind = 5 ∨ v.kind = 6 ∨ v.kind = 7 ∨ v.kind = 8 ∨ v.kind = 9 := by omega
              rcases kk with kk | kk | kk | kk | kk
              · rw [rl_5n hE l i v rest h0 hl P Q y y' hy hy' _ hI hd s s' _ _ hr hr' kk rfl hp, kk]; rfl
              · rw [rl_6n hE l i v rest h0 hl P Q y y' hy hy' _ hI hd s s' _ _ hr hr' kk rfl hp, kk]; rfl
              · rw [rl_7n hE l i v rest h0 hl P Q y y' hy hy' _ hI hd s s' _ _ hr hr' kk rfl hp, kk]; rfl
              · rw [rl_8n hE l i v rest h0 hl P Q y y' hy hy' _ hI hd s s' _ _ hr hr' kk rfl hp, kk]; rfl
              · rw [rl_9n hE l i v rest h0 hl P Q y y' hy hy' _ hI hd s s' _ _ hr hr' kk rfl hp, kk]; rfl
      · have e1 : sfxL v s s' true = [32, 62, 32] ++ phW s'.phase := by rw [sfxL, if_pos ⟨rfl, k1, hp⟩]
        rw [e1]
        by_cases k2 : v.kind = 2
        · have := rl_2s hE l i v rest h0 hl P Q y y' hy hy' _ hI hd s s' _ _ hr hr' k2 rfl (by omega) (by omega) _ (hL _ _ (by omega) (by omega)) (htr _ _ (by omega) (by omega)) _ hW hph hp
          rw [this, deedL, if_neg k1, if_pos k2, List.append_assoc]
        · by_cases k3 : v.kind = 3
          · obtain ⟨p1, p2, p3⟩ := a.rp k3
            cases hgd : v.rep.good with
            | true =>
              have := rl_3gs hE l i v rest h0 hl P Q y y' hy hy' _ hI hd s s' _ _ hr hr' k3 hgd rfl _ (hL v.rep.undo v.rep.try_ (by omega) (by omega)) (by rw [p1]; exact htr _ _ (by omega) (by omega)) _ hW hph hp
              rw [this, deedL, if_neg k1, if_neg k2, if_pos k3, hgd, p1, List.append_assoc]
              rfl
            | false =>
              have := rl_3bs hE l i v rest h0 hl P Q y y' hy hy' _ hI hd s s' _ _ hr hr' k3 hgd rfl _ (hL v.rep.undo v.rep.try_ (by omega) (by omega)) (by rw [p1]; exact htr _ _ (by omega) (by omega)) _ hW hph hp
              rw [this, deedL, if_neg k1, if_neg k2, if_pos k3, hgd, p1, List.append_assoc]
              rfl
          · by_cases k4 : v.kind = 4
            · have := rl_4s hE l i v rest h0 hl P Q y y' hy hy' _ hI hd s s' _ _ hr hr' k4 rfl _ (hL _ _ (by omega) (by omega)) (htr _ _ (by omega) (by omega)) _ hW hph hp
              rw [this, deedL, if_neg k1, if_neg k2, if_neg k3, if_pos k4, List.append_assoc]
            · rw [deedL, if_neg k1, if_neg k2, if_neg k3, if_neg k4]
              have kk : v.kind = 5 ∨ v.kind = 6 ∨ v.kind = 7 ∨ v.kind = 8 ∨ v.kind = 9 := by omega
              rcases kk with kk | kk | kk | kk | kk
              · rw [rl_5s hE l i v rest h0 hl P Q y y' hy hy' _ hI hd s s' _ _ hr hr' kk rfl _ hW hph hp, kk]; rfl
              · rw [rl_6s hE l i v rest h0 hl P Q y y' hy hy' _ hI hd s s' _ _ hr hr' kk rfl _ hW hph hp, kk]; rfl
              · rw [rl_7s hE l i v rest h0 hl P Q y y' hy hy' _ hI hd s s' _ _ hr hr' kk rfl _ hW hph hp, kk]; rfl
              · rw [rl_8s hE l i v rest h0 hl P Q y y' hy hy' _ hI hd s s' _ _ hr hr' kk rfl _ hW hph hp, kk]; rfl
              · rw [rl_9s hE l i v rest h0 hl P Q y y' hy hy' _ hI hd s s' _ _ hr hr' kk rfl _ hW hph hp, kk]; rfl
theorem few_loop {E : Prog} (hE : Std E fns) (l : Sl EvT) (hl : l.list.length ≤ 60) {L : Env × Store → Option (Sig × Env × Store)}
    (hL : ∀ e st, L (e, st) = (IR.runL E.glob (callL E) [] ir_usufructlaw27_few_L0 e st).bind (seqK fun e st => L (compact [] 0 [0, 3] e st))) :
    ∀ (rest : List EvT) (i : Nat), l.list.drop i = rest → i ≤ l.list.length → ((∀ v, v ∈ rest → shortS v = 0) ∧ L ([(0, lv l), (3, vi i)], []) = some (.exit 0, [], [])) ∨ L ([(0, lv l), (3, vi i)], []) = some (.ret, [(2, vb false)], [])
  | [], i, h, hi => by
    have h1 := drop_nil' h hi
    refine .inl ⟨fun v h => (by cases h), ?_⟩
    rw [hL]
    simp -implicitDefEqProofs only [go_sem, ir_usufructlaw27_few_L0, h1]
  | v :: rest, i, h, hi => by
    obtain ⟨h1, h2, h3, h4, h5⟩ := drop_cons h
    have h6 := wrap_succ (i := i) (by omega)
    have hs := fn_short hE v
    by_cases c : shortS v = 0
    · rw [c] at hs
      have run : L ([(0, lv l), (3, vi i)], []) = L ([(0, lv l), (3, vi ((i + 1 : Nat) : Int))], []) := by
        rw [hL]
        simp -implicitDefEqProofs only [go_sem, ir_usufructlaw27_few_L0, h1, h3, h6, EvT.cells, hs, ro_ev, ro_step, Int.natCast_nonneg]
      rw [run]
      rcases few_loop hE l hl hL rest (i + 1) h2 h4 with ⟨a, b⟩ | b
      · refine .inl ⟨fun w hw => ?_, b⟩
        rcases List.mem_cons.1 hw with rfl | hw
        · exact c
        · exact a w hw
      · exact .inr b
    · refine .inr ?_
      rw [hL]
      simp -implicitDefEqProofs only [go_sem, ir_usufructlaw27_few_L0, h1, h3, h6, EvT.cells, hs, c, ro_ev, ro_step, Int.natCast_nonneg]
theorem fn_few {E : Prog} (hE : Std E fns) (l : Sl EvT) (hb : l.list.length < 9223372036854775808) : (l.list.length ≤ 60 ∧ (∀ v, v ∈ l.list → shortS v = 0) ∧ callP E f_usufructlaw27_few [lv l] = some (vb true)) ∨ callP E f_usufructlaw27_few [lv l] = some (vb false) := by
  by_cases c : (60 : Int) < (l.list.length : Int)
  · refine .inr ?_
    rw [hE.run rfl rfl]
    simp -implicitDefEqProofs only [go_sem, ir_usufructlaw27_few, c, ro_ev]
  · rcases few_loop hE l (by omega) (loopL_eq (IR.runL E.glob (callL E) [] ir_usufructlaw27_few_L0) (compact [] 0 [0, 3])) l.list 0 rfl (by omega) with ⟨a, h⟩ | h
    · refine .inl ⟨by omega, a, ?_⟩
      simp only [Int.natCast_zero] at h
      rw [hE.run rfl rfl]
      simp -implicitDefEqProofs only [go_sem, ir_usufructlaw27_few, c, h, ro_ev]
    · refine .inr ?_
      simp only [Int.natCast_zero] at h
      rw [hE.run rfl rfl]
      simp -implicitDefEqProofs only [go_sem, ir_usufructlaw27_few, c, h, ro_ev]
theorem ba_same {a b : List UInt8} : (BA a = BA b) = (a = b) := propext ba_inj
abbrev trB (P : List StT) (Q : List CmT) (bad : Int) : Store := [.box [(Sl.mk P).av 3 StT.cells, (slOf Q).av 6 CmT.cells, vi bad]]
set_option maxHeartbeats 4000000 in
theorem lin_loop {E : Prog} (hE : Std E fns) (hi : IO E) (hg0 : E.glob 0 = some phTab) (l : Sl EvT) (hl : l.list.length ≤ 60) (hs : ∀ v, v ∈ l.list → shortS v = 0) (id : Int) (P : List StT) (Q : List CmT) (one all : Sl (List UInt8)) (hol : one.list.length ≤ 60) (hal : all.list.length ≤ 60) {L : Env × Store → Option (Sig × Env × Store)}
    (hL : ∀ e st, L (e, st) = (IR.runL E.glob (callL E) [] ir_usufructlaw27_HistoryLines_L0 e st).bind (seqK fun e st => L (compact [] 1 [0, 1, 5, 6, 7, 8, 9, 10] e st)))
    {rest : List EvT} {x y : StT} {T : List (StT × StT × CmT)} {b : Bool} (t : Steps E x y rest T b) (hb : b = true) :
    ∀ (i n m : Nat), l.list.drop i = rest → i ≤ l.list.length → P.drop i = y :: yT T → XOK x → Eqv x y → one.list.drop n = ofR id (mosL x rest T) → n ≤ one.list.length → all.list.drop m = (allR (mosL x rest T)) → m ≤ all.list.length →
    L ([(0, lv l), (1, vi id), (5, .ref 0 0 0 0), (6, one.av 1 tx), (7, all.av 1 tx), (8, vi n), (9, vi m), (10, vi i)], trB P Q (-1)) =
      some (.exit 0, [(6, one.av 1 tx), (7, all.av 1 tx), (8, vi one.list.length), (9, vi all.list.length)], trB P Q (-1)) := by
  induction t with
  | @nil x y =>
    intro i n m h0 hile hP hx q ho hn ha hm
    have h1 := drop_nil' h0 hile
    have h2 := drop_nil' (show one.list.drop n = [] from by rw [ho]; simp [mosL, ofR]) hn
    have h3 := drop_nil' (show all.list.drop m = [] from by rw [ha]; simp [mosL, allR]) hm
    rw [hL]
    simp -implicitDefEqProofs only [go_sem, ir_usufructlaw27_HistoryLines_L0, h1, h2, h3, ro_ev, ro_st, ro_cm, ro_tx]
  | stop => cases hb
  | @go x y v r x' y' c T b d1 d2 q' ok gr t ih =>
    intro i n m h0 hile hP hx q ho hn ha hm
    obtain ⟨h1, h2, h3, h4, h5⟩ := drop_cons h0
    have h6 := wrap_succ (i := i) (by omega)
    have hmk : MOK x x' v := ⟨hx, ok, gr, (short_ev (hs v (List.mem_of_getElem? h1))).1⟩
    have hP2 : P.drop (i + 1) = y' :: yT T := by
      have : (P.drop i).drop 1 = y' :: yT T := by rw [hP]; rfl
      simpa [List.drop_drop] using this
    have hy : P[i]? = some y := by
      have : (P.drop i)[0]? = some y := by rw [hP]; rfl
      simpa using this
    have hy' : P[i + 1]? = some y' := by
      have : (P.drop (i + 1))[0]? = some y' := by rw [hP2]; rfl
      simpa using this
    by_cases c0 : v.kind = 0
    · have e1 : ofR id (mosL x (v :: r) ((x', y', c) :: T)) = ofR id (mosL x' r T) := by rw [mosL, ofR]; exact if_pos c0
      have e2 : allR (mosL x (v :: r) ((x', y', c) :: T)) = allR (mosL x' r T) := by rw [mosL, allR]; exact if_pos c0
      rw [← ih hb (i + 1) n m h2 h4 hP2 ok q' (by rw [← e1]; exact ho) hn (by rw [← e2]; exact ha) hm, hL]
      simp -implicitDefEqProofs only [go_sem, ir_usufructlaw27_HistoryLines_L0, h1, h3, h6, EvT.cells, c0, ro_ev, ro_def, ro_sg, ro_step, ro_st, ro_cm, ro_tx, Int.natCast_nonneg]
    · have hln := fn_refLine hE l i v r h0 hl P Q x y x' y' hy hy' q q' hmk c0
      obtain ⟨sg0, sg1⟩ := saga_in (m := ⟨v, x, x'⟩) hmk c0
      dsimp only at sg0 sg1
      have hdc := fn_decimal hE v.saga sg0 (by omega)
      have hil := itoa_len sg0 (by omega)
      have e2 : allR (mosL x (v :: r) ((x', y', c) :: T)) = MoT.full ⟨v, x, x'⟩ :: allR (mosL x' r T) := by rw [mosL, allR]; exact if_neg c0
      rw [e2] at ha
      obtain ⟨a1, a2, a3, a4, a5⟩ := drop_cons ha
      have a6 := wrap_succ (i := m) (by omega)
      have a7 : ¬ ((all.list.length : Int) ≤ (m : Int)) := by omega
      have hful : MoT.full ⟨v, x, x'⟩ = Lib.itoa v.saga ++ [32] ++ mline x x' v := by simp [MoT.full, MoT.line]
      have hlen : (mline x x' v).length ≤ 400 := (fn_moLine hE hi hg0 ⟨v, x, x'⟩ hmk c0).2
      unfold trA at hln
      have e32 : (⟨#[32]⟩ : ByteArray) = BA [32] := rfl
      have s1 : ¬ (9223372036854775807 : Int) < (((BA (Lib.itoa v.saga)).size + (BA [32]).size : Nat) : Int) := by simp only [ba_size, List.length_cons, List.length_nil]; omega
      have s2 : ¬ (9223372036854775807 : Int) < (((BA (Lib.itoa v.saga ++ [32])).size + (BA (mline x x' v)).size : Nat) : Int) := by simp only [ba_size, List.length_append, List.length_cons, List.length_nil]; omega
      rw [hful] at a1
      generalize hZ : mline x x' v = Z at *
      generalize Lib.itoa v.saga = J at *
      by_cases c1 : v.saga = id
      · have e1 : ofR id (mosL x (v :: r) ((x', y', c) :: T)) = MoT.line ⟨v, x, x'⟩ :: ofR id (mosL x' r T) := by rw [mosL, ofR]; exact (if_neg c0).trans (if_pos c1)
        rw [e1] at ho
        obtain ⟨o1, o2, o3, o4, o5⟩ := drop_cons ho
        have o6 := wrap_succ (i := n) (by omega)
        have o7 : ¬ ((one.list.length : Int) ≤ (n : Int)) := by omega
        have hlz : MoT.line ⟨v, x, x'⟩ = Z := hZ
        rw [hlz] at o1
        rw [← ih hb (i + 1) (n + 1) (m + 1) h2 h4 hP2 ok q' o2 o4 a2 a4, hL]
        subst c1
        simp -implicitDefEqProofs only [go_sem, ir_usufructlaw27_HistoryLines_L0, h1, h3, h6, a1, a3, a6, a7, EvT.cells, tx, c0, o1, o3, o6, o7, hln, hdc, e32, ba_app, s1, s2, ba_same, ro_ev, ro_def, ro_sg, ro_step, ro_st, ro_cm, ro_tx, Int.natCast_nonneg, gor_b, gand_b, Bool.or_eq_true]
      · have e1 : ofR id (mosL x (v :: r) ((x', y', c) :: T)) = ofR id (mosL x' r T) := by rw [mosL, ofR]; exact (if_neg c0).trans (if_neg c1)
        rw [e1] at ho
        rw [← ih hb (i + 1) n (m + 1) h2 h4 hP2 ok q' ho hn a2 a4, hL]
        simp -implicitDefEqProofs only [go_sem, ir_usufructlaw27_HistoryLines_L0, h1, h3, h6, a1, a3, a6, a7, EvT.cells, tx, c0, c1, hln, hdc, e32, ba_app, s1, s2, ba_same, ro_ev, ro_def, ro_sg, ro_step, ro_st, ro_cm, ro_tx, Int.natCast_nonneg, gor_b, gand_b, Bool.or_eq_true]
theorem fn_HistoryLines {E : Prog} (hk : LOK E) (hg0 : E.glob 0 = some phTab) (hlp : LpO E) (hw : callP E f_usufructlaw27_awake [] = some (vb true)) (l : Sl EvT) (hb : l.list.length < 9223372036854775808) (id : Int) :
    callP E f_usufructlaw27_HistoryLines [lv l, vi id] = some (vb true) := by
  have hE := hk.hE
  rcases fn_few hE l hb with ⟨hl, hs, hf⟩ | hf
  · obtain ⟨T, b, t⟩ := steps_ex hk l.list x0 x0 gok0 (fun _ => rfl) ⟨rfl, rfl, rfl⟩ hs
    obtain ⟨P, Q, bad, ht, f1, f2⟩ := fn_trail hE l hl t
    have ho := fn_Of hE hk.hi hg0 hlp l hl hs t id
    have ha := fn_All hE hk.hi hg0 hlp l hl hs t
    unfold trA at ht
    cases b with
    | false =>
      have hbad := f2 rfl
      simp only [Bool.false_eq_true, if_false, ofR, allR, slOf, avN] at ho ha
      rw [hE.run rfl rfl]
      simp -implicitDefEqProofs only [go_sem, ir_usufructlaw27_HistoryLines, hw, hf, ht, ho, ha, hbad, lenA_nil, ro_ev, ro_st, ro_cm]
      try rfl
    | true =>
      obtain ⟨hP, _, rfl⟩ := f1 rfl
      rw [if_pos rfl] at ho ha
      have hml := mos_len x0 l.list T
      have hol := ofR_len id (mosL x0 l.list T)
      have hal := allR_len (mosL x0 l.list T)
      have hlp := lin_loop hE hk.hi hg0 l hl hs id P Q (slOf (ofR id (mosL x0 l.list T))) (slOf (allR (mosL x0 l.list T))) (by rw [slOf_list]; omega) (by rw [slOf_list]; omega) (loopL_eq (IR.runL E.glob (callL E) [] ir_usufructlaw27_HistoryLines_L0) (compact [] 1 [0, 1, 5, 6, 7, 8, 9, 10]))
        t rfl 0 0 0 rfl (by omega) (by rw [hP]; rfl) gok0 ⟨rfl, rfl, rfl⟩ (by rw [slOf_list]; rfl) (by omega) (by rw [slOf_list]; rfl) (by omega)
      simp only [Int.natCast_zero] at hlp
      generalize slOf (ofR id (mosL x0 l.list T)) = one at *
      generalize slOf (allR (mosL x0 l.list T)) = all at *
      rw [hE.run rfl rfl]
      simp -implicitDefEqProofs only [go_sem, ir_usufructlaw27_HistoryLines, hw, hf, ht, ho, ha, hlp, ro_ev, ro_st, ro_cm, ro_tx]
      try rfl
  · rw [hE.run rfl rfl]
    simp -implicitDefEqProofs only [go_sem, ir_usufructlaw27_HistoryLines, hw, hf, ro_ev]
end Go.Proofs.YtoobogpbejdocaaGreatDoor.Ev
