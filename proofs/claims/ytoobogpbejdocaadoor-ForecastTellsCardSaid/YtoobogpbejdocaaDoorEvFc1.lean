import Derived.Test.YtoobogpbejdocaaDoorEvSg6
set_option linter.unusedVariables false
set_option linter.unusedSectionVars false
set_option linter.unusedSimpArgs false
namespace Go.Proofs.YtoobogpbejdocaaDoor.Ev
structure WnT where
  step : Int
  undo : Bool
  try_ : Int
  fr : Int
  to : Int
def trC (p : PlanT) (tmo k : Int) (u : Bool) (e : Int) : Nat → Nat → Int → List WnT × Int
  | 0, _, _ => ([], e)
  | m + 1, n, a => if 1099511627776 ≤ a then ([], e) else if e ≤ a then ([], e)
    else if e < tickAdd a tmo then ([⟨k, u, n + 1, a, e⟩], e)
    else if tickAdd a tmo = e ∧ (n : Int) + 1 ≤ p.ret then ([⟨k, u, n + 1, a, e⟩], e)
    else if (n : Int) = p.ret then ([⟨k, u, n + 1, a, tickAdd a tmo⟩], tickAdd a tmo)
    else (⟨k, u, n + 1, a, tickAdd a tmo⟩ :: (trC p tmo k u e m (n + 1) (tickAdd (tickAdd a tmo) (waitS p n))).1, (trC p tmo k u e m (n + 1) (tickAdd (tickAdd a tmo) (waitS p n))).2)
theorem trC_max (p : PlanT) (tmo k : Int) (u : Bool) (e : Int) (m n : Nat) (a : Int) (h : 1099511627776 ≤ a) : trC p tmo k u e m n a = ([], e) := by
  cases m with
  | zero => rfl
  | succ m => rw [trC, if_pos h]
def setTo (l : List WnT) (z : Int) : List WnT := match l[l.length - 1]? with
  | some w => l.set (l.length - 1) ⟨w.step, w.undo, w.try_, w.fr, z⟩
  | none => l
theorem setTo_app (P : List WnT) (k : Int) (u : Bool) (t a b z : Int) : setTo (P ++ [⟨k, u, t, a, b⟩]) z = P ++ [⟨k, u, t, a, z⟩] := by
  have h1 : (P ++ [(⟨k, u, t, a, b⟩ : WnT)]).length - 1 = P.length := by simp
  unfold setTo
  rw [h1, List.getElem?_append_right (Nat.le_refl _)]
  simp
def stepAt (d : DefT) (s : SgT) : StepT := (d.steps.list[s.step.toNat]?).getD ⟨eTx, eTx, 0, ⟨0, 0, 0, 0⟩, ⟨0, 0, 0, 0⟩, 0⟩
def mayB (d : DefT) (s : SgT) (now : Int) : Bool := !overS s && smayS d (stepAt d s) s now
def doS (d : DefT) (s : SgT) (now : Int) (k : Nat) : SgT := if (actS d (stepAt d s) s now k).2 = 0 then (actS d (stepAt d s) s now k).1 else s
theorem do_stay {d : DefT} {s : SgT} {now : Int} {k : Nat} (h : actS d (stepAt d s) s now k = (s, 9)) : doS d s now k = s := by
  rw [doS, h]
  rfl
theorem do_go {d : DefT} {s r : SgT} {now : Int} {k : Nat} (h : actS d (stepAt d s) s now k = (r, 0)) : doS d s now k = r := by
  rw [doS, h]
  rfl
abbrev winS (s : SgT) (now : Int) : WnT := ⟨s.step, decide (s.phase = 1), s.tries + 1, now, 0⟩
def play (d : DefT) (e : Int) : Nat → SgT → Int → List WnT → List WnT × SgT
  | 0, s, _, out => (out, s)
  | n + 1, s, now, out => if 1 < s.phase then (out, s)
    else if 1099511627776 ≤ (if s.phase = 0 ∧ e < s.due then e else s.due) then (if s.out = true then setTo out 1099511627776 else out, s)
    else
      let nw := if now < (if s.phase = 0 ∧ e < s.due then e else s.due) then (if s.phase = 0 ∧ e < s.due then e else s.due) else now
      let s2 := doS d (doS d s nw 0) nw 1
      let o2 := if s.out = true ∧ s2.out = false then setTo out nw else out
      if mayB d s2 nw = true then play d e n (emitS d (stepAt d s2) s2 nw) nw (o2 ++ [winS s2 nw]) else play d e n s2 nw o2
def mid (d : DefT) (e : Int) (n : Nat) (s2 : SgT) (nw : Int) (o2 : List WnT) : List WnT × SgT :=
  if mayB d s2 nw = true then play d e n (emitS d (stepAt d s2) s2 nw) nw (o2 ++ [winS s2 nw]) else play d e n s2 nw o2
theorem play_go (d : DefT) (e : Int) (n : Nat) (s : SgT) (now : Int) (out : List WnT) (nx nw : Int) (hp : s.phase ≤ 1) (hx : (if s.phase = 0 ∧ e < s.due then e else s.due) = nx) (h : nx < 1099511627776) (hw : (if now < nx then nx else now) = nw) (s1 s2 : SgT) (h1 : doS d s nw 0 = s1) (h2 : doS d s1 nw 1 = s2) :
    play d e (n + 1) s now out = mid d e n s2 nw (if s.out = true ∧ s2.out = false then setTo out nw else out) := by
  rw [play, if_neg (by omega), hx, if_neg (by omega)]
  dsimp only
  rw [hw, h1, h2]
  rfl
theorem play_end (d : DefT) (e : Int) (n : Nat) (s : SgT) (now : Int) (out : List WnT) (nx : Int) (hp : s.phase ≤ 1) (hx : (if s.phase = 0 ∧ e < s.due then e else s.due) = nx) (h : 1099511627776 ≤ nx) :
    play d e (n + 1) s now out = (if s.out = true then setTo out 1099511627776 else out, s) := by
  rw [play, if_neg (by omega), hx, if_pos h]
theorem play_over (d : DefT) (e : Int) (n : Nat) (s : SgT) (now : Int) (out : List WnT) (hp : 1 < s.phase) : play d e n s now out = (out, s) := by
  cases n with
  | zero => rfl
  | succ n => rw [play, if_pos hp]
theorem mid_no {d : DefT} {e : Int} {n : Nat} {s : SgT} {now : Int} {out : List WnT} (h : mayB d s now = false) : mid d e n s now out = play d e n s now out := by
  rw [mid, if_neg (by simp [h])]
theorem mid_yes {d : DefT} {e : Int} {n : Nat} {s : SgT} {now : Int} {out : List WnT} (h : mayB d s now = true) : mid d e n s now out = play d e n (emitS d (stepAt d s) s now) now (out ++ [winS s now]) := by
  rw [mid, if_pos h]
theorem tick_add {a b : Int} (h0 : 0 ≤ a) (h1 : a ≤ 1099511627776) (h2 : 1 ≤ b) (h3 : b ≤ 1099511627776) : a ≤ tickAdd a b ∧ tickAdd a b ≤ 1099511627776 ∧ (a < 1099511627776 → a < tickAdd a b) := by
  unfold tickAdd
  rw [tickOf_id h0 h1, tickOf_id (by omega) h3]
  unfold tickOf
  split
  · omega
  · split <;> omega
theorem tick_max {b : Int} (h2 : 1 ≤ b) (h3 : b ≤ 1099511627776) : tickAdd 1099511627776 b = 1099511627776 := by
  have := tick_add (a := 1099511627776) (by omega) (Int.le_refl _) h2 h3
  omega
theorem wait_in {p : PlanT} (h : PlanOK p) (n : Nat) : 1 ≤ waitS p n ∧ waitS p n ≤ 1099511627776 := by
  have h1 := h.b0; have h2 := h.bc; have h3 := h.c1
  have h4 := pow_pos' h.f0 n
  have h5 : 1 ≤ p.base * p.fac ^ n := by
    have := Int.mul_le_mul h1 h4 (by omega) (by omega)
    omega
  have h6 := (tickOf_in (p.base * p.fac ^ n)).2
  have h7 : 1 ≤ tickOf (p.base * p.fac ^ n) := by
    unfold tickOf
    split
    · omega
    · split <;> omega
  unfold waitS
  split <;> omega
section
variable {d : DefT} {t : StepT} {k : Int} (ht : d.steps.list[k.toNat]? = some t) (i : Int) (df : ByteArray) (b sk : Int)
include ht
theorem at_k (ph n : Int) (o : Bool) (du : Int) : stepAt d ⟨i, df, b, ph, k, n, o, du, sk⟩ = t := by
  unfold stepAt
  dsimp only
  rw [ht]
  rfl
theorem mid_U (hp : PlanOK t.un) (t1 : 1 ≤ t.timeout) (t2 : t.timeout ≤ 1099511627776) (e : Int) :
    ∀ (m n : Nat) (a a' : Int) (P : List WnT) (f : Nat), 1 ≤ m → ((n + m : Nat) : Int) = t.un.ret + 1 → 0 ≤ a → a < 1099511627776 → a' ≤ a → 2 * m ≤ f →
    ∃ s' : SgT, mid d e f ⟨i, df, b, 1, k, n, false, a', sk⟩ a P = (P ++ (trC t.un t.timeout k true (1099511627776 + 1) m n a).1, s') ∧ s'.phase = if 1099511627776 ≤ (trC t.un t.timeout k true (1099511627776 + 1) m n a).2 then 1 else 2
  | 0, n, a, a', P, f, h, _, _, _, _, _ => by omega
  | m + 1, n, a, a', P, f, h1, hm, a0, a1, ha, hf => by
    obtain ⟨f, rfl⟩ : ∃ g, f = g + 1 := ⟨f - 1, by omega⟩
    have e0 := at_k ht i df b sk
    obtain ⟨b1, b2, b3⟩ := tick_add a0 (by omega) t1 t2
    have b3 := b3 a1
    have hmay : mayB d ⟨i, df, b, 1, k, n, false, a', sk⟩ a = true := by
      have c4 : (n : Int) ≤ t.un.ret := by omega
      simp [mayB, overS, e0, smayS, planT, ha, c4]
    rw [mid_yes hmay, e0]
    simp only [emitS, winS, decide_true]
    rw [trC, if_neg (by omega), if_neg (by omega), if_neg (by omega), if_neg (by omega)]
    generalize tickAdd a t.timeout = z at *
    by_cases cz : 1099511627776 ≤ z
    · have hz : z = 1099511627776 := by omega
      rw [play_end d e f _ _ _ z (by dsimp only; omega) (if_neg (by dsimp only; omega)) cz, if_pos rfl, setTo_app]
      by_cases cn : (n : Int) = t.un.ret
      · rw [if_pos cn]
        exact ⟨_, by rw [hz], by rw [if_pos (by dsimp only; omega)]⟩
      · rw [if_neg cn, hz, tick_max (wait_in hp n).1 (wait_in hp n).2, trC_max _ _ _ _ _ _ _ _ (Int.le_refl _)]
        exact ⟨_, rfl, by rw [if_pos (by dsimp only; omega)]⟩
    · have hz : z < 1099511627776 := by omega
      obtain ⟨w1, w2⟩ := wait_in hp n
      have hover : ∀ du : Int, overS ⟨i, df, b, 1, k, (n : Int) + 1, true, du, sk⟩ = false := fun du => by simp [overS]
      have hlate : actS d t ⟨i, df, b, 1, k, (n : Int) + 1, true, z, sk⟩ z 0 = (failsS t ⟨i, df, b, 1, k, (n : Int) + 1, true, z, sk⟩ z, 0) := by
        rw [actS, hover, if_neg (by decide), actN, if_pos ⟨rfl, Int.le_refl _⟩]
      have h1 : doS d ⟨i, df, b, 1, k, (n : Int) + 1, true, z, sk⟩ z 0 = failsS t ⟨i, df, b, 1, k, (n : Int) + 1, true, z, sk⟩ z := by
        rw [doS, e0, hlate, if_pos rfl]
      by_cases cn : (n : Int) = t.un.ret
      · rw [if_pos cn]
        have hfl : failsS t ⟨i, df, b, 1, k, (n : Int) + 1, true, z, sk⟩ z = ⟨i, df, b, 2, k, (n : Int) + 1, false, z, sk⟩ := by
          rw [failsS, if_neg (by simp only [planT]; rw [if_neg (by omega)]; omega), if_neg (by dsimp only; omega)]
        have h2 : doS d ⟨i, df, b, 2, k, (n : Int) + 1, false, z, sk⟩ z 1 = ⟨i, df, b, 2, k, (n : Int) + 1, false, z, sk⟩ := by
          exact do_stay (by rw [e0, actS, if_neg (by simp [overS]), actN, if_neg (fun h => by dsimp only at h; omega)])
        rw [play_go d e f _ _ _ z z (by dsimp only; omega) (if_neg (by dsimp only; omega)) hz (if_pos b3) _ _ h1 ((congrArg (fun q => doS d q z 1) hfl).trans (h2)), if_pos ⟨rfl, rfl⟩, setTo_app, mid_no (by simp [mayB, smayS]), play_over _ _ _ _ _ _ (by dsimp only; omega)]
        exact ⟨_, rfl, by rw [if_neg (by dsimp only; omega)]⟩
      · rw [if_neg cn]
        have hle : (n : Int) + 1 ≤ t.un.ret := by omega
        have hfl : failsS t ⟨i, df, b, 1, k, (n : Int) + 1, true, z, sk⟩ z = ⟨i, df, b, 1, k, (n : Int) + 1, false, tickAdd z (waitS t.un n), sk⟩ := by
          rw [failsS]
          simp only [planT, (by decide : ¬ (1 : Int) = 0), if_false]
          rw [if_pos (by omega)]
          congr 2
          congr 1
          omega
        obtain ⟨g1, g2, g3⟩ := tick_add (a := z) (by omega) (by omega) w1 w2
        have g3 := g3 hz
        have h2 : ∀ du nw : Int, doS d ⟨i, df, b, 1, k, (n : Int) + 1, false, du, sk⟩ nw 1 = ⟨i, df, b, 1, k, (n : Int) + 1, false, du, sk⟩ := fun du nw => by
          exact do_stay (by rw [e0, actS, if_neg (by simp [overS]), actN, if_neg (fun h => by dsimp only at h; omega)])
        have h3 : ∀ du nw : Int, doS d ⟨i, df, b, 1, k, (n : Int) + 1, false, du, sk⟩ nw 0 = ⟨i, df, b, 1, k, (n : Int) + 1, false, du, sk⟩ := fun du nw => by
          exact do_stay (by rw [e0, actS, if_neg (by simp [overS]), actN, if_neg (fun h => by simp at h)])
        have hno : mayB d ⟨i, df, b, 1, k, (n : Int) + 1, false, tickAdd z (waitS t.un n), sk⟩ z = false := by
          have : ¬ tickAdd z (waitS t.un n) ≤ z := by omega
          simp [mayB, smayS, this]
        rw [play_go d e f _ _ _ z z (by dsimp only; omega) (if_neg (by dsimp only; omega)) hz (if_pos b3) _ _ h1 ((congrArg (fun q => doS d q z 1) hfl).trans (h2 _ _)), if_pos ⟨rfl, rfl⟩, setTo_app, mid_no hno]
        obtain ⟨f, rfl⟩ : ∃ g, f = g + 1 := ⟨f - 1, by omega⟩
        generalize tickAdd z (waitS t.un n) = y at *
        by_cases cy : 1099511627776 ≤ y
        · rw [play_end d e f _ _ _ y (by dsimp only; omega) (if_neg (by dsimp only; omega)) cy, if_neg (by simp), trC_max _ _ _ _ _ _ _ _ cy]
          exact ⟨_, rfl, rfl⟩
        · rw [play_go d e f _ _ _ y y (by dsimp only; omega) (if_neg (by dsimp only; omega)) (by omega) (if_pos g3) _ _ (h3 _ _) (h2 _ _), if_neg (fun h => by cases h.1)]
          obtain ⟨s', q1, q2⟩ := mid_U hp t1 t2 e m (n + 1) y y (P ++ [⟨k, true, (n : Int) + 1, a, z⟩]) f (by omega) (by omega) (by omega) (by omega) (Int.le_refl _) (by omega)
          rw [Int.natCast_succ] at q1
          refine ⟨s', ?_, q2⟩
          rw [q1, List.append_assoc]
          rfl
theorem play_F (hp : PlanOK t.tr) (t1 : 1 ≤ t.timeout) (t2 : t.timeout ≤ 1099511627776) (e : Int) (he : e = endS d b) (e1 : e ≤ 1099511627776 + 1) :
    ∀ (m n : Nat) (a now : Int) (P : List WnT) (f : Nat), 1 ≤ m → ((n + m : Nat) : Int) = t.tr.ret + 1 → 0 ≤ a → a ≤ 1099511627776 → now ≤ a → now ≤ e → 0 ≤ now → 2 * m + 1 ≤ f →
    0 ≤ (trC t.tr t.timeout k false e m n a).2 ∧
    (1099511627776 ≤ (trC t.tr t.timeout k false e m n a).2 → ∃ s' : SgT, play d e f ⟨i, df, b, 0, k, n, false, a, sk⟩ now P = (P ++ (trC t.tr t.timeout k false e m n a).1, s') ∧ s'.phase = 0) ∧
    ((trC t.tr t.timeout k false e m n a).2 < 1099511627776 → ∃ (f' : Nat) (n' du : Int) (o : Bool), f ≤ f' + (2 * m + 1) ∧
      play d e f ⟨i, df, b, 0, k, n, false, a, sk⟩ now P = mid d e f' (backS ⟨i, df, b, 0, k, n', o, du, sk⟩ (trC t.tr t.timeout k false e m n a).2) (trC t.tr t.timeout k false e m n a).2 (P ++ (trC t.tr t.timeout k false e m n a).1))
  | 0, n, a, now, P, f, h, _, _, _, _, _, _, _ => by omega
  | m + 1, n, a, now, P, f, h1, hm, a0, a1, hna, hne, hn0, hf => by
    obtain ⟨f, rfl⟩ : ∃ g, f = g + 1 := ⟨f - 1, by omega⟩
    have e0 := at_k ht i df b sk
    have n1 : ∀ du nw : Int, doS d ⟨i, df, b, 0, k, n, false, du, sk⟩ nw 0 = ⟨i, df, b, 0, k, n, false, du, sk⟩ := fun du nw => by
      exact do_stay (by rw [e0, actS, if_neg (by simp [overS]), actN, if_neg (fun h => by simp at h)])
    have x1 : ∀ (r : Int) (o : Bool) (du nw : Int), e ≤ nw → doS d ⟨i, df, b, 0, k, r, o, du, sk⟩ nw 1 = backS ⟨i, df, b, 0, k, r, o, du, sk⟩ nw := fun r o du nw h => by
      exact do_go (by rw [e0, actS, if_neg (by simp [overS]), actN, if_pos ⟨rfl, by rw [← he]; exact h⟩])
    have x0 : ∀ (r : Int) (o : Bool) (du nw : Int), nw < e → doS d ⟨i, df, b, 0, k, r, o, du, sk⟩ nw 1 = ⟨i, df, b, 0, k, r, o, du, sk⟩ := fun r o du nw h => by
      exact do_stay (by rw [e0, actS, if_neg (by simp [overS]), actN, if_neg (fun hh => by have := hh.2; rw [← he] at this; omega)])
    have bo : ∀ (r : Int) (o : Bool) (du nw : Int), (backS ⟨i, df, b, 0, k, r, o, du, sk⟩ nw).out = false := fun r o du nw => by
      unfold backS
      split <;> rfl
    by_cases c1 : e ≤ a
    · have hR : trC t.tr t.timeout k false e (m + 1) n a = ([], e) := by
        rw [trC]
        split
        · rfl
        · first | rfl | rw [if_pos c1]
      have hx : (if (0 : Int) = 0 ∧ e < a then e else a) = e := by split <;> omega
      rw [hR]
      refine ⟨by dsimp only; omega, fun h => ?_, fun h => ?_⟩
      · exact ⟨⟨i, df, b, 0, k, n, false, a, sk⟩, by rw [play_end d e f _ _ _ e (by dsimp only; omega) hx h, if_neg (by simp), List.append_nil], rfl⟩
      · refine ⟨f, n, a, false, by omega, ?_⟩
        rw [play_go d e f _ _ _ e e (by dsimp only; omega) hx h (by split <;> omega) _ _ (n1 _ _) (x1 _ _ _ _ (Int.le_refl _)), if_neg (fun hh => by cases hh.1), List.append_nil]
    · have hx : (if (0 : Int) = 0 ∧ e < a then e else a) = a := if_neg (by omega)
      by_cases c2 : 1099511627776 ≤ a
      · rw [trC_max _ _ _ _ _ _ _ _ c2]
        refine ⟨by dsimp only; omega, fun h => ?_, fun h => by dsimp only at h; omega⟩
        exact ⟨⟨i, df, b, 0, k, n, false, a, sk⟩, by rw [play_end d e f _ _ _ a (by dsimp only; omega) hx c2, if_neg (by simp), List.append_nil], rfl⟩
      · obtain ⟨b1, b2, b3⟩ := tick_add a0 (by omega) t1 t2
        have b3 := b3 (by omega)
        have hmay : mayB d ⟨i, df, b, 0, k, n, false, a, sk⟩ a = true := by
          have c3 : a < endS d b := by rw [← he]; omega
          have c4 : (n : Int) ≤ t.tr.ret := by omega
          simp [mayB, overS, e0, smayS, planT, c3, c4]
        have hrun : play d e (f + 1) ⟨i, df, b, 0, k, n, false, a, sk⟩ now P = play d e f ⟨i, df, b, 0, k, (n : Int) + 1, true, tickAdd a t.timeout, sk⟩ a (P ++ [⟨k, false, (n : Int) + 1, a, 0⟩]) := by
          rw [play_go d e f _ _ _ a a (by dsimp only; omega) hx (by omega) (by split <;> omega) _ _ (n1 _ _) (x0 _ _ _ _ (by omega)), if_neg (fun hh => by cases hh.1), mid_yes hmay, e0]
          rfl
        rw [hrun]
        rw [trC, if_neg c2, if_neg c1]
        obtain ⟨f, rfl⟩ : ∃ g, f = g + 1 := ⟨f - 1, by omega⟩
        generalize tickAdd a t.timeout = z at *
        by_cases c3 : e < z
        · have hx2 : (if (0 : Int) = 0 ∧ e < z then e else z) = e := if_pos ⟨rfl, c3⟩
          have l0 : doS d ⟨i, df, b, 0, k, (n : Int) + 1, true, z, sk⟩ e 0 = ⟨i, df, b, 0, k, (n : Int) + 1, true, z, sk⟩ := by
            exact do_stay (by rw [e0, actS, if_neg (by simp [overS]), actN, if_neg (fun h => by have := h.2; dsimp only at this; omega)])
          rw [if_pos c3]
          refine ⟨by dsimp only; omega, fun h => by dsimp only at h; omega, fun h => ⟨f, (n : Int) + 1, z, true, by omega, ?_⟩⟩
          rw [play_go d e f _ _ _ e e (by dsimp only; omega) hx2 (by omega) (by split <;> omega) _ _ l0 (x1 _ _ _ _ (Int.le_refl _)), if_pos ⟨rfl, bo _ _ _ _⟩, setTo_app]
        · have hx2 : (if (0 : Int) = 0 ∧ e < z then e else z) = z := if_neg (by omega)
          rw [if_neg c3]
          by_cases cz : 1099511627776 ≤ z
          · have hz : z = 1099511627776 := by omega
            have hst : play d e (f + 1) ⟨i, df, b, 0, k, (n : Int) + 1, true, z, sk⟩ a (P ++ [⟨k, false, (n : Int) + 1, a, 0⟩]) = (P ++ [⟨k, false, (n : Int) + 1, a, z⟩], ⟨i, df, b, 0, k, (n : Int) + 1, true, z, sk⟩) := by
              rw [play_end d e f _ _ _ z (by dsimp only; omega) hx2 cz, if_pos rfl, setTo_app, hz]
            rw [hst]
            by_cases c4 : z = e ∧ (n : Int) + 1 ≤ t.tr.ret
            · rw [if_pos c4, c4.1]
              exact ⟨by dsimp only; omega, fun _ => ⟨_, rfl, rfl⟩, fun h => by dsimp only at h; omega⟩
            · rw [if_neg c4]
              by_cases c5 : (n : Int) = t.tr.ret
              · rw [if_pos c5]
                exact ⟨by dsimp only; omega, fun _ => ⟨_, rfl, rfl⟩, fun h => by dsimp only at h; omega⟩
              · rw [if_neg c5, hz, tick_max (wait_in hp n).1 (wait_in hp n).2, trC_max _ _ _ _ _ _ _ _ (Int.le_refl _)]
                exact ⟨by dsimp only; omega, fun _ => ⟨_, rfl, rfl⟩, fun h => by dsimp only at h; omega⟩
          · have hz : z < 1099511627776 := by omega
            obtain ⟨w1, w2⟩ := wait_in hp n
            have hl : doS d ⟨i, df, b, 0, k, (n : Int) + 1, true, z, sk⟩ z 0 = failsS t ⟨i, df, b, 0, k, (n : Int) + 1, true, z, sk⟩ z := by
              exact do_go (by rw [e0, actS, if_neg (by simp [overS]), actN, if_pos ⟨rfl, Int.le_refl _⟩])
            by_cases c5 : (n : Int) = t.tr.ret
            · have hfl : failsS t ⟨i, df, b, 0, k, (n : Int) + 1, true, z, sk⟩ z = backS ⟨i, df, b, 0, k, (n : Int) + 1, true, z, sk⟩ z := by
                rw [failsS]
                simp only [planT, if_true]
                rw [if_neg (by omega)]
              have hx3 : doS d (backS ⟨i, df, b, 0, k, (n : Int) + 1, true, z, sk⟩ z) z 1 = backS ⟨i, df, b, 0, k, (n : Int) + 1, true, z, sk⟩ z := by
                have hne : (backS ⟨i, df, b, 0, k, (n : Int) + 1, true, z, sk⟩ z).phase ≠ 0 := by
                  unfold backS; split <;> simp [putS, sendS]
                generalize backS ⟨i, df, b, 0, k, (n : Int) + 1, true, z, sk⟩ z = B at hne ⊢
                have h1 : (actS d (stepAt d B) B z 1).1 = B := by
                  unfold actS
                  split
                  · rfl
                  · show (if B.phase = 0 ∧ endS d B.start ≤ z then (backS B z, (0 : Int)) else (B, 9)).1 = B
                    rw [if_neg (fun hh => hne hh.1)]
                unfold doS
                split
                · exact h1
                · rfl
              rw [if_neg (by omega), if_pos c5]
              refine ⟨by dsimp only; omega, fun h => absurd h cz, fun h => ⟨f, (n : Int) + 1, z, true, by omega, ?_⟩⟩
              rw [play_go d e f _ _ _ z z (by dsimp only; omega) hx2 hz (by split <;> omega) _ _ hl ((congrArg (fun q => doS d q z 1) hfl).trans (hx3)), if_pos ⟨rfl, bo _ _ _ _⟩, setTo_app]
            · have hfl : failsS t ⟨i, df, b, 0, k, (n : Int) + 1, true, z, sk⟩ z = ⟨i, df, b, 0, k, (n : Int) + 1, false, tickAdd z (waitS t.tr n), sk⟩ := by
                rw [failsS]
                simp only [planT, if_true]
                rw [if_pos (by omega)]
                congr 2
                congr 1
                omega
              obtain ⟨g1, g2, g3⟩ := tick_add (a := z) (by omega) (by omega) w1 w2
              have g3 := g3 hz
              by_cases c4 : z = e
              · rw [if_pos ⟨c4, by omega⟩]
                refine ⟨by dsimp only; omega, fun h => by dsimp only at h; omega, fun h => ⟨f, (n : Int) + 1, tickAdd z (waitS t.tr n), false, by omega, ?_⟩⟩
                rw [play_go d e f _ _ _ z z (by dsimp only; omega) hx2 hz (by split <;> omega) _ _ hl ((congrArg (fun q => doS d q z 1) hfl).trans (x1 _ _ _ _ (by omega))), if_pos ⟨rfl, bo _ _ _ _⟩, setTo_app, c4]
              · rw [if_neg (fun h => c4 h.1), if_neg c5]
                have hno : mayB d ⟨i, df, b, 0, k, (n : Int) + 1, false, tickAdd z (waitS t.tr n), sk⟩ z = false := by
                  have : ¬ tickAdd z (waitS t.tr n) ≤ z := by omega
                  simp [mayB, smayS, this]
                have hrun2 : play d e (f + 1) ⟨i, df, b, 0, k, (n : Int) + 1, true, z, sk⟩ a (P ++ [⟨k, false, (n : Int) + 1, a, 0⟩]) = play d e f ⟨i, df, b, 0, k, (n : Int) + 1, false, tickAdd z (waitS t.tr n), sk⟩ z (P ++ [⟨k, false, (n : Int) + 1, a, z⟩]) := by
                  rw [play_go d e f _ _ _ z z (by dsimp only; omega) hx2 hz (by split <;> omega) _ _ hl ((congrArg (fun q => doS d q z 1) hfl).trans (x0 _ _ _ _ (by omega))), if_pos ⟨rfl, rfl⟩, setTo_app, mid_no hno]
                obtain ⟨q0, q1, q2⟩ := play_F hp t1 t2 e he e1 m (n + 1) (tickAdd z (waitS t.tr n)) z (P ++ [⟨k, false, (n : Int) + 1, a, z⟩]) f (by omega) (by omega) (by omega) g2 (by omega) (by omega) (by omega) (by omega)
                rw [Int.natCast_succ] at q1 q2
                rw [hrun2]
                refine ⟨q0, fun h => ?_, fun h => ?_⟩
                · obtain ⟨s', r1, r2⟩ := q1 h
                  exact ⟨s', by rw [r1, List.append_assoc]; rfl, r2⟩
                · obtain ⟨f', n', du, o, r1, r2⟩ := q2 h
                  exact ⟨f', n', du, o, by omega, by rw [r2, List.append_assoc]; rfl⟩
end
def foreS (d : DefT) (start done : Int) : List WnT × Int := match d.steps.list[done.toNat]? with
  | none => ([], 0)
  | some t =>
    if 1099511627776 ≤ (trC t.tr t.timeout done false (endS d start) (t.tr.ret + 1).toNat 0 start).2 then ((trC t.tr t.timeout done false (endS d start) (t.tr.ret + 1).toNat 0 start).1, 0)
    else if done = 0 then ((trC t.tr t.timeout done false (endS d start) (t.tr.ret + 1).toNat 0 start).1, 4)
    else match d.steps.list[(done - 1).toNat]? with
      | none => ([], 0)
      | some t2 => ((trC t.tr t.timeout done false (endS d start) (t.tr.ret + 1).toNat 0 start).1 ++ (trC t2.un t2.timeout (done - 1) true (1099511627776 + 1) (t2.un.ret + 1).toNat 0 (trC t.tr t.timeout done false (endS d start) (t.tr.ret + 1).toNat 0 start).2).1,
          if 1099511627776 ≤ (trC t2.un t2.timeout (done - 1) true (1099511627776 + 1) (t2.un.ret + 1).toNat 0 (trC t.tr t.timeout done false (endS d start) (t.tr.ret + 1).toNat 0 start).2).2 then 0 else 2)
theorem step_at0 {d : DefT} {i : Int} (h0 : 0 ≤ i) (h1 : i < d.steps.list.length) : ∃ t, d.steps.list[i.toNat]? = some t :=
  ⟨_, List.getElem?_eq_getElem (by omega)⟩
theorem end_in (d : DefT) {a : Int} (h0 : 0 ≤ a) (h1 : a ≤ 1099511627776) : a ≤ endS d a ∧ endS d a ≤ 1099511627776 + 1 := by
  unfold endS
  split
  · omega
  · unfold tickAdd
    rw [tickOf_id h0 h1]
    have h2 := tickOf_in d.deadline
    have : tickOf (a + tickOf d.deadline) = a + tickOf d.deadline ∨ tickOf (a + tickOf d.deadline) = 1099511627776 := by
      unfold tickOf
      split <;> (try split) <;> omega
    have h3 := tickOf_in (a + tickOf d.deadline)
    omega
theorem fore_play {d : DefT} (hd : DOK d) (start done : Int) (a0 : 0 ≤ start) (a1 : start ≤ 1099511627776) (k0 : 0 ≤ done) (k1 : done < d.steps.list.length) :
    ∃ s' : SgT, play d (endS d start) 5000 ⟨0, d.name, start, 0, done, 0, false, start, 0⟩ start [] = ((foreS d start done).1, s') ∧ (if 1 < s'.phase then s'.phase else 0) = (foreS d start done).2 := by
  obtain ⟨t, ht⟩ := step_at0 k0 k1
  obtain ⟨p1, p2, t1, t2⟩ := hd.step ht
  have p1 := plan_ok p1
  obtain ⟨e1, e2⟩ := end_in d a0 a1
  have r0 := p1.r0; have r1 := p1.r1
  obtain ⟨q0, q1, q2⟩ := play_F ht 0 d.name start 0 p1 t1 t2 (endS d start) rfl e2 (t.tr.ret + 1).toNat 0 start start [] 5000 (by omega) (by omega) a0 a1 (Int.le_refl _) e1 a0 (by omega)
  simp only [Int.natCast_zero] at q0 q1 q2
  unfold foreS
  rw [ht]
  dsimp only
  generalize trC t.tr t.timeout done false (endS d start) (t.tr.ret + 1).toNat 0 start = R at *
  by_cases c : 1099511627776 ≤ R.2
  · obtain ⟨s', h1, h2⟩ := q1 c
    rw [if_pos c]
    exact ⟨s', by rw [h1, List.nil_append], by rw [h2]; rfl⟩
  · obtain ⟨f', n', du, o, h1, h2⟩ := q2 (by omega)
    rw [if_neg c]
    rw [h2, List.nil_append]
    by_cases c0 : done = 0
    · rw [if_pos c0]
      subst c0
      have hb : backS ⟨0, d.name, start, 0, 0, n', o, du, 0⟩ R.2 = ⟨0, d.name, start, 4, 0, n', false, du, 0⟩ := by
        rw [backS, if_neg (by dsimp only; omega)]
        rfl
      rw [hb, mid_no (by simp [mayB, overS]), play_over _ _ _ _ _ _ (by dsimp only; omega)]
      exact ⟨_, rfl, rfl⟩
    · rw [if_neg c0]
      have hb : backS ⟨0, d.name, start, 0, done, n', o, du, 0⟩ R.2 = ⟨0, d.name, start, 1, done - 1, 0, false, R.2, 0⟩ := by
        rw [backS, if_pos (by dsimp only; omega)]
        rfl
      obtain ⟨t', ht'⟩ := step_at0 (d := d) (i := done - 1) (by omega) (by omega)
      obtain ⟨_, u2, u3, u4⟩ := hd.step ht'
      have u2 := plan_ok u2
      have v0 := u2.r0; have v1 := u2.r1
      rw [hb, ht']
      dsimp only
      obtain ⟨s', w1, w2⟩ := mid_U ht' 0 d.name start 0 u2 u3 u4 (endS d start) (t'.un.ret + 1).toNat 0 R.2 R.2 R.1 f' (by omega) (by omega) q0 (by omega) (Int.le_refl _) (by omega)
      simp only [Int.natCast_zero] at w1
      refine ⟨s', w1, ?_⟩
      rw [w2]
      split <;> rfl
end Go.Proofs.YtoobogpbejdocaaDoor.Ev
