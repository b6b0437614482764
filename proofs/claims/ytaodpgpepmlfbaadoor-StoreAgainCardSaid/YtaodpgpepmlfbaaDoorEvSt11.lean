/-
  What is done to a store is what the document does.
-/
import Derived.Test.YtaodpgpepmlfbaaDoorEvSt10
set_option linter.unusedVariables false
set_option linter.unusedSimpArgs false
namespace Go.Proofs.YtaodpgpepmlfbaaDoor.Ev
def doS (cap : Int) (x : List FX) (down : Bool) (a : ActT) : List FX × Bool × Int :=
  if a.k = 6 then (if down = true then (bootR a.kp.list x 0, false, 0) else (x, down, 9))
  else if a.k = 5 then (x, true, 0)
  else if down = true then (x, down, 12)
  else if a.k ≤ 1 then (if labelGood a.nm = false then (x, down, 10) else match fndF a.nm x with
    | none => if 256 ≤ (x.length : Int) then (x, down, 8) else if cap - totF x < a.b.list.length then (x, down, 13) else (withF x ⟨a.nm, BAl a.b.list, 0, false⟩, down, 0)
    | some f => if cap - totF x < a.b.list.length then (x, down, 13) else (withF x ⟨a.nm, f.b ++ BAl a.b.list, f.sf, f.sy⟩, down, 0))
  else match fndF a.nm x with
    | none => (x, down, 7)
    | some f => if a.k = 2 then (withF x ⟨a.nm, f.b, f.b.size, true⟩, down, 0)
      else if a.k = 3 then (if a.n < 0 ∨ (f.b.size : Int) < a.n then (x, down, 1) else (withF x ⟨a.nm, f.b.extract 0 a.n.toNat, if a.n < f.sf then a.n else f.sf, f.sy⟩, down, 0))
      else (withoutF x a.nm, down, 0)
/-- Does the power go at it? -/
def buS (k want fuse : Int) : Bool := decide (k ≤ 4) && decide (want = 0) && decide (fuse = 1)
/-- The deeds that are left. -/
def fuS (k want fuse : Int) : Int := if k = 5 then 0 else if k ≤ 4 ∧ want = 0 ∧ 0 < fuse then fuse - 1 else fuse
theorem buS_no {k want fuse : Int} (h : want ≠ 0) : buS k want fuse = false := by simp [buS, h]
theorem fuS_no {k want fuse : Int} (h : want ≠ 0) (h5 : k ≠ 5) : fuS k want fuse = fuse := by simp [fuS, h, h5]
theorem buS_yes {k fuse : Int} (h : k ≤ 4) : buS k 0 fuse = burnt fuse := by
  unfold buS burnt
  by_cases c : fuse = 0 <;> by_cases d : fuse = 1 <;> simp [h, c, d] <;> omega
theorem fuS_yes {k fuse : Int} (h : k ≤ 4) (hf : 0 ≤ fuse) : fuS k 0 fuse = fuseD fuse := by
  unfold fuS fuseD
  rw [if_neg (by omega)]
  by_cases c : fuse = 0
  · rw [if_pos c, if_neg (by omega), c]
  · rw [if_neg c, if_pos ⟨h, rfl, by omega⟩]
theorem downD_no (fuse : Int) : downD fuse false = (false || burnt fuse) := by
  unfold downD burnt
  by_cases c : fuse = 0 <;> simp [c]
/-- What is done, by the document, where it can be done. -/
def RunSays (cap fuse : Int) (l x : List FX) (down : Bool) (a : ActT) : Prop :=
  ∃ l', runS cap l down fuse a = (if buS a.k (doS cap x down a).2.2 fuse = true then 12 else (doS cap x down a).2.2, fuS a.k (doS cap x down a).2.2 fuse, ((doS cap x down a).2.1 || buS a.k (doS cap x down a).2.2 fuse), l') ∧
    Inv cap l' (if (!buS a.k (doS cap x down a).2.2 fuse || decide (a.k ≤ 1)) = true then (doS cap x down a).1 else x)
theorem says_no {cap fuse : Int} {l x : List FX} {down : Bool} {a : ActT} (h : Inv cap l x) {want : Int} (hw : want ≠ 0) (h5 : a.k ≠ 5) (h1 : doS cap x down a = (x, down, want)) (h2 : runS cap l down fuse a = (want, fuse, down, l)) : RunSays cap fuse l x down a := by
  refine ⟨l, ?_, ?_⟩
  · rw [h1, h2]
    simp only [buS_no hw, fuS_no hw h5, Bool.false_eq_true, if_false, Bool.or_false]
  · rw [h1]
    simp only [buS_no hw, Bool.not_false, Bool.true_or, if_true]
    exact h
theorem says_yes {cap fuse : Int} {l l' x y : List FX} {a : ActT} (hf : 0 ≤ fuse) (hk : a.k ≤ 4) (h : Inv cap l x) (h1 : doS cap x false a = (y, false, 0)) (h2 : runS cap l false fuse a = (if burnt fuse = true then 12 else 0, fuseD fuse, downD fuse false, if (!burnt fuse || decide (a.k ≤ 1)) = true then l' else l)) (hy : Inv cap l' y) :
    RunSays cap fuse l x false a := by
  refine ⟨if (!burnt fuse || decide (a.k ≤ 1)) = true then l' else l, ?_, ?_⟩
  · rw [h1, h2]
    simp only [buS_yes hk, fuS_yes hk hf, downD_no]
  · rw [h1]
    simp only [buS_yes hk]
    split
    · exact hy
    · exact h
theorem run_do {cap fuse : Int} {l x : List FX} {down : Bool} {a : ActT} (h : Inv cap l x) (hc : 0 ≤ cap ∧ cap ≤ 4611686018427387904) (hf : 0 ≤ fuse) (hn : a.nm.size ≤ 100) (hk : 0 ≤ a.k ∧ a.k ≤ 6) : RunSays cap fuse l x down a := by
  have hfd : fndF a.nm l = fndF a.nm x := fnd_perm h.p (nod_perm h.p.symm h.s.nod)
  have htl : totF l = totF x := tot_perm h.p
  have hll : l.length = x.length := h.p.length_eq
  have hgood : ∀ f, fndF a.nm x = some f → f ∈ x ∧ f.n = a.nm ∧ labelGood a.nm = true ∧ hasF a.nm x = true := fun f e => by
    obtain ⟨e1, e2⟩ := fnd_mem e
    exact ⟨e1, e2, by rw [← e2]; exact (h.n f e1).2, has_iff.2 ⟨f, e1, e2⟩⟩
  have hno : fndF a.nm x = none → hasF a.nm x = false := fun e => by
    have := fnd_has (n := a.nm) (x := x)
    rw [e] at this
    exact this.symm
  by_cases k6 : a.k = 6
  · have r6 : runS cap l down fuse a = bootS l down fuse a.kp.list := by
      unfold runS
      rw [if_neg (by omega), if_neg (by omega), if_neg (by omega), if_neg (by omega), if_neg (by omega), if_pos k6]
    cases down with
    | false => exact says_no h (want := 9) (by decide) (by omega) (by unfold doS; rw [if_pos k6]; rfl) (by rw [r6]; rfl)
    | true =>
      have hd : doS cap x true a = (bootR a.kp.list x 0, false, 0) := by unfold doS; rw [if_pos k6]; rfl
      have hb : buS a.k 0 fuse = false := by unfold buS; simp; omega
      refine ⟨bootL a.kp.list (sortN (l.map FX.n)) 0 l, ?_, ?_⟩
      · rw [hd, r6]
        simp only [hb, Bool.false_eq_true, if_false, Bool.or_false, bootS, if_true, fuS]
        rw [if_neg (by omega), if_neg (by omega)]
      · rw [hd]
        simp only [hb, Bool.not_false, Bool.true_or, if_true]
        exact (inv_boot h hc.2 a.kp.list).2
  · by_cases k5 : a.k = 5
    · have r5 : runS cap l down fuse a = crashS l := by
        unfold runS
        rw [if_neg (by omega), if_neg (by omega), if_neg (by omega), if_neg (by omega), if_pos k5]
      have hd : doS cap x down a = (x, true, 0) := by unfold doS; rw [if_neg k6, if_pos k5]
      have hb : buS a.k 0 fuse = false := by unfold buS; simp; omega
      refine ⟨l, ?_, ?_⟩
      · rw [hd, r5]
        simp only [hb, Bool.false_eq_true, if_false, Bool.or_false, crashS, fuS]
        rw [if_pos k5]
      · rw [hd]
        simp only [hb, Bool.not_false, Bool.true_or, if_true]
        exact h
    · by_cases k1 : a.k ≤ 1
      · have r1 : runS cap l down fuse a = appS cap l down fuse a.nm a.b.list := by
          unfold runS
          rw [if_pos (by omega)]
        have hdd : decide (a.k ≤ 1) = true := decide_eq_true k1
        cases down with
        | true => exact says_no h (want := 12) (by decide) k5 (by unfold doS; rw [if_neg k6, if_neg k5]; rfl) (by rw [r1]; rfl)
        | false =>
          have hd : doS cap x false a = ((if labelGood a.nm = false then (x, false, 10) else match fndF a.nm x with
              | none => if 256 ≤ (x.length : Int) then (x, false, 8) else if cap - totF x < a.b.list.length then (x, false, 13) else (withF x ⟨a.nm, BAl a.b.list, 0, false⟩, false, 0)
              | some f => if cap - totF x < a.b.list.length then (x, false, 13) else (withF x ⟨a.nm, f.b ++ BAl a.b.list, f.sf, f.sy⟩, false, 0)) : List FX × Bool × Int) := by
            unfold doS
            rw [if_neg k6, if_neg k5, if_neg (show ¬ (false = true) by decide), if_pos k1]
          have hr : runS cap l false fuse a = ((if labelGood a.nm = false then (10, fuse, false, l) else match fndF a.nm x with
              | none => if l.length = 256 then (8, fuse, false, l) else if cap - totF x < a.b.list.length then (13, fuse, false, l) else (if burnt fuse = true then 12 else 0, fuseD fuse, downD fuse false, putL ⟨a.nm, BAl a.b.list, 0, false⟩ l)
              | some f => if cap - totF x < a.b.list.length then (13, fuse, false, l) else (if burnt fuse = true then 12 else 0, fuseD fuse, downD fuse false, putL ⟨a.nm, f.b ++ BAl a.b.list, f.sf, f.sy⟩ l)) : Int × Int × Bool × List FX) := by
            rw [r1]
            unfold appS
            rw [if_neg (show ¬ (false = true) by decide), hfd, htl]
            cases fndF a.nm x <;> rfl
          cases hg : labelGood a.nm with
          | false =>
            rw [hg] at hd hr
            exact says_no h (want := 10) (by decide) k5 hd hr
          | true =>
            rw [hg, if_neg (show ¬ (true = false) by decide)] at hd hr
            cases hfx : fndF a.nm x with
            | none =>
              rw [hfx] at hd hr
              simp only at hd hr
              by_cases c1 : x.length = 256
              · rw [if_pos (by omega)] at hd hr
                exact says_no h (want := 8) (by decide) k5 hd hr
              · rw [if_neg (by have := h.c; omega)] at hd
                rw [if_neg (by omega)] at hr
                by_cases c2 : cap - totF x < a.b.list.length
                · rw [if_pos c2] at hd hr
                  exact says_no h (want := 13) (by decide) k5 hd hr
                · rw [if_neg c2] at hd hr
                  refine says_yes hf (by omega) h hd (by rw [hr, hdd, Bool.or_true]; rfl) ?_
                  have hs := BAl_size a.b.list
                  have e0 := tot_no (hno hfx)
                  refine inv_put h _ ⟨by show (0 : Int) ≤ 0; omega, by show (0 : Int) ≤ ((BAl a.b.list).size : Nat); omega⟩ ⟨hn, hg⟩ ?_ (.inr (by have := h.c; omega))
                  show ((totF (filF a.nm x) + (BAl a.b.list).size : Nat) : Int) ≤ cap
                  rw [e0]; omega
            | some f =>
              rw [hfx] at hd hr
              simp only at hd hr
              by_cases c2 : cap - totF x < a.b.list.length
              · rw [if_pos c2] at hd hr
                exact says_no h (want := 13) (by decide) k5 hd hr
              · rw [if_neg c2] at hd hr
                refine says_yes hf (by omega) h hd (by rw [hr, hdd, Bool.or_true]; rfl) ?_
                obtain ⟨g1, g2, g3, g4⟩ := hgood f hfx
                have hs := BAl_size a.b.list
                have hw := h.w f g1
                have ht := tot_fil h.s.nod hfx
                have hsz : (f.b ++ BAl a.b.list).size = f.b.size + a.b.list.length := by rw [ByteArray.size_append, hs]
                refine inv_put h _ ⟨hw.1, by show f.sf ≤ ((f.b ++ BAl a.b.list).size : Int); omega⟩ ⟨hn, hg⟩ ?_ (.inl g4)
                show ((totF (filF a.nm x) + (f.b ++ BAl a.b.list).size : Nat) : Int) ≤ cap
                omega
      · -- a file that must be there
        have hdd : decide (a.k ≤ 1) = false := decide_eq_false k1
        have hdg : doS cap x down a = (if down = true then (x, down, 12) else match fndF a.nm x with
            | none => (x, down, 7)
            | some f => if a.k = 2 then (withF x ⟨a.nm, f.b, f.b.size, true⟩, down, 0)
              else if a.k = 3 then (if a.n < 0 ∨ (f.b.size : Int) < a.n then (x, down, 1) else (withF x ⟨a.nm, f.b.extract 0 a.n.toNat, if a.n < f.sf then a.n else f.sf, f.sy⟩, down, 0))
              else (withoutF x a.nm, down, 0) : List FX × Bool × Int) := by
          unfold doS
          rw [if_neg k6, if_neg k5, if_neg k1]
        have hr0 : (down = true → runS cap l down fuse a = (12, fuse, down, l)) ∧ (down = false → fndF a.nm x = none → runS cap l down fuse a = (7, fuse, down, l)) := by
          constructor
          · intro e
            subst e
            unfold runS
            rw [if_neg (by omega)]
            by_cases k2 : a.k = 2
            · rw [if_pos k2]; rfl
            · rw [if_neg k2]
              by_cases k3 : a.k = 3
              · rw [if_pos k3]; rfl
              · rw [if_neg k3, if_pos (by omega)]; rfl
          · intro e e2
            subst e
            unfold runS
            rw [if_neg (by omega)]
            by_cases k2 : a.k = 2
            · rw [if_pos k2]; unfold syncS; rw [if_neg (show ¬ (false = true) by decide), hfd, e2]
            · rw [if_neg k2]
              by_cases k3 : a.k = 3
              · rw [if_pos k3]; unfold truncS; rw [if_neg (show ¬ (false = true) by decide), hfd, e2]
              · rw [if_neg k3, if_pos (by omega)]; unfold removeS; rw [if_neg (show ¬ (false = true) by decide), hfd, e2]
        cases down with
        | true => exact says_no h (want := 12) (by decide) k5 (by rw [hdg]; rfl) (hr0.1 rfl)
        | false =>
          rw [if_neg (show ¬ (false = true) by decide)] at hdg
          cases hfx : fndF a.nm x with
          | none =>
            rw [hfx] at hdg
            exact says_no h (want := 7) (by decide) k5 hdg (hr0.2 rfl hfx)
          | some f =>
            rw [hfx] at hdg
            simp only at hdg
            obtain ⟨g1, g2, g3, g4⟩ := hgood f hfx
            have hw := h.w f g1
            have ht := tot_fil h.s.nod hfx
            have htx := h.t
            have hbu : ∀ l' : List FX, ((if burnt fuse = true then (12, fuseD fuse, downD fuse false, l) else (0, fuseD fuse, downD fuse false, l')) : Int × Int × Bool × List FX) = (if burnt fuse = true then (12 : Int) else 0, fuseD fuse, downD fuse false, if (!burnt fuse || decide (a.k ≤ 1)) = true then l' else l) := fun l' => by
              rw [hdd]
              cases burnt fuse <;> rfl
            by_cases k2 : a.k = 2
            · rw [if_pos k2] at hdg
              refine says_yes hf (by omega) h hdg (l' := putL ⟨a.nm, f.b, f.b.size, true⟩ l) ?_ ?_
              · rw [← hbu]
                unfold runS
                rw [if_neg (by omega), if_pos k2]
                unfold syncS
                rw [if_neg (show ¬ (false = true) by decide), hfd, hfx]
              · refine inv_put h _ ⟨by show (0 : Int) ≤ (f.b.size : Nat); omega, Int.le_refl _⟩ ⟨hn, g3⟩ ?_ (.inl g4)
                show ((totF (filF a.nm x) + f.b.size : Nat) : Int) ≤ cap
                omega
            · rw [if_neg k2] at hdg
              by_cases k3 : a.k = 3
              · rw [if_pos k3] at hdg
                have hr : runS cap l false fuse a = (if a.n < 0 ∨ (f.b.size : Int) < a.n then (1, fuse, false, l) else if burnt fuse = true then (12, fuseD fuse, downD fuse false, l) else (0, fuseD fuse, downD fuse false, putL ⟨a.nm, f.b.extract 0 a.n.toNat, if a.n < f.sf then a.n else f.sf, f.sy⟩ l) : Int × Int × Bool × List FX) := by
                  unfold runS
                  rw [if_neg (by omega), if_neg k2, if_pos k3]
                  unfold truncS
                  rw [if_neg (show ¬ (false = true) by decide), hfd, hfx]
                by_cases c : a.n < 0 ∨ (f.b.size : Int) < a.n
                · rw [if_pos c] at hdg hr
                  exact says_no h (want := 1) (by decide) k5 hdg hr
                · rw [if_neg c] at hdg hr
                  refine says_yes hf (by omega) h hdg (by rw [hr]; exact hbu _) ?_
                  obtain ⟨e1, e2, e3⟩ := ext_le f.b a.n.toNat
                  have e4 := e3 (by omega)
                  refine inv_put h _ ⟨by show (0 : Int) ≤ if a.n < f.sf then a.n else f.sf; split <;> omega, by show (if a.n < f.sf then a.n else f.sf) ≤ ((f.b.extract 0 a.n.toNat).size : Int); split <;> omega⟩ ⟨hn, g3⟩ ?_ (.inl g4)
                  show ((totF (filF a.nm x) + (f.b.extract 0 a.n.toNat).size : Nat) : Int) ≤ cap
                  omega
              · rw [if_neg k3] at hdg
                refine says_yes hf (by omega) h hdg (l' := delL a.nm l) ?_ (inv_del h g4)
                rw [← hbu]
                unfold runS
                rw [if_neg (by omega), if_neg k2, if_neg k3, if_pos (by omega)]
                unfold removeS
                rw [if_neg (show ¬ (false = true) by decide), hfd, hfx]
end Go.Proofs.YtaodpgpepmlfbaaDoor.Ev
