import Derived.Test.YtoobogpbejdocaaDoorEvFc8
set_option linter.unusedVariables false
set_option linter.unusedSectionVars false
set_option linter.unusedSimpArgs false
set_option linter.unusedSectionVars false
namespace Go.Proofs.YtoobogpbejdocaaDoor.Ev
attribute [local congr] bind_congr_head
section
variable {E : Prog} (hE : Std E fns) {d : DefT} (hd : DOK d) (e : Int) {L : Env × Store → Option (Sig × Env × Store)} (hL : ∀ e st, L (e, st) = (IR.runL E.glob (callL E) [] ir_usufructref30_Play_L0 e st).bind (seqK fun e st => L (compact [] 3 [3, 7, 8, 9, 10, 11, 12] e st)))
include hE hd hL
set_option maxHeartbeats 4000000 in
theorem turn_all (turn : Nat) (ht : turn < 5000) (s : SgT) (t : StepT) (so : SOK d s t) (hid : s.id = 0) (hp : s.phase ≤ 1) (now : Int) (g : Nat) (P : List WnT) (hPl : P.length ≤ 6000) (hout : s.out = true → P ≠ []) (nx nw : Int) (hx : (if s.phase = 0 ∧ e < s.due then e else s.due) = nx) (hm : nx < 1099511627776)
    (hw : (if now < nx then nx else now) = nw) (n0 : 0 ≤ nw) (n1 : nw ≤ 1099511627776) (s1 s2 : SgT) (hs1 : doS d s nw 0 = s1) (hs2 : doS d s1 nw 1 = s2) :
    ∃ g' : Nat, L (plE e (plO g P) now turn, plS d sg0 s g P) = if mayB d s2 nw = true
      then L (plE e (plO g' ((if s.out = true ∧ s2.out = false then setTo P nw else P) ++ [winS s2 nw])) nw ((turn + 1 : Nat) : Int), plS d sg0 (emitS d (stepAt d s2) s2 nw) g' ((if s.out = true ∧ s2.out = false then setTo P nw else P) ++ [winS s2 nw]))
      else L (plE e (plO g' (if s.out = true ∧ s2.out = false then setTo P nw else P)) nw ((turn + 1 : Nat) : Int), plS d sg0 s2 g' (if s.out = true ∧ s2.out = false then setTo P nw else P)) := by
  obtain ⟨⟨t1, so1⟩, id1, _⟩ := sok_do hd so n0 n1 0 (by omega)
  rw [hs1] at so1 id1
  obtain ⟨⟨t2, so2⟩, id2, _⟩ := sok_do hd so1 n0 n1 1 (by omega)
  rw [hs2] at so2 id2
  obtain ⟨r1, e1, h0, q1, q1', hl0⟩ := fn_doB hE hd so n0 n1 0 (by omega)
  obtain ⟨r2, e2, h1, q2, q2', _⟩ := fn_doB hE hd so1 n0 n1 1 (by omega)
  rw [hs1] at q1 q1'
  rw [hs2] at q2 q2'
  have h2 := fn_mayB hE hd so2 n0 n1
  have h3 := fn_emitRef hE d hd s2 t2 so2 (by omega) nw
  have w1 : IntKind.i64.wrap (s2.tries + 1) = s2.tries + 1 := IntWalk.i64_in _ (by have := so2.t0; have := so2.t1; omega)
  rw [sok_at so2]
  have hcc : ∃ c, c = emitC d t2 s2 := ⟨_, rfl⟩
  have hl0 := hl0 rfl
  generalize emitS d t2 s2 nw = r3 at *
  generalize emitC d t2 s2 = c at *
  generalize mayB d s2 nw = bm at *
  have hm' : ¬ 1099511627776 ≤ nx := by omega
  clear so so1 so2 id1 id2 hs1 hs2 hd hE n0 n1 hcc hid t t1 t2 hm
  simp only [Int.natCast_zero, Int.natCast_one] at h0 h1
  obtain ⟨i1, i2, i3, ph, i5, i6, o, du, sk⟩ := s
  dsimp only at *
  by_cases c1 : ph = 0 ∧ e < du
  · rw [if_pos c1] at hx
    subst hx
    obtain ⟨c1a, c1b⟩ := c1
    subst c1a
    have c1 : (0 : Int) = 0 ∧ e < du := ⟨rfl, c1b⟩
    by_cases c3 : now < e
    · rw [if_pos c3] at hw
      subst hw
      by_cases c4 : e1 = 0
      · have qa := q1 c4
        subst qa
        have hz := hl0
        subst c4
        by_cases c5 : e2 = 0
        · have qb := q2 c5
          subst qb
          subst c5
          by_cases hne : P = []
          · have ho : o = false := by
              cases o with
              | false => rfl
              | true => exact absurd hne (hout rfl)
            subst ho hne
            exact absurd rfl (hz rfl)
          · by_cases hto : o = true ∧ s2.out = false
            · rw [if_pos hto]
              obtain ⟨k1, k2, k3, k4, k5, k6, k7, k8, k9⟩ := s2
              obtain ⟨ho1, ho2⟩ := hto
              dsimp only at ho2
              subst ho1 ho2
              cases bm with
              | true =>
                refine ⟨(g + 1), ?_⟩
                rw [if_pos rfl]
                exact tr000000 (g := g) (hL := hL) (ht := ht) (hp := (Int.le_of_lt (by omega) : (0 : Int) ≤ 1)) (hm := hm') (c3 := c3) (h0 := h0) (c4 := trivial) (h1 := h1) (c5 := trivial) (h2 := h2) (c2 := c1.2) (ph := 0) (e1 := 0) (e2 := 0) (h3 := h3) (w1 := w1) (r2 := sg0) (hP := hne) (hPl := hPl)
              | false =>
                refine ⟨g, ?_⟩
                rw [if_neg (by simp)]
                exact tr000001 (g := g) (hL := hL) (ht := ht) (hp := (Int.le_of_lt (by omega) : (0 : Int) ≤ 1)) (hm := hm') (c3 := c3) (h0 := h0) (c4 := trivial) (h1 := h1) (c5 := trivial) (h2 := h2) (c2 := c1.2) (ph := 0) (e1 := 0) (e2 := 0) (r3 := sg0) (c := cm0) (r2 := sg0) (hP := hne) (hPl := hPl)
            · rw [if_neg hto]
              cases bm with
              | true =>
                refine ⟨(g + 1), ?_⟩
                rw [if_pos rfl]
                exact tr000010 (g := g) (hL := hL) (ht := ht) (hp := (Int.le_of_lt (by omega) : (0 : Int) ≤ 1)) (hm := hm') (c3 := c3) (h0 := h0) (c4 := trivial) (h1 := h1) (c5 := trivial) (h2 := h2) (c2 := c1.2) (ph := 0) (e1 := 0) (e2 := 0) (h3 := h3) (w1 := w1) (hP := hne) (hPl := hPl) (c6 := hto) (k1 := 0) (k2 := eTx) (k3 := 0) (k4 := 0) (k5 := 0) (k6 := 0) (k8 := 0) (k9 := 0)
              | false =>
                refine ⟨g, ?_⟩
                rw [if_neg (by simp)]
                exact tr000011 (g := g) (hL := hL) (ht := ht) (hp := (Int.le_of_lt (by omega) : (0 : Int) ≤ 1)) (hm := hm') (c3 := c3) (h0 := h0) (c4 := trivial) (h1 := h1) (c5 := trivial) (h2 := h2) (c2 := c1.2) (ph := 0) (e1 := 0) (e2 := 0) (r3 := sg0) (c := cm0) (hP := hne) (hPl := hPl) (c6 := hto) (k1 := 0) (k2 := eTx) (k3 := 0) (k4 := 0) (k5 := 0) (k6 := 0) (k8 := 0) (k9 := 0)
        · have qb := q2' c5
          subst qb
          by_cases hne : P = []
          · have ho : o = false := by
              cases o with
              | false => rfl
              | true => exact absurd hne (hout rfl)
            subst ho hne
            exact absurd rfl (hz rfl)
          · by_cases hto : o = true ∧ s2.out = false
            · rw [if_pos hto]
              obtain ⟨k1, k2, k3, k4, k5, k6, k7, k8, k9⟩ := s2
              obtain ⟨ho1, ho2⟩ := hto
              dsimp only at ho2
              subst ho1 ho2
              cases bm with
              | true =>
                refine ⟨(g + 1), ?_⟩
                rw [if_pos rfl]
                exact tr000100 (g := g) (hL := hL) (ht := ht) (hp := (Int.le_of_lt (by omega) : (0 : Int) ≤ 1)) (hm := hm') (c3 := c3) (h0 := h0) (c4 := trivial) (h1 := h1) (c5 := c5) (h2 := h2) (c2 := c1.2) (ph := 0) (e1 := 0) (h3 := h3) (w1 := w1) (r1 := sg0) (hP := hne) (hPl := hPl)
              | false =>
                refine ⟨g, ?_⟩
                rw [if_neg (by simp)]
                exact tr000101 (g := g) (hL := hL) (ht := ht) (hp := (Int.le_of_lt (by omega) : (0 : Int) ≤ 1)) (hm := hm') (c3 := c3) (h0 := h0) (c4 := trivial) (h1 := h1) (c5 := c5) (h2 := h2) (c2 := c1.2) (ph := 0) (e1 := 0) (r3 := sg0) (c := cm0) (r1 := sg0) (hP := hne) (hPl := hPl)
            · rw [if_neg hto]
              cases bm with
              | true =>
                refine ⟨(g + 1), ?_⟩
                rw [if_pos rfl]
                exact tr000110 (g := g) (hL := hL) (ht := ht) (hp := (Int.le_of_lt (by omega) : (0 : Int) ≤ 1)) (hm := hm') (c3 := c3) (h0 := h0) (c4 := trivial) (h1 := h1) (c5 := c5) (h2 := h2) (c2 := c1.2) (ph := 0) (e1 := 0) (h3 := h3) (w1 := w1) (hP := hne) (hPl := hPl) (c6 := hto) (k1 := 0) (k2 := eTx) (k3 := 0) (k4 := 0) (k5 := 0) (k6 := 0) (k8 := 0) (k9 := 0)
              | false =>
                refine ⟨g, ?_⟩
                rw [if_neg (by simp)]
                exact tr000111 (g := g) (hL := hL) (ht := ht) (hp := (Int.le_of_lt (by omega) : (0 : Int) ≤ 1)) (hm := hm') (c3 := c3) (h0 := h0) (c4 := trivial) (h1 := h1) (c5 := c5) (h2 := h2) (c2 := c1.2) (ph := 0) (e1 := 0) (r3 := sg0) (c := cm0) (hP := hne) (hPl := hPl) (c6 := hto) (k1 := 0) (k2 := eTx) (k3 := 0) (k4 := 0) (k5 := 0) (k6 := 0) (k8 := 0) (k9 := 0)
      · have qa := q1' c4
        subst qa
        by_cases c5 : e2 = 0
        · have qb := q2 c5
          subst qb
          subst c5
          by_cases hne : P = []
          · have ho : o = false := by
              cases o with
              | false => rfl
              | true => exact absurd hne (hout rfl)
            subst ho hne
            cases bm with
            | true =>
              refine ⟨0, ?_⟩
              rw [if_pos rfl]
              simp only [Bool.false_eq_true, false_and, if_false] at *
              exact tn001010 (g := g) (hL := hL) (ht := ht) (hp := (Int.le_of_lt (by omega) : (0 : Int) ≤ 1)) (hm := hm') (c3 := c3) (h0 := h0) (c4 := c4) (h1 := h1) (c5 := trivial) (h2 := h2) (c2 := c1.2) (ph := 0) (e2 := 0) (h3 := h3) (w1 := w1) (k1 := 0) (k2 := eTx) (k3 := 0) (k4 := 0) (k5 := 0) (k6 := 0) (k8 := 0) (k9 := 0)
            | false =>
              refine ⟨g, ?_⟩
              rw [if_neg (by simp)]
              simp only [Bool.false_eq_true, false_and, if_false] at *
              exact tn001011 (g := g) (hL := hL) (ht := ht) (hp := (Int.le_of_lt (by omega) : (0 : Int) ≤ 1)) (hm := hm') (c3 := c3) (h0 := h0) (c4 := c4) (h1 := h1) (c5 := trivial) (h2 := h2) (c2 := c1.2) (ph := 0) (e2 := 0) (r3 := sg0) (c := cm0) (k1 := 0) (k2 := eTx) (k3 := 0) (k4 := 0) (k5 := 0) (k6 := 0) (k8 := 0) (k9 := 0)
          · by_cases hto : o = true ∧ s2.out = false
            · rw [if_pos hto]
              obtain ⟨k1, k2, k3, k4, k5, k6, k7, k8, k9⟩ := s2
              obtain ⟨ho1, ho2⟩ := hto
              dsimp only at ho2
              subst ho1 ho2
              cases bm with
              | true =>
                refine ⟨(g + 1), ?_⟩
                rw [if_pos rfl]
                exact tr001000 (g := g) (hL := hL) (ht := ht) (hp := (Int.le_of_lt (by omega) : (0 : Int) ≤ 1)) (hm := hm') (c3 := c3) (h0 := h0) (c4 := c4) (h1 := h1) (c5 := trivial) (h2 := h2) (c2 := c1.2) (ph := 0) (e2 := 0) (h3 := h3) (w1 := w1) (r2 := sg0) (hP := hne) (hPl := hPl)
              | false =>
                refine ⟨g, ?_⟩
                rw [if_neg (by simp)]
                exact tr001001 (g := g) (hL := hL) (ht := ht) (hp := (Int.le_of_lt (by omega) : (0 : Int) ≤ 1)) (hm := hm') (c3 := c3) (h0 := h0) (c4 := c4) (h1 := h1) (c5 := trivial) (h2 := h2) (c2 := c1.2) (ph := 0) (e2 := 0) (r3 := sg0) (c := cm0) (r2 := sg0) (hP := hne) (hPl := hPl)
            · rw [if_neg hto]
              cases bm with
              | true =>
                refine ⟨(g + 1), ?_⟩
                rw [if_pos rfl]
                exact tr001010 (g := g) (hL := hL) (ht := ht) (hp := (Int.le_of_lt (by omega) : (0 : Int) ≤ 1)) (hm := hm') (c3 := c3) (h0 := h0) (c4 := c4) (h1 := h1) (c5 := trivial) (h2 := h2) (c2 := c1.2) (ph := 0) (e2 := 0) (h3 := h3) (w1 := w1) (hP := hne) (hPl := hPl) (c6 := hto) (k1 := 0) (k2 := eTx) (k3 := 0) (k4 := 0) (k5 := 0) (k6 := 0) (k8 := 0) (k9 := 0)
              | false =>
                refine ⟨g, ?_⟩
                rw [if_neg (by simp)]
                exact tr001011 (g := g) (hL := hL) (ht := ht) (hp := (Int.le_of_lt (by omega) : (0 : Int) ≤ 1)) (hm := hm') (c3 := c3) (h0 := h0) (c4 := c4) (h1 := h1) (c5 := trivial) (h2 := h2) (c2 := c1.2) (ph := 0) (e2 := 0) (r3 := sg0) (c := cm0) (hP := hne) (hPl := hPl) (c6 := hto) (k1 := 0) (k2 := eTx) (k3 := 0) (k4 := 0) (k5 := 0) (k6 := 0) (k8 := 0) (k9 := 0)
        · have qb := q2' c5
          subst qb
          by_cases hne : P = []
          · have ho : o = false := by
              cases o with
              | false => rfl
              | true => exact absurd hne (hout rfl)
            subst ho hne
            cases bm with
            | true =>
              refine ⟨0, ?_⟩
              rw [if_pos rfl]
              simp only [Bool.false_eq_true, false_and, if_false] at *
              exact tn001110 (g := g) (hL := hL) (ht := ht) (hp := (Int.le_of_lt (by omega) : (0 : Int) ≤ 1)) (hm := hm') (c3 := c3) (h0 := h0) (c4 := c4) (h1 := h1) (c5 := c5) (h2 := h2) (c2 := c1.2) (ph := 0) (h3 := h3) (w1 := w1) (k1 := 0) (k2 := eTx) (k3 := 0) (k4 := 0) (k5 := 0) (k6 := 0) (k8 := 0) (k9 := 0)
            | false =>
              refine ⟨g, ?_⟩
              rw [if_neg (by simp)]
              simp only [Bool.false_eq_true, false_and, if_false] at *
              exact tn001111 (g := g) (hL := hL) (ht := ht) (hp := (Int.le_of_lt (by omega) : (0 : Int) ≤ 1)) (hm := hm') (c3 := c3) (h0 := h0) (c4 := c4) (h1 := h1) (c5 := c5) (h2 := h2) (c2 := c1.2) (ph := 0) (r3 := sg0) (c := cm0) (k1 := 0) (k2 := eTx) (k3 := 0) (k4 := 0) (k5 := 0) (k6 := 0) (k8 := 0) (k9 := 0)
          · have hto : ¬ (o = true ∧ o = false) := fun h => by rw [h.1] at h; cases h.2
            rw [if_neg hto]
            cases bm with
            | true =>
              refine ⟨(g + 1), ?_⟩
              rw [if_pos rfl]
              exact tr001110 (g := g) (hL := hL) (ht := ht) (hp := (Int.le_of_lt (by omega) : (0 : Int) ≤ 1)) (hm := hm') (c3 := c3) (h0 := h0) (c4 := c4) (h1 := h1) (c5 := c5) (h2 := h2) (c2 := c1.2) (ph := 0) (h3 := h3) (w1 := w1) (hP := hne) (hPl := hPl) (c6 := hto) (k1 := 0) (k2 := eTx) (k3 := 0) (k4 := 0) (k5 := 0) (k6 := 0) (k8 := 0) (k9 := 0)
            | false =>
              refine ⟨g, ?_⟩
              rw [if_neg (by simp)]
              exact tr001111 (g := g) (hL := hL) (ht := ht) (hp := (Int.le_of_lt (by omega) : (0 : Int) ≤ 1)) (hm := hm') (c3 := c3) (h0 := h0) (c4 := c4) (h1 := h1) (c5 := c5) (h2 := h2) (c2 := c1.2) (ph := 0) (r3 := sg0) (c := cm0) (hP := hne) (hPl := hPl) (c6 := hto) (k1 := 0) (k2 := eTx) (k3 := 0) (k4 := 0) (k5 := 0) (k6 := 0) (k8 := 0) (k9 := 0)
    · rw [if_neg c3] at hw
      subst hw
      by_cases c4 : e1 = 0
      · have qa := q1 c4
        subst qa
        have hz := hl0
        subst c4
        by_cases c5 : e2 = 0
        · have qb := q2 c5
          subst qb
          subst c5
          by_cases hne : P = []
          · have ho : o = false := by
              cases o with
              | false => rfl
              | true => exact absurd hne (hout rfl)
            subst ho hne
            exact absurd rfl (hz rfl)
          · by_cases hto : o = true ∧ s2.out = false
            · rw [if_pos hto]
              obtain ⟨k1, k2, k3, k4, k5, k6, k7, k8, k9⟩ := s2
              obtain ⟨ho1, ho2⟩ := hto
              dsimp only at ho2
              subst ho1 ho2
              cases bm with
              | true =>
                refine ⟨(g + 1), ?_⟩
                rw [if_pos rfl]
                exact tr010000 (g := g) (hL := hL) (ht := ht) (hp := (Int.le_of_lt (by omega) : (0 : Int) ≤ 1)) (hm := hm') (c3 := c3) (h0 := h0) (c4 := trivial) (h1 := h1) (c5 := trivial) (h2 := h2) (c2 := c1.2) (ph := 0) (e1 := 0) (e2 := 0) (h3 := h3) (w1 := w1) (r2 := sg0) (hP := hne) (hPl := hPl)
              | false =>
                refine ⟨g, ?_⟩
                rw [if_neg (by simp)]
                exact tr010001 (g := g) (hL := hL) (ht := ht) (hp := (Int.le_of_lt (by omega) : (0 : Int) ≤ 1)) (hm := hm') (c3 := c3) (h0 := h0) (c4 := trivial) (h1 := h1) (c5 := trivial) (h2 := h2) (c2 := c1.2) (ph := 0) (e1 := 0) (e2 := 0) (r3 := sg0) (c := cm0) (r2 := sg0) (hP := hne) (hPl := hPl)
            · rw [if_neg hto]
              cases bm with
              | true =>
                refine ⟨(g + 1), ?_⟩
                rw [if_pos rfl]
                exact tr010010 (g := g) (hL := hL) (ht := ht) (hp := (Int.le_of_lt (by omega) : (0 : Int) ≤ 1)) (hm := hm') (c3 := c3) (h0 := h0) (c4 := trivial) (h1 := h1) (c5 := trivial) (h2 := h2) (c2 := c1.2) (ph := 0) (e1 := 0) (e2 := 0) (h3 := h3) (w1 := w1) (hP := hne) (hPl := hPl) (c6 := hto) (k1 := 0) (k2 := eTx) (k3 := 0) (k4 := 0) (k5 := 0) (k6 := 0) (k8 := 0) (k9 := 0)
              | false =>
                refine ⟨g, ?_⟩
                rw [if_neg (by simp)]
                exact tr010011 (g := g) (hL := hL) (ht := ht) (hp := (Int.le_of_lt (by omega) : (0 : Int) ≤ 1)) (hm := hm') (c3 := c3) (h0 := h0) (c4 := trivial) (h1 := h1) (c5 := trivial) (h2 := h2) (c2 := c1.2) (ph := 0) (e1 := 0) (e2 := 0) (r3 := sg0) (c := cm0) (hP := hne) (hPl := hPl) (c6 := hto) (k1 := 0) (k2 := eTx) (k3 := 0) (k4 := 0) (k5 := 0) (k6 := 0) (k8 := 0) (k9 := 0)
        · have qb := q2' c5
          subst qb
          by_cases hne : P = []
          · have ho : o = false := by
              cases o with
              | false => rfl
              | true => exact absurd hne (hout rfl)
            subst ho hne
            exact absurd rfl (hz rfl)
          · by_cases hto : o = true ∧ s2.out = false
            · rw [if_pos hto]
              obtain ⟨k1, k2, k3, k4, k5, k6, k7, k8, k9⟩ := s2
              obtain ⟨ho1, ho2⟩ := hto
              dsimp only at ho2
              subst ho1 ho2
              cases bm with
              | true =>
                refine ⟨(g + 1), ?_⟩
                rw [if_pos rfl]
                exact tr010100 (g := g) (hL := hL) (ht := ht) (hp := (Int.le_of_lt (by omega) : (0 : Int) ≤ 1)) (hm := hm') (c3 := c3) (h0 := h0) (c4 := trivial) (h1 := h1) (c5 := c5) (h2 := h2) (c2 := c1.2) (ph := 0) (e1 := 0) (h3 := h3) (w1 := w1) (r1 := sg0) (hP := hne) (hPl := hPl)
              | false =>
                refine ⟨g, ?_⟩
                rw [if_neg (by simp)]
                exact tr010101 (g := g) (hL := hL) (ht := ht) (hp := (Int.le_of_lt (by omega) : (0 : Int) ≤ 1)) (hm := hm') (c3 := c3) (h0 := h0) (c4 := trivial) (h1 := h1) (c5 := c5) (h2 := h2) (c2 := c1.2) (ph := 0) (e1 := 0) (r3 := sg0) (c := cm0) (r1 := sg0) (hP := hne) (hPl := hPl)
            · rw [if_neg hto]
              cases bm with
              | true =>
                refine ⟨(g + 1), ?_⟩
                rw [if_pos rfl]
                exact tr010110 (g := g) (hL := hL) (ht := ht) (hp := (Int.le_of_lt (by omega) : (0 : Int) ≤ 1)) (hm := hm') (c3 := c3) (h0 := h0) (c4 := trivial) (h1 := h1) (c5 := c5) (h2 := h2) (c2 := c1.2) (ph := 0) (e1 := 0) (h3 := h3) (w1 := w1) (hP := hne) (hPl := hPl) (c6 := hto) (k1 := 0) (k2 := eTx) (k3 := 0) (k4 := 0) (k5 := 0) (k6 := 0) (k8 := 0) (k9 := 0)
              | false =>
                refine ⟨g, ?_⟩
                rw [if_neg (by simp)]
                exact tr010111 (g := g) (hL := hL) (ht := ht) (hp := (Int.le_of_lt (by omega) : (0 : Int) ≤ 1)) (hm := hm') (c3 := c3) (h0 := h0) (c4 := trivial) (h1 := h1) (c5 := c5) (h2 := h2) (c2 := c1.2) (ph := 0) (e1 := 0) (r3 := sg0) (c := cm0) (hP := hne) (hPl := hPl) (c6 := hto) (k1 := 0) (k2 := eTx) (k3 := 0) (k4 := 0) (k5 := 0) (k6 := 0) (k8 := 0) (k9 := 0)
      · have qa := q1' c4
        subst qa
        by_cases c5 : e2 = 0
        · have qb := q2 c5
          subst qb
          subst c5
          by_cases hne : P = []
          · have ho : o = false := by
              cases o with
              | false => rfl
              | true => exact absurd hne (hout rfl)
            subst ho hne
            cases bm with
            | true =>
              refine ⟨0, ?_⟩
              rw [if_pos rfl]
              simp only [Bool.false_eq_true, false_and, if_false] at *
              exact tn011010 (g := g) (hL := hL) (ht := ht) (hp := (Int.le_of_lt (by omega) : (0 : Int) ≤ 1)) (hm := hm') (c3 := c3) (h0 := h0) (c4 := c4) (h1 := h1) (c5 := trivial) (h2 := h2) (c2 := c1.2) (ph := 0) (e2 := 0) (h3 := h3) (w1 := w1) (k1 := 0) (k2 := eTx) (k3 := 0) (k4 := 0) (k5 := 0) (k6 := 0) (k8 := 0) (k9 := 0)
            | false =>
              refine ⟨g, ?_⟩
              rw [if_neg (by simp)]
              simp only [Bool.false_eq_true, false_and, if_false] at *
              exact tn011011 (g := g) (hL := hL) (ht := ht) (hp := (Int.le_of_lt (by omega) : (0 : Int) ≤ 1)) (hm := hm') (c3 := c3) (h0 := h0) (c4 := c4) (h1 := h1) (c5 := trivial) (h2 := h2) (c2 := c1.2) (ph := 0) (e2 := 0) (r3 := sg0) (c := cm0) (k1 := 0) (k2 := eTx) (k3 := 0) (k4 := 0) (k5 := 0) (k6 := 0) (k8 := 0) (k9 := 0)
          · by_cases hto : o = true ∧ s2.out = false
            · rw [if_pos hto]
              obtain ⟨k1, k2, k3, k4, k5, k6, k7, k8, k9⟩ := s2
              obtain ⟨ho1, ho2⟩ := hto
              dsimp only at ho2
              subst ho1 ho2
              cases bm with
              | true =>
                refine ⟨(g + 1), ?_⟩
                rw [if_pos rfl]
                exact tr011000 (g := g) (hL := hL) (ht := ht) (hp := (Int.le_of_lt (by omega) : (0 : Int) ≤ 1)) (hm := hm') (c3 := c3) (h0 := h0) (c4 := c4) (h1 := h1) (c5 := trivial) (h2 := h2) (c2 := c1.2) (ph := 0) (e2 := 0) (h3 := h3) (w1 := w1) (r2 := sg0) (hP := hne) (hPl := hPl)
              | false =>
                refine ⟨g, ?_⟩
                rw [if_neg (by simp)]
                exact tr011001 (g := g) (hL := hL) (ht := ht) (hp := (Int.le_of_lt (by omega) : (0 : Int) ≤ 1)) (hm := hm') (c3 := c3) (h0 := h0) (c4 := c4) (h1 := h1) (c5 := trivial) (h2 := h2) (c2 := c1.2) (ph := 0) (e2 := 0) (r3 := sg0) (c := cm0) (r2 := sg0) (hP := hne) (hPl := hPl)
            · rw [if_neg hto]
              cases bm with
              | true =>
                refine ⟨(g + 1), ?_⟩
                rw [if_pos rfl]
                exact tr011010 (g := g) (hL := hL) (ht := ht) (hp := (Int.le_of_lt (by omega) : (0 : Int) ≤ 1)) (hm := hm') (c3 := c3) (h0 := h0) (c4 := c4) (h1 := h1) (c5 := trivial) (h2 := h2) (c2 := c1.2) (ph := 0) (e2 := 0) (h3 := h3) (w1 := w1) (hP := hne) (hPl := hPl) (c6 := hto) (k1 := 0) (k2 := eTx) (k3 := 0) (k4 := 0) (k5 := 0) (k6 := 0) (k8 := 0) (k9 := 0)
              | false =>
                refine ⟨g, ?_⟩
                rw [if_neg (by simp)]
                exact tr011011 (g := g) (hL := hL) (ht := ht) (hp := (Int.le_of_lt (by omega) : (0 : Int) ≤ 1)) (hm := hm') (c3 := c3) (h0 := h0) (c4 := c4) (h1 := h1) (c5 := trivial) (h2 := h2) (c2 := c1.2) (ph := 0) (e2 := 0) (r3 := sg0) (c := cm0) (hP := hne) (hPl := hPl) (c6 := hto) (k1 := 0) (k2 := eTx) (k3 := 0) (k4 := 0) (k5 := 0) (k6 := 0) (k8 := 0) (k9 := 0)
        · have qb := q2' c5
          subst qb
          by_cases hne : P = []
          · have ho : o = false := by
              cases o with
              | false => rfl
              | true => exact absurd hne (hout rfl)
            subst ho hne
            cases bm with
            | true =>
              refine ⟨0, ?_⟩
              rw [if_pos rfl]
              simp only [Bool.false_eq_true, false_and, if_false] at *
              exact tn011110 (g := g) (hL := hL) (ht := ht) (hp := (Int.le_of_lt (by omega) : (0 : Int) ≤ 1)) (hm := hm') (c3 := c3) (h0 := h0) (c4 := c4) (h1 := h1) (c5 := c5) (h2 := h2) (c2 := c1.2) (ph := 0) (h3 := h3) (w1 := w1) (k1 := 0) (k2 := eTx) (k3 := 0) (k4 := 0) (k5 := 0) (k6 := 0) (k8 := 0) (k9 := 0)
            | false =>
              refine ⟨g, ?_⟩
              rw [if_neg (by simp)]
              simp only [Bool.false_eq_true, false_and, if_false] at *
              exact tn011111 (g := g) (hL := hL) (ht := ht) (hp := (Int.le_of_lt (by omega) : (0 : Int) ≤ 1)) (hm := hm') (c3 := c3) (h0 := h0) (c4 := c4) (h1 := h1) (c5 := c5) (h2 := h2) (c2 := c1.2) (ph := 0) (r3 := sg0) (c := cm0) (k1 := 0) (k2 := eTx) (k3 := 0) (k4 := 0) (k5 := 0) (k6 := 0) (k8 := 0) (k9 := 0)
          · have hto : ¬ (o = true ∧ o = false) := fun h => by rw [h.1] at h; cases h.2
            rw [if_neg hto]
            cases bm with
            | true =>
              refine ⟨(g + 1), ?_⟩
              rw [if_pos rfl]
              exact tr011110 (g := g) (hL := hL) (ht := ht) (hp := (Int.le_of_lt (by omega) : (0 : Int) ≤ 1)) (hm := hm') (c3 := c3) (h0 := h0) (c4 := c4) (h1 := h1) (c5 := c5) (h2 := h2) (c2 := c1.2) (ph := 0) (h3 := h3) (w1 := w1) (hP := hne) (hPl := hPl) (c6 := hto) (k1 := 0) (k2 := eTx) (k3 := 0) (k4 := 0) (k5 := 0) (k6 := 0) (k8 := 0) (k9 := 0)
            | false =>
              refine ⟨g, ?_⟩
              rw [if_neg (by simp)]
              exact tr011111 (g := g) (hL := hL) (ht := ht) (hp := (Int.le_of_lt (by omega) : (0 : Int) ≤ 1)) (hm := hm') (c3 := c3) (h0 := h0) (c4 := c4) (h1 := h1) (c5 := c5) (h2 := h2) (c2 := c1.2) (ph := 0) (r3 := sg0) (c := cm0) (hP := hne) (hPl := hPl) (c6 := hto) (k1 := 0) (k2 := eTx) (k3 := 0) (k4 := 0) (k5 := 0) (k6 := 0) (k8 := 0) (k9 := 0)
  · rw [if_neg c1] at hx
    subst hx
    by_cases c3 : now < du
    · rw [if_pos c3] at hw
      subst hw
      by_cases c4 : e1 = 0
      · have qa := q1 c4
        subst qa
        have hz := hl0
        subst c4
        by_cases c5 : e2 = 0
        · have qb := q2 c5
          subst qb
          subst c5
          by_cases hne : P = []
          · have ho : o = false := by
              cases o with
              | false => rfl
              | true => exact absurd hne (hout rfl)
            subst ho hne
            exact absurd rfl (hz rfl)
          · by_cases hto : o = true ∧ s2.out = false
            · rw [if_pos hto]
              obtain ⟨k1, k2, k3, k4, k5, k6, k7, k8, k9⟩ := s2
              obtain ⟨ho1, ho2⟩ := hto
              dsimp only at ho2
              subst ho1 ho2
              cases bm with
              | true =>
                refine ⟨(g + 1), ?_⟩
                rw [if_pos rfl]
                exact tr100000 (g := g) (hL := hL) (ht := ht) (hp := hp) (hm := hm') (c3 := c3) (h0 := h0) (c4 := trivial) (h1 := h1) (c5 := trivial) (h2 := h2) (c1 := c1) (e1 := 0) (e2 := 0) (h3 := h3) (w1 := w1) (r2 := sg0) (hP := hne) (hPl := hPl)
              | false =>
                refine ⟨g, ?_⟩
                rw [if_neg (by simp)]
                exact tr100001 (g := g) (hL := hL) (ht := ht) (hp := hp) (hm := hm') (c3 := c3) (h0 := h0) (c4 := trivial) (h1 := h1) (c5 := trivial) (h2 := h2) (c1 := c1) (e1 := 0) (e2 := 0) (r3 := sg0) (c := cm0) (r2 := sg0) (hP := hne) (hPl := hPl)
            · rw [if_neg hto]
              cases bm with
              | true =>
                refine ⟨(g + 1), ?_⟩
                rw [if_pos rfl]
                exact tr100010 (g := g) (hL := hL) (ht := ht) (hp := hp) (hm := hm') (c3 := c3) (h0 := h0) (c4 := trivial) (h1 := h1) (c5 := trivial) (h2 := h2) (c1 := c1) (e1 := 0) (e2 := 0) (h3 := h3) (w1 := w1) (hP := hne) (hPl := hPl) (c6 := hto) (k1 := 0) (k2 := eTx) (k3 := 0) (k4 := 0) (k5 := 0) (k6 := 0) (k8 := 0) (k9 := 0)
              | false =>
                refine ⟨g, ?_⟩
                rw [if_neg (by simp)]
                exact tr100011 (g := g) (hL := hL) (ht := ht) (hp := hp) (hm := hm') (c3 := c3) (h0 := h0) (c4 := trivial) (h1 := h1) (c5 := trivial) (h2 := h2) (c1 := c1) (e1 := 0) (e2 := 0) (r3 := sg0) (c := cm0) (hP := hne) (hPl := hPl) (c6 := hto) (k1 := 0) (k2 := eTx) (k3 := 0) (k4 := 0) (k5 := 0) (k6 := 0) (k8 := 0) (k9 := 0)
        · have qb := q2' c5
          subst qb
          by_cases hne : P = []
          · have ho : o = false := by
              cases o with
              | false => rfl
              | true => exact absurd hne (hout rfl)
            subst ho hne
            exact absurd rfl (hz rfl)
          · by_cases hto : o = true ∧ s2.out = false
            · rw [if_pos hto]
              obtain ⟨k1, k2, k3, k4, k5, k6, k7, k8, k9⟩ := s2
              obtain ⟨ho1, ho2⟩ := hto
              dsimp only at ho2
              subst ho1 ho2
              cases bm with
              | true =>
                refine ⟨(g + 1), ?_⟩
                rw [if_pos rfl]
                exact tr100100 (g := g) (hL := hL) (ht := ht) (hp := hp) (hm := hm') (c3 := c3) (h0 := h0) (c4 := trivial) (h1 := h1) (c5 := c5) (h2 := h2) (c1 := c1) (e1 := 0) (h3 := h3) (w1 := w1) (r1 := sg0) (hP := hne) (hPl := hPl)
              | false =>
                refine ⟨g, ?_⟩
                rw [if_neg (by simp)]
                exact tr100101 (g := g) (hL := hL) (ht := ht) (hp := hp) (hm := hm') (c3 := c3) (h0 := h0) (c4 := trivial) (h1 := h1) (c5 := c5) (h2 := h2) (c1 := c1) (e1 := 0) (r3 := sg0) (c := cm0) (r1 := sg0) (hP := hne) (hPl := hPl)
            · rw [if_neg hto]
              cases bm with
              | true =>
                refine ⟨(g + 1), ?_⟩
                rw [if_pos rfl]
                exact tr100110 (g := g) (hL := hL) (ht := ht) (hp := hp) (hm := hm') (c3 := c3) (h0 := h0) (c4 := trivial) (h1 := h1) (c5 := c5) (h2 := h2) (c1 := c1) (e1 := 0) (h3 := h3) (w1 := w1) (hP := hne) (hPl := hPl) (c6 := hto) (k1 := 0) (k2 := eTx) (k3 := 0) (k4 := 0) (k5 := 0) (k6 := 0) (k8 := 0) (k9 := 0)
              | false =>
                refine ⟨g, ?_⟩
                rw [if_neg (by simp)]
                exact tr100111 (g := g) (hL := hL) (ht := ht) (hp := hp) (hm := hm') (c3 := c3) (h0 := h0) (c4 := trivial) (h1 := h1) (c5 := c5) (h2 := h2) (c1 := c1) (e1 := 0) (r3 := sg0) (c := cm0) (hP := hne) (hPl := hPl) (c6 := hto) (k1 := 0) (k2 := eTx) (k3 := 0) (k4 := 0) (k5 := 0) (k6 := 0) (k8 := 0) (k9 := 0)
      · have qa := q1' c4
        subst qa
        by_cases c5 : e2 = 0
        · have qb := q2 c5
          subst qb
          subst c5
          by_cases hne : P = []
          · have ho : o = false := by
              cases o with
              | false => rfl
              | true => exact absurd hne (hout rfl)
            subst ho hne
            cases bm with
            | true =>
              refine ⟨0, ?_⟩
              rw [if_pos rfl]
              simp only [Bool.false_eq_true, false_and, if_false] at *
              exact tn101010 (g := g) (hL := hL) (ht := ht) (hp := hp) (hm := hm') (c3 := c3) (h0 := h0) (c4 := c4) (h1 := h1) (c5 := trivial) (h2 := h2) (c1 := c1) (e2 := 0) (h3 := h3) (w1 := w1) (k1 := 0) (k2 := eTx) (k3 := 0) (k4 := 0) (k5 := 0) (k6 := 0) (k8 := 0) (k9 := 0)
            | false =>
              refine ⟨g, ?_⟩
              rw [if_neg (by simp)]
              simp only [Bool.false_eq_true, false_and, if_false] at *
              exact tn101011 (g := g) (hL := hL) (ht := ht) (hp := hp) (hm := hm') (c3 := c3) (h0 := h0) (c4 := c4) (h1 := h1) (c5 := trivial) (h2 := h2) (c1 := c1) (e2 := 0) (r3 := sg0) (c := cm0) (k1 := 0) (k2 := eTx) (k3 := 0) (k4 := 0) (k5 := 0) (k6 := 0) (k8 := 0) (k9 := 0)
          · by_cases hto : o = true ∧ s2.out = false
            · rw [if_pos hto]
              obtain ⟨k1, k2, k3, k4, k5, k6, k7, k8, k9⟩ := s2
              obtain ⟨ho1, ho2⟩ := hto
              dsimp only at ho2
              subst ho1 ho2
              cases bm with
              | true =>
                refine ⟨(g + 1), ?_⟩
                rw [if_pos rfl]
                exact tr101000 (g := g) (hL := hL) (ht := ht) (hp := hp) (hm := hm') (c3 := c3) (h0 := h0) (c4 := c4) (h1 := h1) (c5 := trivial) (h2 := h2) (c1 := c1) (e2 := 0) (h3 := h3) (w1 := w1) (r2 := sg0) (hP := hne) (hPl := hPl)
              | false =>
                refine ⟨g, ?_⟩
                rw [if_neg (by simp)]
                exact tr101001 (g := g) (hL := hL) (ht := ht) (hp := hp) (hm := hm') (c3 := c3) (h0 := h0) (c4 := c4) (h1 := h1) (c5 := trivial) (h2 := h2) (c1 := c1) (e2 := 0) (r3 := sg0) (c := cm0) (r2 := sg0) (hP := hne) (hPl := hPl)
            · rw [if_neg hto]
              cases bm with
              | true =>
                refine ⟨(g + 1), ?_⟩
                rw [if_pos rfl]
                exact tr101010 (g := g) (hL := hL) (ht := ht) (hp := hp) (hm := hm') (c3 := c3) (h0 := h0) (c4 := c4) (h1 := h1) (c5 := trivial) (h2 := h2) (c1 := c1) (e2 := 0) (h3 := h3) (w1 := w1) (hP := hne) (hPl := hPl) (c6 := hto) (k1 := 0) (k2 := eTx) (k3 := 0) (k4 := 0) (k5 := 0) (k6 := 0) (k8 := 0) (k9 := 0)
              | false =>
                refine ⟨g, ?_⟩
                rw [if_neg (by simp)]
                exact tr101011 (g := g) (hL := hL) (ht := ht) (hp := hp) (hm := hm') (c3 := c3) (h0 := h0) (c4 := c4) (h1 := h1) (c5 := trivial) (h2 := h2) (c1 := c1) (e2 := 0) (r3 := sg0) (c := cm0) (hP := hne) (hPl := hPl) (c6 := hto) (k1 := 0) (k2 := eTx) (k3 := 0) (k4 := 0) (k5 := 0) (k6 := 0) (k8 := 0) (k9 := 0)
        · have qb := q2' c5
          subst qb
          by_cases hne : P = []
          · have ho : o = false := by
              cases o with
              | false => rfl
              | true => exact absurd hne (hout rfl)
            subst ho hne
            cases bm with
            | true =>
              refine ⟨0, ?_⟩
              rw [if_pos rfl]
              simp only [Bool.false_eq_true, false_and, if_false] at *
              exact tn101110 (g := g) (hL := hL) (ht := ht) (hp := hp) (hm := hm') (c3 := c3) (h0 := h0) (c4 := c4) (h1 := h1) (c5 := c5) (h2 := h2) (c1 := c1) (h3 := h3) (w1 := w1) (k1 := 0) (k2 := eTx) (k3 := 0) (k4 := 0) (k5 := 0) (k6 := 0) (k8 := 0) (k9 := 0)
            | false =>
              refine ⟨g, ?_⟩
              rw [if_neg (by simp)]
              simp only [Bool.false_eq_true, false_and, if_false] at *
              exact tn101111 (g := g) (hL := hL) (ht := ht) (hp := hp) (hm := hm') (c3 := c3) (h0 := h0) (c4 := c4) (h1 := h1) (c5 := c5) (h2 := h2) (c1 := c1) (r3 := sg0) (c := cm0) (k1 := 0) (k2 := eTx) (k3 := 0) (k4 := 0) (k5 := 0) (k6 := 0) (k8 := 0) (k9 := 0)
          · have hto : ¬ (o = true ∧ o = false) := fun h => by rw [h.1] at h; cases h.2
            rw [if_neg hto]
            cases bm with
            | true =>
              refine ⟨(g + 1), ?_⟩
              rw [if_pos rfl]
              exact tr101110 (g := g) (hL := hL) (ht := ht) (hp := hp) (hm := hm') (c3 := c3) (h0 := h0) (c4 := c4) (h1 := h1) (c5 := c5) (h2 := h2) (c1 := c1) (h3 := h3) (w1 := w1) (hP := hne) (hPl := hPl) (c6 := hto) (k1 := 0) (k2 := eTx) (k3 := 0) (k4 := 0) (k5 := 0) (k6 := 0) (k8 := 0) (k9 := 0)
            | false =>
              refine ⟨g, ?_⟩
              rw [if_neg (by simp)]
              exact tr101111 (g := g) (hL := hL) (ht := ht) (hp := hp) (hm := hm') (c3 := c3) (h0 := h0) (c4 := c4) (h1 := h1) (c5 := c5) (h2 := h2) (c1 := c1) (r3 := sg0) (c := cm0) (hP := hne) (hPl := hPl) (c6 := hto) (k1 := 0) (k2 := eTx) (k3 := 0) (k4 := 0) (k5 := 0) (k6 := 0) (k8 := 0) (k9 := 0)
    · rw [if_neg c3] at hw
      subst hw
      by_cases c4 : e1 = 0
      · have qa := q1 c4
        subst qa
        have hz := hl0
        subst c4
        by_cases c5 : e2 = 0
        · have qb := q2 c5
          subst qb
          subst c5
          by_cases hne : P = []
          · have ho : o = false := by
              cases o with
              | false => rfl
              | true => exact absurd hne (hout rfl)
            subst ho hne
            exact absurd rfl (hz rfl)
          · by_cases hto : o = true ∧ s2.out = false
            · rw [if_pos hto]
              obtain ⟨k1, k2, k3, k4, k5, k6, k7, k8, k9⟩ := s2
              obtain ⟨ho1, ho2⟩ := hto
              dsimp only at ho2
              subst ho1 ho2
              cases bm with
              | true =>
                refine ⟨(g + 1), ?_⟩
                rw [if_pos rfl]
                exact tr110000 (g := g) (hL := hL) (ht := ht) (hp := hp) (hm := hm') (c3 := c3) (h0 := h0) (c4 := trivial) (h1 := h1) (c5 := trivial) (h2 := h2) (c1 := c1) (e1 := 0) (e2 := 0) (h3 := h3) (w1 := w1) (r2 := sg0) (hP := hne) (hPl := hPl)
              | false =>
                refine ⟨g, ?_⟩
                rw [if_neg (by simp)]
                exact tr110001 (g := g) (hL := hL) (ht := ht) (hp := hp) (hm := hm') (c3 := c3) (h0 := h0) (c4 := trivial) (h1 := h1) (c5 := trivial) (h2 := h2) (c1 := c1) (e1 := 0) (e2 := 0) (r3 := sg0) (c := cm0) (r2 := sg0) (hP := hne) (hPl := hPl)
            · rw [if_neg hto]
              cases bm with
              | true =>
                refine ⟨(g + 1), ?_⟩
                rw [if_pos rfl]
                exact tr110010 (g := g) (hL := hL) (ht := ht) (hp := hp) (hm := hm') (c3 := c3) (h0 := h0) (c4 := trivial) (h1 := h1) (c5 := trivial) (h2 := h2) (c1 := c1) (e1 := 0) (e2 := 0) (h3 := h3) (w1 := w1) (hP := hne) (hPl := hPl) (c6 := hto) (k1 := 0) (k2 := eTx) (k3 := 0) (k4 := 0) (k5 := 0) (k6 := 0) (k8 := 0) (k9 := 0)
              | false =>
                refine ⟨g, ?_⟩
                rw [if_neg (by simp)]
                exact tr110011 (g := g) (hL := hL) (ht := ht) (hp := hp) (hm := hm') (c3 := c3) (h0 := h0) (c4 := trivial) (h1 := h1) (c5 := trivial) (h2 := h2) (c1 := c1) (e1 := 0) (e2 := 0) (r3 := sg0) (c := cm0) (hP := hne) (hPl := hPl) (c6 := hto) (k1 := 0) (k2 := eTx) (k3 := 0) (k4 := 0) (k5 := 0) (k6 := 0) (k8 := 0) (k9 := 0)
        · have qb := q2' c5
          subst qb
          by_cases hne : P = []
          · have ho : o = false := by
              cases o with
              | false => rfl
              | true => exact absurd hne (hout rfl)
            subst ho hne
            exact absurd rfl (hz rfl)
          · by_cases hto : o = true ∧ s2.out = false
            · rw [if_pos hto]
              obtain ⟨k1, k2, k3, k4, k5, k6, k7, k8, k9⟩ := s2
              obtain ⟨ho1, ho2⟩ := hto
              dsimp only at ho2
              subst ho1 ho2
              cases bm with
              | true =>
                refine ⟨(g + 1), ?_⟩
                rw [if_pos rfl]
                exact tr110100 (g := g) (hL := hL) (ht := ht) (hp := hp) (hm := hm') (c3 := c3) (h0 := h0) (c4 := trivial) (h1 := h1) (c5 := c5) (h2 := h2) (c1 := c1) (e1 := 0) (h3 := h3) (w1 := w1) (r1 := sg0) (hP := hne) (hPl := hPl)
              | false =>
                refine ⟨g, ?_⟩
                rw [if_neg (by simp)]
                exact tr110101 (g := g) (hL := hL) (ht := ht) (hp := hp) (hm := hm') (c3 := c3) (h0 := h0) (c4 := trivial) (h1 := h1) (c5 := c5) (h2 := h2) (c1 := c1) (e1 := 0) (r3 := sg0) (c := cm0) (r1 := sg0) (hP := hne) (hPl := hPl)
            · rw [if_neg hto]
              cases bm with
              | true =>
                refine ⟨(g + 1), ?_⟩
                rw [if_pos rfl]
                exact tr110110 (g := g) (hL := hL) (ht := ht) (hp := hp) (hm := hm') (c3 := c3) (h0 := h0) (c4 := trivial) (h1 := h1) (c5 := c5) (h2 := h2) (c1 := c1) (e1 := 0) (h3 := h3) (w1 := w1) (hP := hne) (hPl := hPl) (c6 := hto) (k1 := 0) (k2 := eTx) (k3 := 0) (k4 := 0) (k5 := 0) (k6 := 0) (k8 := 0) (k9 := 0)
              | false =>
                refine ⟨g, ?_⟩
                rw [if_neg (by simp)]
                exact tr110111 (g := g) (hL := hL) (ht := ht) (hp := hp) (hm := hm') (c3 := c3) (h0 := h0) (c4 := trivial) (h1 := h1) (c5 := c5) (h2 := h2) (c1 := c1) (e1 := 0) (r3 := sg0) (c := cm0) (hP := hne) (hPl := hPl) (c6 := hto) (k1 := 0) (k2 := eTx) (k3 := 0) (k4 := 0) (k5 := 0) (k6 := 0) (k8 := 0) (k9 := 0)
      · have qa := q1' c4
        subst qa
        by_cases c5 : e2 = 0
        · have qb := q2 c5
          subst qb
          subst c5
          by_cases hne : P = []
          · have ho : o = false := by
              cases o with
              | false => rfl
              | true => exact absurd hne (hout rfl)
            subst ho hne
            cases bm with
            | true =>
              refine ⟨0, ?_⟩
              rw [if_pos rfl]
              simp only [Bool.false_eq_true, false_and, if_false] at *
              exact tn111010 (g := g) (hL := hL) (ht := ht) (hp := hp) (hm := hm') (c3 := c3) (h0 := h0) (c4 := c4) (h1 := h1) (c5 := trivial) (h2 := h2) (c1 := c1) (e2 := 0) (h3 := h3) (w1 := w1) (k1 := 0) (k2 := eTx) (k3 := 0) (k4 := 0) (k5 := 0) (k6 := 0) (k8 := 0) (k9 := 0)
            | false =>
              refine ⟨g, ?_⟩
              rw [if_neg (by simp)]
              simp only [Bool.false_eq_true, false_and, if_false] at *
              exact tn111011 (g := g) (hL := hL) (ht := ht) (hp := hp) (hm := hm') (c3 := c3) (h0 := h0) (c4 := c4) (h1 := h1) (c5 := trivial) (h2 := h2) (c1 := c1) (e2 := 0) (r3 := sg0) (c := cm0) (k1 := 0) (k2 := eTx) (k3 := 0) (k4 := 0) (k5 := 0) (k6 := 0) (k8 := 0) (k9 := 0)
          · by_cases hto : o = true ∧ s2.out = false
            · rw [if_pos hto]
              obtain ⟨k1, k2, k3, k4, k5, k6, k7, k8, k9⟩ := s2
              obtain ⟨ho1, ho2⟩ := hto
              dsimp only at ho2
              subst ho1 ho2
              cases bm with
              | true =>
                refine ⟨(g + 1), ?_⟩
                rw [if_pos rfl]
                exact tr111000 (g := g) (hL := hL) (ht := ht) (hp := hp) (hm := hm') (c3 := c3) (h0 := h0) (c4 := c4) (h1 := h1) (c5 := trivial) (h2 := h2) (c1 := c1) (e2 := 0) (h3 := h3) (w1 := w1) (r2 := sg0) (hP := hne) (hPl := hPl)
              | false =>
                refine ⟨g, ?_⟩
                rw [if_neg (by simp)]
                exact tr111001 (g := g) (hL := hL) (ht := ht) (hp := hp) (hm := hm') (c3 := c3) (h0 := h0) (c4 := c4) (h1 := h1) (c5 := trivial) (h2 := h2) (c1 := c1) (e2 := 0) (r3 := sg0) (c := cm0) (r2 := sg0) (hP := hne) (hPl := hPl)
            · rw [if_neg hto]
              cases bm with
              | true =>
                refine ⟨(g + 1), ?_⟩
                rw [if_pos rfl]
                exact tr111010 (g := g) (hL := hL) (ht := ht) (hp := hp) (hm := hm') (c3 := c3) (h0 := h0) (c4 := c4) (h1 := h1) (c5 := trivial) (h2 := h2) (c1 := c1) (e2 := 0) (h3 := h3) (w1 := w1) (hP := hne) (hPl := hPl) (c6 := hto) (k1 := 0) (k2 := eTx) (k3 := 0) (k4 := 0) (k5 := 0) (k6 := 0) (k8 := 0) (k9 := 0)
              | false =>
                refine ⟨g, ?_⟩
                rw [if_neg (by simp)]
                exact tr111011 (g := g) (hL := hL) (ht := ht) (hp := hp) (hm := hm') (c3 := c3) (h0 := h0) (c4 := c4) (h1 := h1) (c5 := trivial) (h2 := h2) (c1 := c1) (e2 := 0) (r3 := sg0) (c := cm0) (hP := hne) (hPl := hPl) (c6 := hto) (k1 := 0) (k2 := eTx) (k3 := 0) (k4 := 0) (k5 := 0) (k6 := 0) (k8 := 0) (k9 := 0)
        · have qb := q2' c5
          subst qb
          by_cases hne : P = []
          · have ho : o = false := by
              cases o with
              | false => rfl
              | true => exact absurd hne (hout rfl)
            subst ho hne
            cases bm with
            | true =>
              refine ⟨0, ?_⟩
              rw [if_pos rfl]
              simp only [Bool.false_eq_true, false_and, if_false] at *
              exact tn111110 (g := g) (hL := hL) (ht := ht) (hp := hp) (hm := hm') (c3 := c3) (h0 := h0) (c4 := c4) (h1 := h1) (c5 := c5) (h2 := h2) (c1 := c1) (h3 := h3) (w1 := w1) (k1 := 0) (k2 := eTx) (k3 := 0) (k4 := 0) (k5 := 0) (k6 := 0) (k8 := 0) (k9 := 0)
            | false =>
              refine ⟨g, ?_⟩
              rw [if_neg (by simp)]
              simp only [Bool.false_eq_true, false_and, if_false] at *
              exact tn111111 (g := g) (hL := hL) (ht := ht) (hp := hp) (hm := hm') (c3 := c3) (h0 := h0) (c4 := c4) (h1 := h1) (c5 := c5) (h2 := h2) (c1 := c1) (r3 := sg0) (c := cm0) (k1 := 0) (k2 := eTx) (k3 := 0) (k4 := 0) (k5 := 0) (k6 := 0) (k8 := 0) (k9 := 0)
          · have hto : ¬ (o = true ∧ o = false) := fun h => by rw [h.1] at h; cases h.2
            rw [if_neg hto]
            cases bm with
            | true =>
              refine ⟨(g + 1), ?_⟩
              rw [if_pos rfl]
              exact tr111110 (g := g) (hL := hL) (ht := ht) (hp := hp) (hm := hm') (c3 := c3) (h0 := h0) (c4 := c4) (h1 := h1) (c5 := c5) (h2 := h2) (c1 := c1) (h3 := h3) (w1 := w1) (hP := hne) (hPl := hPl) (c6 := hto) (k1 := 0) (k2 := eTx) (k3 := 0) (k4 := 0) (k5 := 0) (k6 := 0) (k8 := 0) (k9 := 0)
            | false =>
              refine ⟨g, ?_⟩
              rw [if_neg (by simp)]
              exact tr111111 (g := g) (hL := hL) (ht := ht) (hp := hp) (hm := hm') (c3 := c3) (h0 := h0) (c4 := c4) (h1 := h1) (c5 := c5) (h2 := h2) (c1 := c1) (r3 := sg0) (c := cm0) (hP := hne) (hPl := hPl) (c6 := hto) (k1 := 0) (k2 := eTx) (k3 := 0) (k4 := 0) (k5 := 0) (k6 := 0) (k8 := 0) (k9 := 0)
end
end Go.Proofs.YtoobogpbejdocaaDoor.Ev
