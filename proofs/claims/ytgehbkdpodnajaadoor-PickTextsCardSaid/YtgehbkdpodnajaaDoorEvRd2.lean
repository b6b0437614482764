/-
  Picks as texts, in plain words: what is read is told by just that text, and what is written is read as it was. No program in this text.
-/
import Derived.Test.YtgehbkdpodnajaaDoorEvPick5
import Derived.Test.YtgehbkdpodnajaaDoorEvKey1
set_option linter.unusedVariables false
set_option linter.unusedSimpArgs false
namespace Go.Proofs.YtgehbkdpodnajaaDoor.Ev

/-! ### cut at blanks -/
def pcs : List UInt8 → List (List UInt8)
  | [] => [[]]
  | c :: l => if c = 32 then [] :: pcs l else (c :: (pcs l).headD []) :: (pcs l).tail
theorem pcs_none : ∀ l : List UInt8, 32 ∉ l → pcs l = [l]
  | [], _ => rfl
  | c :: l, h => by
    have h1 : c ≠ 32 := fun e => h (by simp [e])
    rw [pcs, if_neg h1, pcs_none l fun m => h (List.mem_cons_of_mem _ m)]
    rfl
theorem pcs_app : ∀ a b : List UInt8, 32 ∉ a → pcs (a ++ 32 :: b) = a :: pcs b
  | [], b, _ => by rw [List.nil_append, pcs, if_pos rfl]
  | c :: a, b, h => by
    have h1 : c ≠ 32 := fun e => h (by simp [e])
    rw [List.cons_append, pcs, if_neg h1, pcs_app a b fun m => h (List.mem_cons_of_mem _ m)]
    rfl
def joinB : List (List UInt8) → List UInt8
  | [] => []
  | a :: ps => if ps = [] then a else a ++ 32 :: joinB ps
theorem pcs_ne : ∀ l : List UInt8, pcs l ≠ []
  | [] => by simp [pcs]
  | c :: l => by rw [pcs]; split <;> simp
theorem join_pcs : ∀ l : List UInt8, joinB (pcs l) = l
  | [] => rfl
  | c :: l => by
    have ih := join_pcs l
    have hn := pcs_ne l
    rw [pcs]
    split
    · rename_i h
      rw [joinB, if_neg hn, ih, h]; rfl
    · cases hp : pcs l with
      | nil => exact absurd hp hn
      | cons a ps =>
        rw [hp] at ih
        rw [joinB] at ih
        show (if ps = [] then c :: a else (c :: a) ++ 32 :: joinB ps) = c :: l
        by_cases h : ps = []
        · rw [if_pos h] at ih ⊢; rw [ih]
        · rw [if_neg h] at ih ⊢; rw [List.cons_append, ih]
theorem index_blank {a b : List UInt8} (h : 32 ∉ a) : Lib.index (a ++ 32 :: b) [32] = a.length := by
  refine Lib.index_first (by simp) ?_ ?_
  · simp [Lib.occAt]
  · intro j hj
    unfold Lib.occAt
    rw [List.drop_append_of_le_length (by omega), List.drop_eq_getElem_cons hj]
    have : a[j] ≠ 32 := fun e => h (by rw [← e]; exact List.getElem_mem hj)
    show ((32 : UInt8) == a[j] && List.isPrefixOf [] (List.drop (j + 1) a ++ 32 :: b)) = false
    rw [beq_eq_false_iff_ne.2 fun e => this e.symm]; rfl
theorem index_noneB : ∀ {a : List UInt8}, 32 ∉ a → Lib.index a [32] = -1
  | [], _ => rfl
  | c :: a, h => by
    have h1 : c ≠ 32 := fun e => h (by simp [e])
    have ih := index_noneB fun m => h (List.mem_cons_of_mem c m)
    unfold Lib.index
    rw [ih]
    have : (List.isPrefixOf [32] (c :: a)) = false := by
      simp [List.isPrefixOf]
      exact fun e => h1 e.symm
    rw [this]; rfl
theorem splitK_pcs : ∀ (n : Nat) (s : List UInt8), s.length ≤ n → Lib.splitK [32] 0 (Lib.count s [32]) s = pcs s := by
  intro n
  induction n with
  | zero =>
    intro s h
    have : s = [] := List.length_eq_zero_iff.1 (by omega)
    subst this; rfl
  | succ n ih =>
    intro s h
    by_cases hm : 32 ∈ s
    · obtain ⟨a, b, rfl, ha⟩ := List.eq_append_cons_of_mem hm
      have hb : b.length ≤ n := by simp at h; omega
      rw [Lib.count_one, List.count_append, List.count_cons_self, List.count_eq_zero.2 ha, Nat.zero_add, ← Lib.count_one, Lib.splitK, index_blank ha, pcs_app _ _ ha]
      have h1 : ¬ (((a.length : Int)) == -1) = true := fun e => by have := beq_iff_eq.1 e; omega
      rw [if_neg h1]
      have h2 : List.drop (((a.length : Nat) : Int).toNat + List.length [(32 : UInt8)]) (a ++ 32 :: b) = b := by
        rw [Int.toNat_natCast, ← List.drop_drop, List.drop_left]; rfl
      have h3 : List.take (((a.length : Nat) : Int).toNat + 0) (a ++ 32 :: b) = a := by
        rw [Int.toNat_natCast, Nat.add_zero, List.take_left]
      rw [h2, h3, ih b hb]
    · rw [Lib.count_one, List.count_eq_zero.2 hm, pcs_none s hm]; rfl
theorem split_pcs (s : ByteArray) : Lib.splitB ⟨#[32]⟩ 0 (Lib.countB s ⟨#[32]⟩) s = (pcs s.data.toList).map BA := by
  have h := Lib.splitB_data ⟨#[32]⟩ 0 (Lib.countB s ⟨#[32]⟩) s
  have h2 : Lib.splitK [32] 0 (Lib.countB s ⟨#[32]⟩) s.data.toList = pcs s.data.toList := splitK_pcs _ _ (Nat.le_refl _)
  rw [show (⟨#[32]⟩ : ByteArray).data.toList = [32] from rfl, h2] at h
  rw [← h, List.map_map]
  conv => lhs; rw [← List.map_id (Lib.splitB _ _ _ _)]
  exact List.map_congr_left fun x _ => (ba_of x).symm

theorem pcs_noB : ∀ l : List UInt8, ∀ p ∈ pcs l, 32 ∉ p
  | [], p, h => by
    rw [pcs, List.mem_singleton] at h
    rw [h]; simp
  | c :: l, p, h => by
    have ih := pcs_noB l
    have hn := pcs_ne l
    rw [pcs] at h
    split at h
    · rcases List.mem_cons.1 h with rfl | h
      · simp
      · exact ih p h
    · rename_i hc
      cases hp : pcs l with
      | nil => exact absurd hp hn
      | cons a ps =>
        rw [hp] at h ih
        rcases List.mem_cons.1 h with rfl | h
        · intro m
          rcases List.mem_cons.1 m with e | m
          · exact hc e.symm
          · exact ih a (by simp) m
        · exact ih p (List.mem_cons_of_mem _ h)
theorem pcs_join : ∀ ps : List (List UInt8), ps ≠ [] → (∀ p ∈ ps, 32 ∉ p) → pcs (joinB ps) = ps
  | [], h, _ => absurd rfl h
  | [a], _, hn => by
    show pcs (if ([] : List (List UInt8)) = [] then a else _) = [a]
    rw [if_pos rfl]; exact pcs_none a (hn a (by simp))
  | a :: b :: ps, _, hn => by
    have ih := pcs_join (b :: ps) (by simp) fun p hp => hn p (List.mem_cons_of_mem _ hp)
    show pcs (if (b :: ps) = [] then a else a ++ 32 :: joinB (b :: ps)) = _
    rw [if_neg (by simp), pcs_app _ _ (hn a (by simp)), ih]

/-! ### numbers -/
def num15 (l : List UInt8) : Bool := decide (l ≠ []) && decide (l.length ≤ 15) && !(decide (l.getD 0 0 = 48) && decide (1 < l.length)) && l.all isDig
theorem valD_ge : ∀ (l : List UInt8) (n : Int), 0 ≤ n → l.all isDig = true → n ≤ valD n l
  | [], n, _, _ => Int.le_refl _
  | b :: l, n, h, hd => by
    simp only [List.all_cons, Bool.and_eq_true] at hd
    have hb := dig_of hd.1
    have ih := valD_ge l (10 * n + ((b.toNat : Int) - 48)) (by omega) hd.2
    have h2 : valD n (b :: l) = valD (10 * n + ((b.toNat : Int) - 48)) l := rfl
    omega
theorem valD_pos {l : List UInt8} (h : l ≠ []) (hd : l.all isDig = true) (h0 : l.getD 0 0 ≠ 48) : 0 < valD 0 l := by
  cases l with
  | nil => exact absurd rfl h
  | cons b l =>
    simp only [List.all_cons, Bool.and_eq_true] at hd
    have hb := dig_of hd.1
    have hne : b.toNat ≠ 48 := fun e => h0 (by show b = 48; exact UInt8.toNat_inj.1 e)
    have h2 : valD 0 (b :: l) = valD (10 * 0 + ((b.toNat : Int) - 48)) l := rfl
    have := valD_ge l (10 * 0 + ((b.toNat : Int) - 48)) (by omega) hd.2
    omega
theorem dec_val : ∀ (m : Nat) (l : List UInt8), l.length = m → l ≠ [] → l.all isDig = true → (l.getD 0 0 ≠ 48 ∨ l.length = 1) → Lib.decDigits (valD 0 l).toNat = l
  | 0, l, hm, h, _, _ => absurd (List.length_eq_zero_iff.1 hm) h
  | m + 1, l, hm, h, hd, h0 => by
    obtain ⟨a, b, rfl⟩ : ∃ a b, l = a ++ [b] := ⟨l.dropLast, l.getLast h, (List.dropLast_concat_getLast h).symm⟩
    rw [List.all_append, Bool.and_eq_true] at hd
    have hb := dig_of (show isDig b = true by simpa using hd.2)
    rw [valD_app]
    by_cases ha : a = []
    · subst ha
      have e : (10 * valD 0 [] + ((b.toNat : Int) - 48)).toNat = b.toNat - 48 := by
        show (10 * (0 : Int) + ((b.toNat : Int) - 48)).toNat = _
        omega
      rw [e, Lib.decDigits, dif_pos (by omega)]
      show [UInt8.ofNat (48 + (b.toNat - 48))] = [b]
      rw [show 48 + (b.toNat - 48) = b.toNat by omega, UInt8.ofNat_toNat]
    · have hl : 0 < a.length := List.length_pos_iff.2 ha
      have ha0 : a.getD 0 0 ≠ 48 := by
        rcases h0 with h0 | h0
        · rw [List.getD_eq_getElem?_getD, List.getElem?_append_left hl, ← List.getD_eq_getElem?_getD] at h0
          exact h0
        · rw [List.length_append, List.length_singleton] at h0; omega
      have hp := valD_pos ha hd.1 ha0
      have ih := dec_val m a (by simp at hm; omega) ha hd.1 (.inl ha0)
      have e : (10 * valD 0 a + ((b.toNat : Int) - 48)).toNat = 10 * (valD 0 a).toNat + (b.toNat - 48) := by omega
      rw [e, Lib.decDigits, dif_neg (by omega), show (10 * (valD 0 a).toNat + (b.toNat - 48)) / 10 = (valD 0 a).toNat by omega, ih,
        show 48 + (10 * (valD 0 a).toNat + (b.toNat - 48)) % 10 = b.toNat by omega, UInt8.ofNat_toNat]
theorem num15_val {l : List UInt8} (h : num15 l = true) : 0 ≤ valD 0 l ∧ valD 0 l ≤ 999999999999999 := by
  simp only [num15, Bool.and_eq_true, decide_eq_true_eq] at h
  have h1 := valD_le l 0 (Int.le_refl _) h.2
  have hp : (10 : Int) ^ l.length ≤ 10 ^ 15 := by
    have := Nat.pow_le_pow_right (show 0 < 10 by decide) h.1.1.2
    have e : ∀ k : Nat, ((10 ^ k : Nat) : Int) = (10 : Int) ^ k := fun k => by simp
    rw [← e, ← e]; omega
  have h15 : (10 : Int) ^ 15 = 1000000000000000 := by decide
  omega
theorem itoa_num15 {l : List UInt8} (h : num15 l = true) : Lib.itoa (valD 0 l) = l := by
  have hv := num15_val h
  simp only [num15, Bool.and_eq_true, decide_eq_true_eq, Bool.not_eq_true', Bool.and_eq_false_iff, decide_eq_false_iff_not] at h
  have e : Lib.itoa (valD 0 l) = Lib.decDigits (valD 0 l).toNat := by unfold Lib.itoa; rw [if_neg (by omega)]
  rw [e]
  have hl : 0 < l.length := List.length_pos_iff.2 h.1.1.1
  exact dec_val l.length l rfl h.1.1.1 h.2 (by rcases h.1.2 with q | q
                                               · exact .inl q
                                               · exact .inr (by omega))
theorem itoa15 {n : Int} (h : 0 ≤ n) (h2 : n ≤ 999999999999999) : num15 (Lib.itoa n) = true ∧ valD 0 (Lib.itoa n) = n := by
  obtain ⟨k1, k2⟩ := itoa_ok h (by omega)
  refine ⟨?_, k2⟩
  have hl : (Lib.itoa n).length ≤ 15 := by
    have e : Lib.itoa n = Lib.decDigits n.toNat := by unfold Lib.itoa; rw [if_neg (by omega)]
    rw [e, Lib.decDigits_length]
    exact nDigits_le 14 n.toNat (by
      have : (10 : Nat) ^ (14 + 1) = 1000000000000000 := by decide
      omega)
  simp only [numOK, Bool.and_eq_true, decide_eq_true_eq] at k1
  simp only [num15, Bool.and_eq_true, decide_eq_true_eq]
  exact ⟨⟨⟨k1.1.1.1, hl⟩, k1.1.2⟩, k1.2⟩

/-! ### terms -/
def isCmp (b : UInt8) : Bool := b == 60 || b == 61 || b == 62
def phW : List (List UInt8) := [[114, 117, 110, 110, 105, 110, 103], [117, 110, 100, 111, 105, 110, 103], [112, 97, 114, 107, 101, 100], [99, 111, 109, 112, 108, 101, 116, 101, 100], [99, 111, 109, 112, 101, 110, 115, 97, 116, 101, 100], [97, 98, 97, 110, 100, 111, 110, 101, 100]]
def phWord (n : Int) : List UInt8 := if 0 ≤ n then phW.getD n.toNat [] else []
def phIx (v : List UInt8) : Option Int :=
  if v = phWord 0 then some 0 else if v = phWord 1 then some 1 else if v = phWord 2 then some 2 else if v = phWord 3 then some 3 else if v = phWord 4 then some 4 else if v = phWord 5 then some 5 else none
def wYes : List UInt8 := [121, 101, 115]
def wNo : List UInt8 := [110, 111]
def valueS (k : Nat) (v : List UInt8) : Option (Int × List UInt8) :=
  if k = 6 then (if labelGood (BA v) = true then some (0, v) else none)
  else if k = 7 then (phIx v).map fun n => (n, [])
  else if k = 8 then (if v = wYes then some (1, []) else if v = wNo then some (0, []) else none)
  else (if num15 v = true then some (valD 0 v, []) else none)
def t0 : TermT := ⟨false, ⟨#[]⟩, 0, 0, ⟨#[]⟩⟩
/-- Behind the '!'. -/
def restS (nt : Bool) (r : List UInt8) : TermT × Int :=
  if fieldK (BA (r.takeWhile fun b => !isCmp b)) = 9 then (t0, 11) else
  match r.dropWhile fun b => !isCmp b with
  | [] => (t0, 14)
  | c :: v => if 6 ≤ fieldK (BA (r.takeWhile fun b => !isCmp b)) ∧ c ≠ 61 then (t0, 14) else
    match valueS (fieldK (BA (r.takeWhile fun b => !isCmp b))) v with
    | none => (t0, 3)
    | some (n, s) => (⟨nt, BA (r.takeWhile fun b => !isCmp b), (c.toNat : Int) - 61, n, BA s⟩, 0)
def termS (w : List UInt8) : TermT × Int :=
  match w with
  | 33 :: r => if r = [] then (t0, 14) else restS true r
  | r => restS false r
def readP : List (List UInt8) → Nat → List TermT → List TermT × Nat × Int
  | [], _, acc => (acc, 0, 0)
  | p :: ps, i, acc => if i = 32 then ([], 32, 4) else if (termS p).2 = 0 then readP ps (i + 1) (acc ++ [(termS p).1]) else ([], i, (termS p).2)
def readS (w : List UInt8) : List TermT × Nat × Int := if w = [] then ([], 0, 0) else readP (pcs w) 0 []
def cmpB (s : Int) : UInt8 := if s < 0 then 60 else if s = 0 then 61 else 62
def valueT (t : TermT) : List UInt8 :=
  if fieldK t.field = 6 then t.s.data.toList else if fieldK t.field = 7 then phWord t.n else if fieldK t.field = 8 then (if t.n = 1 then wYes else wNo) else Lib.itoa t.n
def textT (t : TermT) : List UInt8 := (if t.not = true then [33] else []) ++ (t.field.data.toList ++ cmpB t.sign :: valueT t)
def textS (l : List TermT) : List UInt8 := joinB (l.map textT)
end Go.Proofs.YtgehbkdpodnajaaDoor.Ev
set_option linter.unusedVariables false
set_option linter.unusedSimpArgs false
namespace Go.Proofs.YtgehbkdpodnajaaDoor.Ev
theorem mayF_noB (s : ByteArray) : ∀ (f pp : Nat), s.size - pp ≤ f → mayF s f pp = true → ∀ i, pp ≤ i → i < s.size → (s.get! i).toNat ≠ 32
  | 0, pp, h, _, i, h1, h2 => by omega
  | f + 1, pp, h, hm, i, h1, h2 => by
    have hp : pp < s.size := by omega
    have hw := Lib.decode_width_pos s pp hp
    have hd := Lib.decode_at s pp
    unfold mayF at hm
    rw [if_pos hp] at hm
    simp only [Bool.and_eq_true] at hm
    by_cases hi : pp + (Utf8.decode s pp).2 ≤ i
    · exact mayF_noB s f (pp + (Utf8.decode s pp).2) (by omega) hm.2 i hi h2
    · by_cases c : (s.get! pp).toNat < 128
      · have e : Utf8.decode s pp = ((s.get! pp).toNat, 1) := by rw [hd, Lib.decodeN_ascii _ _ _ _ _ c]
        rw [e] at hi
        have : i = pp := by dsimp only at hi; omega
        subst this
        intro e2
        rw [e, e2] at hm
        have := hm.1
        simp [mayS, letterS] at this
      · have w := decodeN_w (s.size - pp) (s.get! pp).toNat (s.get! (pp + 1)).toNat (s.get! (pp + 2)).toNat (s.get! (pp + 3)).toNat
        rw [← hd] at w
        obtain ⟨w4, w1, w2, w3⟩ := w
        have : i = pp ∨ (i = pp + 1 ∧ 2 ≤ (Utf8.decode s pp).2) ∨ (i = pp + 2 ∧ 3 ≤ (Utf8.decode s pp).2) ∨ (i = pp + 3 ∧ 4 ≤ (Utf8.decode s pp).2) := by omega
        rcases this with rfl | ⟨rfl, q⟩ | ⟨rfl, q⟩ | ⟨rfl, q⟩
        · omega
        · have := w1 q; omega
        · have := w2 q; omega
        · have := w3 q; omega
theorem good_noB {l : List UInt8} (h : labelGood (BA l) = true) : 32 ∉ l := fun m => by
  obtain ⟨i, hi, e⟩ := List.mem_iff_getElem.1 m
  simp only [labelGood, Bool.and_eq_true] at h
  refine mayF_noB (BA l) (BA l).size 0 (by omega) h.2 i (by omega) hi ?_
  rw [ba_get, List.getD_eq_getElem?_getD, List.getElem?_eq_getElem hi, e]; rfl
theorem drop_cmp : ∀ (r : List UInt8) (c : UInt8) (v : List UInt8), r.dropWhile (fun b => !isCmp b) = c :: v → isCmp c = true
  | [], c, v, h => by cases h
  | x :: r, c, v, h => by
    rw [List.dropWhile_cons] at h
    split at h
    · exact drop_cmp r c v h
    · rename_i hx
      simp only [List.cons.injEq] at h
      obtain ⟨rfl, rfl⟩ := h
      simpa using hx
theorem cmp_three {c : UInt8} (h : isCmp c = true) : c = 60 ∨ c = 61 ∨ c = 62 := by
  unfold isCmp at h
  simpa [or_assoc] using h
theorem cmpB_of {c : UInt8} (h : isCmp c = true) : cmpB ((c.toNat : Int) - 61) = c := by
  rcases cmp_three h with rfl | rfl | rfl <;> rfl
theorem ph_word (i : Fin 6) : phIx (phWord i.val) = some i.val := by
  revert i; decide
theorem phIx_ok {v : List UInt8} {n : Int} (h : phIx v = some n) : v = phWord n ∧ 0 ≤ n ∧ n ≤ 5 := by
  unfold phIx at h
  repeat' split at h
  all_goals first | (cases h; done) | (cases h; refine ⟨by assumption, by decide, by decide⟩)
theorem phIx_word {n : Int} (h0 : 0 ≤ n) (h1 : n ≤ 5) : phIx (phWord n) = some n := by
  have : n = 0 ∨ n = 1 ∨ n = 2 ∨ n = 3 ∨ n = 4 ∨ n = 5 := by omega
  rcases this with rfl | rfl | rfl | rfl | rfl | rfl <;> decide
def nmB (k : Nat) : List UInt8 := ([wId, wStart, wStep, wTries, wAt, wSkips, wDef, wPhase, wOut].getD k wId).data.toList
theorem field_name {f : ByteArray} (h : fieldK f ≠ 9) : f.data.toList = nmB (fieldK f) := by
  have c := cmp_of f
  have c0 := c.c0; have c1 := c.c1; have c2 := c.c2; have c3 := c.c3; have c4 := c.c4; have c5 := c.c5; have c6 := c.c6; have c7 := c.c7; have c8 := c.c8
  have hk := c.le
  generalize fieldK f = k at *
  have : k = 0 ∨ k = 1 ∨ k = 2 ∨ k = 3 ∨ k = 4 ∨ k = 5 ∨ k = 6 ∨ k = 7 ∨ k = 8 := by omega
  rcases this with rfl | rfl | rfl | rfl | rfl | rfl | rfl | rfl | rfl
  · rw [c0.mpr rfl]; rfl
  · rw [c1.mpr rfl]; rfl
  · rw [c2.mpr rfl]; rfl
  · rw [c3.mpr rfl]; rfl
  · rw [c4.mpr rfl]; rfl
  · rw [c5.mpr rfl]; rfl
  · rw [c6.mpr rfl]; rfl
  · rw [c7.mpr rfl]; rfl
  · rw [c8.mpr rfl]; rfl
theorem nm_plain (i : Fin 9) : ((nmB i.val).all fun b => !isCmp b) = true ∧ 32 ∉ nmB i.val ∧ (nmB i.val).head? ≠ some 33 ∧ nmB i.val ≠ [] ∧ (nmB i.val).length ≤ 6 := by
  revert i; decide
/-- A value's text, and the term. -/
theorem value_ok {t : TermT} {k : Nat} {v s : List UInt8} {n : Int} (hk : fieldK t.field = k) (h9 : k ≠ 9) (h : valueS k v = some (n, s)) (hn : t.n = n) (hs : t.s = BA s) (hg1 : -1 ≤ t.sign) (hg2 : t.sign ≤ 1) (hg : 6 ≤ k → t.sign = 0) :
    valueT t = v ∧ goodB t = true := by
  have hk9 := (cmp_of t.field).le
  unfold valueS at h
  unfold valueT goodB
  rw [hk] at hk9 ⊢
  by_cases k6 : k = 6
  · subst k6
    rw [if_pos rfl] at h ⊢
    split at h
    · rename_i hl
      simp only [Option.some.injEq, Prod.mk.injEq] at h
      obtain ⟨rfl, rfl⟩ := h
      rw [hs, ba_data]
      refine ⟨rfl, ?_⟩
      simp only [goodK, hg (Nat.le_refl 6), hn, hs, hl, decide_true, Bool.and_true]
    · cases h
  rw [if_neg k6] at h ⊢
  by_cases k7 : k = 7
  · subst k7
    rw [if_pos rfl] at h ⊢
    simp only [Option.map_eq_some_iff, Prod.mk.injEq] at h
    obtain ⟨m, h1, rfl, rfl⟩ := h
    obtain ⟨p1, p2, p3⟩ := phIx_ok h1
    refine ⟨by rw [hn, p1], ?_⟩
    have e : (BA [] : ByteArray) = ⟨#[]⟩ := rfl
    simp only [goodK, hg (by decide), hn, hs, e, p2, p3, decide_true, Bool.and_true]
  rw [if_neg k7] at h ⊢
  by_cases k8 : k = 8
  · subst k8
    have e : (BA [] : ByteArray) = ⟨#[]⟩ := rfl
    rw [if_pos rfl] at h ⊢
    split at h
    · rename_i hv
      simp only [Option.some.injEq, Prod.mk.injEq] at h
      obtain ⟨rfl, rfl⟩ := h
      refine ⟨by rw [hn, if_pos rfl, hv], ?_⟩
      simp only [goodK, hg (by decide), hn, hs, e, decide_true, Bool.and_true, Bool.or_true]
    · split at h
      · rename_i hv
        simp only [Option.some.injEq, Prod.mk.injEq] at h
        obtain ⟨rfl, rfl⟩ := h
        refine ⟨by rw [hn, if_neg (by decide), hv], ?_⟩
        simp only [goodK, hg (by decide), hn, hs, e, decide_true, Bool.and_true, Bool.true_or]
      · cases h
  rw [if_neg k8] at h ⊢
  split at h
  · rename_i hv
    simp only [Option.some.injEq, Prod.mk.injEq] at h
    obtain ⟨rfl, rfl⟩ := h
    have e : (BA [] : ByteArray) = ⟨#[]⟩ := rfl
    have hb := num15_val hv
    refine ⟨by rw [hn, itoa_num15 hv], ?_⟩
    rw [goodK_lt t (by omega)]
    simp only [hn, hs, e, hg1, hg2, hb.1, hb.2, decide_true, Bool.and_true]
  · cases h
theorem rest_ok {nt : Bool} {r : List UInt8} {t : TermT} (h : restS nt r = (t, 0)) : goodB t = true ∧ t.not = nt ∧ t.field.data.toList ++ cmpB t.sign :: valueT t = r := by
  unfold restS at h
  split at h
  · cases h
  · rename_i h9
    split at h
    · cases h
    · rename_i c v hd
      split at h
      · cases h
      · rename_i hw
        split at h
        · cases h
        · rename_i n s hv
          simp only [Prod.mk.injEq, and_true] at h
          subst h
          have hc := drop_cmp r c v hd
          have h3 := cmp_three hc
          have hb : -1 ≤ (c.toNat : Int) - 61 ∧ (c.toNat : Int) - 61 ≤ 1 := by rcases h3 with rfl | rfl | rfl <;> decide
          have hz : 6 ≤ fieldK (BA (r.takeWhile fun b => !isCmp b)) → (c.toNat : Int) - 61 = 0 := fun h6 => by
            have : c = 61 := by
              cases Decidable.em (c = 61) with
              | inl e => exact e
              | inr e => exact absurd ⟨h6, e⟩ hw
            rw [this]; rfl
          obtain ⟨q1, q2⟩ := value_ok (t := ⟨nt, BA (r.takeWhile fun b => !isCmp b), (c.toNat : Int) - 61, n, BA s⟩) rfl h9 hv rfl rfl hb.1 hb.2 hz
          refine ⟨q2, rfl, ?_⟩
          rw [q1]
          show (BA (r.takeWhile fun b => !isCmp b)).data.toList ++ cmpB ((c.toNat : Int) - 61) :: v = r
          rw [ba_data, cmpB_of hc, ← hd, List.takeWhile_append_dropWhile]
theorem term_ok {w : List UInt8} {t : TermT} (h : termS w = (t, 0)) : goodB t = true ∧ textT t = w := by
  unfold termS at h
  split at h
  · rename_i r
    split at h
    · cases h
    · obtain ⟨q1, q2, q3⟩ := rest_ok h
      refine ⟨q1, ?_⟩
      rw [textT, q2, if_pos rfl, q3]; rfl
  · obtain ⟨q1, q2, q3⟩ := rest_ok h
    refine ⟨q1, ?_⟩
    rw [textT, q2, if_neg (by decide), q3]; rfl
theorem take_name {f v : List UInt8} {c : UInt8} (hf : (f.all fun b => !isCmp b) = true) (hc : isCmp c = true) : (f ++ c :: v).takeWhile (fun b => !isCmp b) = f ∧ (f ++ c :: v).dropWhile (fun b => !isCmp b) = c :: v := by
  induction f with
  | nil => simp [hc]
  | cons x f ih =>
    simp only [List.all_cons, Bool.and_eq_true] at hf
    obtain ⟨i1, i2⟩ := ih hf.2
    rw [List.cons_append, List.takeWhile_cons, List.dropWhile_cons, hf.1, if_pos rfl, if_pos rfl, i1, i2]
    exact ⟨rfl, rfl⟩
theorem cmpB_is (s : Int) : isCmp (cmpB s) = true := by
  unfold cmpB; split <;> (try split) <;> decide
theorem value_of {t : TermT} (h : goodB t = true) : valueS (fieldK t.field) (valueT t) = some (t.n, t.s.data.toList) ∧ -1 ≤ t.sign ∧ t.sign ≤ 1 ∧ (6 ≤ fieldK t.field → t.sign = 0) := by
  have hk9 := (cmp_of t.field).le
  unfold goodB at h
  unfold valueS valueT
  generalize fieldK t.field = k at *
  have e : ∀ s : ByteArray, s = ⟨#[]⟩ → s.data.toList = [] := fun s hs => by rw [hs]
  by_cases k6 : k = 6
  · subst k6
    simp only [goodK, Bool.and_eq_true, decide_eq_true_eq] at h
    obtain ⟨⟨h1, h2⟩, h3⟩ := h
    rw [if_pos rfl, if_pos rfl, ba_of, if_pos h3, h2, h1]
    exact ⟨rfl, by decide, by decide, fun _ => rfl⟩
  rw [if_neg k6, if_neg k6]
  by_cases k7 : k = 7
  · subst k7
    simp only [goodK, Bool.and_eq_true, decide_eq_true_eq] at h
    obtain ⟨⟨⟨h1, h2⟩, h3⟩, h4⟩ := h
    rw [if_pos rfl, if_pos rfl, phIx_word h3 h4, e _ h2, h1]
    exact ⟨rfl, by decide, by decide, fun _ => rfl⟩
  rw [if_neg k7, if_neg k7]
  by_cases k8 : k = 8
  · subst k8
    simp only [goodK, Bool.and_eq_true, Bool.or_eq_true, decide_eq_true_eq] at h
    obtain ⟨⟨h1, h2⟩, h3⟩ := h
    rw [if_pos rfl, if_pos rfl, e _ h2, h1]
    refine ⟨?_, by decide, by decide, fun _ => rfl⟩
    rcases h3 with h3 | h3 <;> rw [h3] <;> decide
  rw [if_neg k8, if_neg k8]
  by_cases kk : k = 9
  · subst kk; cases h
  · rw [goodK_lt t (by omega)] at h
    simp only [Bool.and_eq_true, decide_eq_true_eq] at h
    obtain ⟨⟨⟨⟨h1, h2⟩, h3⟩, h4⟩, h5⟩ := h
    obtain ⟨q1, q2⟩ := itoa15 h4 h5
    rw [if_pos q1, q2, e _ h3]
    exact ⟨rfl, h1, h2, fun h6 => by omega⟩
theorem good_ne9 {t : TermT} (h : goodB t = true) : fieldK t.field ≠ 9 := fun e => by
  unfold goodB at h; rw [e] at h; cases h
theorem name_at {t : TermT} (h : goodB t = true) : ((t.field.data.toList).all fun b => !isCmp b) = true ∧ 32 ∉ t.field.data.toList ∧ (t.field.data.toList).head? ≠ some 33 ∧ t.field.data.toList ≠ [] ∧ (t.field.data.toList).length ≤ 6 := by
  have h9 := good_ne9 h
  have hk9 := (cmp_of t.field).le
  rw [field_name h9]
  exact nm_plain ⟨fieldK t.field, by omega⟩
theorem sgn_back {s : Int} (h1 : -1 ≤ s) (h2 : s ≤ 1) : ((cmpB s).toNat : Int) - 61 = s := by
  have : s = -1 ∨ s = 0 ∨ s = 1 := by omega
  rcases this with rfl | rfl | rfl <;> rfl
theorem rest_text {t : TermT} (h : goodB t = true) (nt : Bool) : restS nt (t.field.data.toList ++ cmpB t.sign :: valueT t) = (⟨nt, t.field, t.sign, t.n, t.s⟩, 0) := by
  obtain ⟨n1, n2, n3, n4, _⟩ := name_at h
  obtain ⟨v1, v2, v3, v4⟩ := value_of h
  obtain ⟨k1, k2⟩ := take_name (v := valueT t) n1 (cmpB_is t.sign)
  unfold restS
  rw [k1, k2, ba_of, if_neg (good_ne9 h)]
  dsimp only
  rw [if_neg (by
    rintro ⟨q1, q2⟩
    exact q2 (by rw [v4 q1]; rfl)), v1]
  dsimp only
  rw [sgn_back v2 v3, ba_of]
theorem text_term {t : TermT} (h : goodB t = true) : termS (textT t) = (t, 0) := by
  obtain ⟨n1, n2, n3, n4, _⟩ := name_at h
  unfold textT termS
  cases hn : t.not
  · have h33 : ∀ r, (if false = true then [33] else []) ++ (t.field.data.toList ++ cmpB t.sign :: valueT t) ≠ 33 :: r := by
      intro r e
      rw [if_neg (by decide), List.nil_append] at e
      cases hf : t.field.data.toList with
      | nil => exact n4 hf
      | cons x f =>
        rw [hf] at e n3
        simp only [List.cons_append, List.cons.injEq] at e
        exact n3 (by rw [e.1]; rfl)
    split
    · rename_i r e
      exact absurd e (h33 r)
    · rw [if_neg (by decide), List.nil_append, rest_text h, ← hn]
  · rw [if_pos rfl]
    show (if t.field.data.toList ++ cmpB t.sign :: valueT t = [] then (t0, 14) else restS true (t.field.data.toList ++ cmpB t.sign :: valueT t)) = _
    rw [if_neg (by simp), rest_text h, ← hn]
theorem ph_noB (n : Int) : 32 ∉ phWord n := by
  unfold phWord
  split
  · rename_i h
    by_cases h6 : n.toNat < 6
    · have : ∀ i : Fin 6, 32 ∉ phW.getD i.val [] := by decide
      exact this ⟨n.toNat, h6⟩
    · rw [List.getD_eq_getElem?_getD, List.getElem?_eq_none (by show 6 ≤ _; omega)]; simp
  · simp
theorem text_noB {t : TermT} (h : goodB t = true) : 32 ∉ textT t := by
  obtain ⟨n1, n2, n3, n4, _⟩ := name_at h
  obtain ⟨v1, _⟩ := value_of h
  have hc : cmpB t.sign ≠ 32 := fun e => by have := cmpB_is t.sign; rw [e] at this; cases this
  have hv : 32 ∉ valueT t := by
    unfold valueT
    split
    · rename_i k6
      have hl : labelGood t.s = true := by
        unfold goodB at h
        rw [k6] at h
        simp only [goodK, Bool.and_eq_true] at h
        exact h.2
      rw [← ba_of t.s] at hl
      exact good_noB hl
    · split
      · exact ph_noB _
      · split
        · split <;> decide
        · rename_i k6 k7 k8
          have h9 := good_ne9 h
          have hk9 := (cmp_of t.field).le
          unfold goodB at h
          rw [goodK_lt t (by omega)] at h
          simp only [Bool.and_eq_true, decide_eq_true_eq] at h
          obtain ⟨q1, _⟩ := itoa15 h.1.2 h.2
          simp only [num15, Bool.and_eq_true, List.all_eq_true] at q1
          exact fun m => by have := q1.2 32 m; cases this
  unfold textT
  simp only [List.mem_append, List.mem_cons, not_or]
  refine ⟨?_, n2, fun e => hc e.symm, hv⟩
  split <;> decide

/-! ### picks -/
theorem readP_ok : ∀ (ps : List (List UInt8)) (i : Nat) (acc l : List TermT), i ≤ 32 → i = acc.length → (∀ t, t ∈ acc → goodB t = true) → readP ps i acc = (l, 0, 0) → ∃ ts, l = acc ++ ts ∧ ts.map textT = ps ∧ l.length ≤ 32 ∧ ∀ t, t ∈ l → goodB t = true
  | [], i, acc, l, hi, ha, hg, h => by
    simp only [readP, Prod.mk.injEq, and_true] at h
    subst h
    exact ⟨[], by simp, rfl, by omega, hg⟩
  | p :: ps, i, acc, l, hi, ha, hg, h => by
    simp only [readP] at h
    split at h
    · simp only [Prod.mk.injEq] at h; omega
    · split at h
      · rename_i h32 h0
        obtain ⟨q1, q2⟩ := term_ok (w := p) (t := (termS p).1) (by rw [← h0])
        obtain ⟨ts, k1, k2, k3, k4⟩ := readP_ok ps (i + 1) (acc ++ [(termS p).1]) l (by omega) (by simp; omega) (fun t ht => by
          rcases List.mem_append.1 ht with m | m
          · exact hg t m
          · rw [List.mem_singleton.1 m]; exact q1) h
        exact ⟨(termS p).1 :: ts, by rw [k1, List.append_assoc]; rfl, by rw [List.map_cons, k2, q2], k3, k4⟩
      · simp only [Prod.mk.injEq] at h
        rename_i h0
        exact absurd h.2.2 h0
def goodsB' (l : List TermT) : Bool := decide (l.length ≤ 32) && l.all goodB
/-- WHAT IS READ IS TOLD BY JUST THAT TEXT. -/
theorem read_text {w : List UInt8} {l : List TermT} (h : readS w = (l, 0, 0)) : goodsB' l = true ∧ textS l = w := by
  unfold readS at h
  split at h
  · rename_i hw
    simp only [Prod.mk.injEq, and_true] at h
    subst h
    exact ⟨rfl, by rw [hw]; rfl⟩
  · obtain ⟨ts, k1, k2, k3, k4⟩ := readP_ok (pcs w) 0 [] l (by omega) rfl (fun t ht => by cases ht) h
    rw [List.nil_append] at k1
    subst k1
    refine ⟨?_, by rw [textS, k2, join_pcs]⟩
    simp only [goodsB', Bool.and_eq_true, decide_eq_true_eq, List.all_eq_true]
    exact ⟨k3, k4⟩
theorem readP_of : ∀ (ts : List TermT) (i : Nat) (acc : List TermT), i + ts.length ≤ 32 → (∀ t, t ∈ ts → goodB t = true) → readP (ts.map textT) i acc = (acc ++ ts, 0, 0)
  | [], i, acc, _, _ => by simp [readP]
  | t :: ts, i, acc, hi, hg => by
    simp only [List.length_cons] at hi
    have ht := text_term (hg t (by simp))
    simp only [List.map_cons, readP]
    rw [if_neg (by omega), ht, if_pos rfl, readP_of ts (i + 1) (acc ++ [t]) (by omega) (fun u hu => hg u (List.mem_cons_of_mem _ hu)), List.append_assoc]
    rfl
/-- WHAT IS WRITTEN IS READ AS IT WAS. -/
theorem text_read {l : List TermT} (h : goodsB' l = true) : readS (textS l) = (l, 0, 0) := by
  simp only [goodsB', Bool.and_eq_true, decide_eq_true_eq, List.all_eq_true] at h
  cases l with
  | nil => rfl
  | cons t ts =>
    have hne : (t :: ts).map textT ≠ [] := by simp
    have hp := pcs_join ((t :: ts).map textT) hne (fun p hp => by
      obtain ⟨u, hu, rfl⟩ := List.mem_map.1 hp
      exact text_noB (h.2 u hu))
    have hw : textS (t :: ts) ≠ [] := fun e => by
      unfold textS at e
      rw [e] at hp
      have h1 : pcs [] = [[]] := rfl
      rw [h1] at hp
      simp only [List.map_cons, List.cons.injEq] at hp
      have : textT t ≠ [] := by unfold textT; simp
      exact this hp.1.symm
    unfold readS
    rw [if_neg hw, textS, hp, readP_of (t :: ts) 0 [] (by omega) h.2]
    rfl
end Go.Proofs.YtgehbkdpodnajaaDoor.Ev
