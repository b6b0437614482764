/-
  Lines in plain words: what is cut at blanks, and numbers as words. No program in this text.
-/
import Derived.Test.YtampinmionpmhaaDoorEvKey1
import Derived.Lib.AtoiAll
set_option linter.unusedVariables false
set_option linter.unusedSimpArgs false
namespace Go.Proofs.YtampinmionpmhaaDoor.Ev
/-! ### cut at blanks -/
def pcs : List UInt8 → List (List UInt8)
  | [] => [[]]
  | c :: l => if c = 32 then [] :: pcs l else (c :: (pcs l).headD []) :: (pcs l).tail
theorem pcs_none : ∀ l : List UInt8, 32 ∉ l → pcs l = [l]
  | [], _ => rfl
  | c :: l, h => by
    have h1 : c ≠ 32 := fun e => h (by simp [e])
    rw [pcs, if_neg h1, pcs_none l fun m => h (List.mem_cons_of_mem _ m)]
    rfl
theorem pcs_app : ∀ a b : List UInt8, 32 ∉ a → pcs (a ++ 32 :: b) = a :: pcs b
  | [], b, _ => by rw [List.nil_append, pcs, if_pos rfl]
  | c :: a, b, h => by
    have h1 : c ≠ 32 := fun e => h (by simp [e])
    rw [List.cons_append, pcs, if_neg h1, pcs_app a b fun m => h (List.mem_cons_of_mem _ m)]
    rfl
def joinB : List (List UInt8) → List UInt8
  | [] => []
  | a :: ps => if ps = [] then a else a ++ 32 :: joinB ps
theorem pcs_ne : ∀ l : List UInt8, pcs l ≠ []
  | [] => by simp [pcs]
  | c :: l => by rw [pcs]; split <;> simp
theorem join_pcs : ∀ l : List UInt8, joinB (pcs l) = l
  | [] => rfl
  | c :: l => by
    have ih := join_pcs l
    have hn := pcs_ne l
    rw [pcs]
    split
    · rename_i h
      rw [joinB, if_neg hn, ih, h]; rfl
    · cases hp : pcs l with
      | nil => exact absurd hp hn
      | cons a ps =>
        rw [hp] at ih
        rw [joinB] at ih
        show (if ps = [] then c :: a else (c :: a) ++ 32 :: joinB ps) = c :: l
        by_cases h : ps = []
        · rw [if_pos h] at ih ⊢; rw [ih]
        · rw [if_neg h] at ih ⊢; rw [List.cons_append, ih]
theorem index_blank {a b : List UInt8} (h : 32 ∉ a) : Lib.index (a ++ 32 :: b) [32] = a.length := by
  refine Lib.index_first (by simp) ?_ ?_
  · simp [Lib.occAt]
  · intro j hj
    unfold Lib.occAt
    rw [List.drop_append_of_le_length (by omega), List.drop_eq_getElem_cons hj]
    have : a[j] ≠ 32 := fun e => h (by rw [← e]; exact List.getElem_mem hj)
    show ((32 : UInt8) == a[j] && List.isPrefixOf [] (List.drop (j + 1) a ++ 32 :: b)) = false
    rw [beq_eq_false_iff_ne.2 fun e => this e.symm]; rfl
theorem index_noneB : ∀ {a : List UInt8}, 32 ∉ a → Lib.index a [32] = -1
  | [], _ => rfl
  | c :: a, h => by
    have h1 : c ≠ 32 := fun e => h (by simp [e])
    have ih := index_noneB fun m => h (List.mem_cons_of_mem c m)
    unfold Lib.index
    rw [ih]
    have : (List.isPrefixOf [32] (c :: a)) = false := by
      simp [List.isPrefixOf]
      exact fun e => h1 e.symm
    rw [this]; rfl
theorem splitK_pcs : ∀ (n : Nat) (s : List UInt8), s.length ≤ n → Lib.splitK [32] 0 (Lib.count s [32]) s = pcs s := by
  intro n
  induction n with
  | zero =>
    intro s h
    have : s = [] := List.length_eq_zero_iff.1 (by omega)
    subst this; rfl
  | succ n ih =>
    intro s h
    by_cases hm : 32 ∈ s
    · obtain ⟨a, b, rfl, ha⟩ := List.eq_append_cons_of_mem hm
      have hb : b.length ≤ n := by simp at h; omega
      rw [Lib.count_one, List.count_append, List.count_cons_self, List.count_eq_zero.2 ha, Nat.zero_add, ← Lib.count_one, Lib.splitK, index_blank ha, pcs_app _ _ ha]
      have h1 : ¬ (((a.length : Int)) == -1) = true := fun e => by have := beq_iff_eq.1 e; omega
      rw [if_neg h1]
      have h2 : List.drop (((a.length : Nat) : Int).toNat + List.length [(32 : UInt8)]) (a ++ 32 :: b) = b := by
        rw [Int.toNat_natCast, ← List.drop_drop, List.drop_left]; rfl
      have h3 : List.take (((a.length : Nat) : Int).toNat + 0) (a ++ 32 :: b) = a := by
        rw [Int.toNat_natCast, Nat.add_zero, List.take_left]
      rw [h2, h3, ih b hb]
    · rw [Lib.count_one, List.count_eq_zero.2 hm, pcs_none s hm]; rfl
theorem split_pcs (s : ByteArray) : Lib.splitB ⟨#[32]⟩ 0 (Lib.countB s ⟨#[32]⟩) s = (pcs s.data.toList).map BA := by
  have h := Lib.splitB_data ⟨#[32]⟩ 0 (Lib.countB s ⟨#[32]⟩) s
  have h2 : Lib.splitK [32] 0 (Lib.countB s ⟨#[32]⟩) s.data.toList = pcs s.data.toList := splitK_pcs _ _ (Nat.le_refl _)
  rw [show (⟨#[32]⟩ : ByteArray).data.toList = [32] from rfl, h2] at h
  rw [← h, List.map_map]
  conv => lhs; rw [← List.map_id (Lib.splitB _ _ _ _)]
  exact List.map_congr_left fun x _ => (ba_of x).symm

theorem pcs_noB : ∀ l : List UInt8, ∀ p ∈ pcs l, 32 ∉ p
  | [], p, h => by
    rw [pcs, List.mem_singleton] at h
    rw [h]; simp
  | c :: l, p, h => by
    have ih := pcs_noB l
    have hn := pcs_ne l
    rw [pcs] at h
    split at h
    · rcases List.mem_cons.1 h with rfl | h
      · simp
      · exact ih p h
    · rename_i hc
      cases hp : pcs l with
      | nil => exact absurd hp hn
      | cons a ps =>
        rw [hp] at h ih
        rcases List.mem_cons.1 h with rfl | h
        · intro m
          rcases List.mem_cons.1 m with e | m
          · exact hc e.symm
          · exact ih a (by simp) m
        · exact ih p (List.mem_cons_of_mem _ h)
theorem pcs_join : ∀ ps : List (List UInt8), ps ≠ [] → (∀ p ∈ ps, 32 ∉ p) → pcs (joinB ps) = ps
  | [], h, _ => absurd rfl h
  | [a], _, hn => by
    show pcs (if ([] : List (List UInt8)) = [] then a else _) = [a]
    rw [if_pos rfl]; exact pcs_none a (hn a (by simp))
  | a :: b :: ps, _, hn => by
    have ih := pcs_join (b :: ps) (by simp) fun p hp => hn p (List.mem_cons_of_mem _ hp)
    show pcs (if (b :: ps) = [] then a else a ++ 32 :: joinB (b :: ps)) = _
    rw [if_neg (by simp), pcs_app _ _ (hn a (by simp)), ih]

theorem mayF_noB (s : ByteArray) : ∀ (f pp : Nat), s.size - pp ≤ f → mayF s f pp = true → ∀ i, pp ≤ i → i < s.size → (s.get! i).toNat ≠ 32
  | 0, pp, h, _, i, h1, h2 => by omega
  | f + 1, pp, h, hm, i, h1, h2 => by
    have hp : pp < s.size := by omega
    have hw := Lib.decode_width_pos s pp hp
    have hd := Lib.decode_at s pp
    unfold mayF at hm
    rw [if_pos hp] at hm
    simp only [Bool.and_eq_true] at hm
    by_cases hi : pp + (Utf8.decode s pp).2 ≤ i
    · exact mayF_noB s f (pp + (Utf8.decode s pp).2) (by omega) hm.2 i hi h2
    · by_cases c : (s.get! pp).toNat < 128
      · have e : Utf8.decode s pp = ((s.get! pp).toNat, 1) := by rw [hd, Lib.decodeN_ascii _ _ _ _ _ c]
        rw [e] at hi
        have : i = pp := by dsimp only at hi; omega
        subst this
        intro e2
        rw [e, e2] at hm
        have := hm.1
        simp [mayS, letterS] at this
      · have w := decodeN_w (s.size - pp) (s.get! pp).toNat (s.get! (pp + 1)).toNat (s.get! (pp + 2)).toNat (s.get! (pp + 3)).toNat
        rw [← hd] at w
        obtain ⟨w4, w1, w2, w3⟩ := w
        have : i = pp ∨ (i = pp + 1 ∧ 2 ≤ (Utf8.decode s pp).2) ∨ (i = pp + 2 ∧ 3 ≤ (Utf8.decode s pp).2) ∨ (i = pp + 3 ∧ 4 ≤ (Utf8.decode s pp).2) := by omega
        rcases this with rfl | ⟨rfl, q⟩ | ⟨rfl, q⟩ | ⟨rfl, q⟩
        · omega
        · have := w1 q; omega
        · have := w2 q; omega
        · have := w3 q; omega
theorem good_noB {l : List UInt8} (h : labelGood (BA l) = true) : 32 ∉ l := fun m => by
  obtain ⟨i, hi, e⟩ := List.mem_iff_getElem.1 m
  simp only [labelGood, Bool.and_eq_true] at h
  refine mayF_noB (BA l) (BA l).size 0 (by omega) h.2 i (by omega) hi ?_
  rw [ba_get, List.getD_eq_getElem?_getD, List.getElem?_eq_getElem hi, e]; rfl

/-! ### numbers -/
theorem valD_ge : ∀ (l : List UInt8) (n : Int), 0 ≤ n → l.all isDig = true → n ≤ valD n l
  | [], n, _, _ => Int.le_refl _
  | b :: l, n, h, hd => by
    simp only [List.all_cons, Bool.and_eq_true] at hd
    have hb := dig_of hd.1
    have ih := valD_ge l (10 * n + ((b.toNat : Int) - 48)) (by omega) hd.2
    have h2 : valD n (b :: l) = valD (10 * n + ((b.toNat : Int) - 48)) l := rfl
    omega
theorem parseU_step {acc : Nat} {c : UInt8} {r : List UInt8} (hc : 48 ≤ c.toNat ∧ c.toNat ≤ 57) (h : acc * 10 + (c.toNat - 48) < 9223372036854775808) : Lib.parseUint10 acc (c :: r) = Lib.parseUint10 (acc * 10 + (c.toNat - 48)) r := by
  rw [Lib.parseUint10, if_pos hc, if_neg (by omega), if_neg (by omega)]
theorem parseU_dig (m : Int) (hm : m ≤ 9223372036854775808) (l : List UInt8) : ∀ (acc : Nat), l.all isDig = true → valD acc l < m → Lib.parseUint10 acc l = .ok (valD acc l).toNat := by
  induction l with
  | nil =>
    intro acc _ _
    show Lib.NumEnd.ok acc = .ok ((acc : Int)).toNat
    rw [Int.toNat_natCast]
  | cons b l ih =>
    intro acc hd h
    simp only [List.all_cons, Bool.and_eq_true] at hd
    have hb := dig_of hd.1
    have e : valD (acc : Int) (b :: l) = valD ((acc * 10 + (b.toNat - 48) : Nat) : Int) l := by
      show valD (10 * (acc : Int) + ((b.toNat : Int) - 48)) l = _
      congr 1
      omega
    rw [e] at h ⊢
    have h1 := valD_ge l ((acc * 10 + (b.toNat - 48) : Nat) : Int) (by omega) hd.2
    rw [parseU_step hb (by omega), ih _ hd.2 h]
theorem atoi_itoa {n : Int} (h : 0 ≤ n) (h2 : n ≤ 999999999999999999) : Lib.atoiAll (Lib.itoa n) = .ok n := by
  obtain ⟨h3, h4⟩ := itoa_ok h (by omega)
  generalize Lib.itoa n = l at h3 h4
  simp only [numOK, Bool.and_eq_true, decide_eq_true_eq] at h3
  obtain ⟨⟨⟨h5, h6⟩, h7⟩, h8⟩ := h3
  cases l with
  | nil => exact absurd rfl h5
  | cons c r =>
    have hc := dig_of (by simp only [List.all_cons, Bool.and_eq_true] at h8; exact h8.1)
    have hp := parseU_dig 9223372036854775808 (Int.le_refl _) (c :: r) 0 h8 (by rw [Int.natCast_zero, h4]; omega)
    rw [Int.natCast_zero, h4] at hp
    have hm : Lib.parseMag (c :: r) = .ok n.toNat := by rw [Lib.parseMag, if_neg h5, hp]
    have hs : ¬ (c.toNat = 43 ∨ c.toNat = 45) := by omega
    have hn : ¬ c.toNat = 45 := by omega
    have hq : ¬ c.toNat = 43 := by omega
    have hb : ¬ 9223372036854775808 ≤ n.toNat := by omega
    have he : ((n.toNat : Nat) : Int) = n := by omega
    simp only [Lib.atoiAll, hn, hq, or_self, not_false_eq_true, true_and, false_and, if_false, hm, if_neg hb, he]
theorem itoa_noB {n : Int} (h : 0 ≤ n) (h2 : n ≤ 999999999999999999) : 32 ∉ Lib.itoa n := fun m => by
  have h3 := (itoa_ok h (by omega)).1
  simp only [numOK, Bool.and_eq_true, List.all_eq_true] at h3
  have := dig_of (h3.2 32 m)
  simp at this
theorem wayL_noB (u : Bool) : 32 ∉ wayL u := by cases u <;> decide
theorem cut_noB {L nm : List UInt8} {n : Int} {u : Bool} (h : cutS L = some (n, nm, u)) : 32 ∉ L := fun m => by
  obtain ⟨a, rfl, h1, h2, h3⟩ := cutS_to h
  simp only [List.mem_append, List.mem_cons] at m
  rcases m with m | m | m | m | m
  · simp only [numOK, Bool.and_eq_true, List.all_eq_true] at h1
    have := dig_of (h1.2 32 m)
    simp at this
  · exact absurd m (by decide)
  · exact good_noB h3 m
  · exact absurd m (by decide)
  · exact wayL_noB u m
end Go.Proofs.YtampinmionpmhaaDoor.Ev
