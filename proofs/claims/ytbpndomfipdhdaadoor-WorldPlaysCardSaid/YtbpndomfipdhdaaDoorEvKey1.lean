/-
  Keys, in plain words: what a text is cut to at its slashes, digits, names without slashes; what the code cuts and what the document reads are the same. No program in this text.
-/
import Derived.Test.YtbpndomfipdhdaaDoorEvUtf3
import Derived.Lib.SplitLaws
import Derived.Lib.ItoaNum
import Derived.Lib.TrimUEq
set_option linter.unusedVariables false
set_option linter.unusedSimpArgs false
namespace Go.Proofs.YtbpndomfipdhdaaDoor.Ev

def BA (l : List UInt8) : ByteArray := ⟨l.toArray⟩
theorem ba_data (l : List UInt8) : (BA l).data.toList = l := rfl
theorem ba_of (s : ByteArray) : BA s.data.toList = s := by
  unfold BA; rw [Array.toArray_toList]
theorem ba_size (l : List UInt8) : (BA l).size = l.length := rfl
theorem ba_inj {a b : List UInt8} : BA a = BA b ↔ a = b := ⟨fun h => by rw [← ba_data a, h, ba_data], fun h => by rw [h]⟩
theorem ba_get (l : List UInt8) (i : Nat) : (BA l).get! i = l.getD i 0 := by
  rw [← Lib.getD_get!', ba_data]

/-! ### cut at slashes -/
def parts : List UInt8 → List (List UInt8)
  | [] => [[]]
  | c :: l => if c = 47 then [] :: parts l else (c :: (parts l).headD []) :: (parts l).tail
theorem parts_none : ∀ l : List UInt8, 47 ∉ l → parts l = [l]
  | [], _ => rfl
  | c :: l, h => by
    have h1 : c ≠ 47 := fun e => h (by simp [e])
    rw [parts, if_neg h1, parts_none l fun m => h (List.mem_cons_of_mem _ m)]
    rfl
theorem parts_app : ∀ a b : List UInt8, 47 ∉ a → parts (a ++ 47 :: b) = a :: parts b
  | [], b, _ => by rw [List.nil_append, parts, if_pos rfl]
  | c :: a, b, h => by
    have h1 : c ≠ 47 := fun e => h (by simp [e])
    rw [List.cons_append, parts, if_neg h1, parts_app a b fun m => h (List.mem_cons_of_mem _ m)]
    rfl
def joinS : List (List UInt8) → List UInt8
  | [] => []
  | a :: ps => if ps = [] then a else a ++ 47 :: joinS ps
theorem parts_ne : ∀ l : List UInt8, parts l ≠ []
  | [] => by simp [parts]
  | c :: l => by rw [parts]; split <;> simp
theorem join_parts : ∀ l : List UInt8, joinS (parts l) = l
  | [] => rfl
  | c :: l => by
    have ih := join_parts l
    have hn := parts_ne l
    rw [parts]
    split
    · rename_i h
      rw [joinS, if_neg hn, ih, h]; rfl
    · cases hp : parts l with
      | nil => exact absurd hp hn
      | cons a ps =>
        rw [hp] at ih
        rw [joinS] at ih
        show (if ps = [] then c :: a else (c :: a) ++ 47 :: joinS ps) = c :: l
        by_cases h : ps = []
        · rw [if_pos h] at ih ⊢; rw [ih]
        · rw [if_neg h] at ih ⊢; rw [List.cons_append, ih]
theorem parts_three {l a b c : List UInt8} (h : parts l = [a, b, c]) : l = a ++ 47 :: (b ++ 47 :: c) := by
  have := join_parts l
  rw [h] at this
  simp [joinS] at this
  rw [← this]
theorem index_slash {a b : List UInt8} (h : 47 ∉ a) : Lib.index (a ++ 47 :: b) [47] = a.length := by
  refine Lib.index_first (by simp) ?_ ?_
  · simp [Lib.occAt]
  · intro j hj
    unfold Lib.occAt
    rw [List.drop_append_of_le_length (by omega), List.drop_eq_getElem_cons hj]
    have : a[j] ≠ 47 := fun e => h (by rw [← e]; exact List.getElem_mem hj)
    show ((47 : UInt8) == a[j] && List.isPrefixOf [] (List.drop (j + 1) a ++ 47 :: b)) = false
    rw [beq_eq_false_iff_ne.2 fun e => this e.symm]; rfl
theorem index_none : ∀ {a : List UInt8}, 47 ∉ a → Lib.index a [47] = -1
  | [], _ => rfl
  | c :: a, h => by
    have h1 : c ≠ 47 := fun e => h (by simp [e])
    have ih := index_none fun m => h (List.mem_cons_of_mem c m)
    unfold Lib.index
    rw [ih]
    have : (List.isPrefixOf [47] (c :: a)) = false := by
      simp [List.isPrefixOf]
      exact fun e => h1 e.symm
    rw [this]; rfl
theorem splitK_parts : ∀ (n : Nat) (s : List UInt8), s.length ≤ n → Lib.splitK [47] 0 (Lib.count s [47]) s = parts s := by
  intro n
  induction n with
  | zero =>
    intro s h
    have : s = [] := List.length_eq_zero_iff.1 (by omega)
    subst this; rfl
  | succ n ih =>
    intro s h
    by_cases hm : 47 ∈ s
    · obtain ⟨a, b, rfl, ha⟩ := List.eq_append_cons_of_mem hm
      have hb : b.length ≤ n := by simp at h; omega
      rw [Lib.count_one, List.count_append, List.count_cons_self, List.count_eq_zero.2 ha, Nat.zero_add, ← Lib.count_one, Lib.splitK, index_slash ha, parts_app _ _ ha]
      have h1 : ¬ (((a.length : Int)) == -1) = true := fun e => by have := beq_iff_eq.1 e; omega
      rw [if_neg h1]
      have h2 : List.drop (((a.length : Nat) : Int).toNat + List.length [(47 : UInt8)]) (a ++ 47 :: b) = b := by
        rw [Int.toNat_natCast, ← List.drop_drop, List.drop_left]; rfl
      have h3 : List.take (((a.length : Nat) : Int).toNat + 0) (a ++ 47 :: b) = a := by
        rw [Int.toNat_natCast, Nat.add_zero, List.take_left]
      rw [h2, h3, ih b hb]
    · rw [Lib.count_one, List.count_eq_zero.2 hm, parts_none s hm]; rfl
theorem split_parts (s : ByteArray) : Lib.splitB ⟨#[47]⟩ 0 (Lib.countB s ⟨#[47]⟩) s = (parts s.data.toList).map BA := by
  have h := Lib.splitB_data ⟨#[47]⟩ 0 (Lib.countB s ⟨#[47]⟩) s
  have h2 : Lib.splitK [47] 0 (Lib.countB s ⟨#[47]⟩) s.data.toList = parts s.data.toList := splitK_parts _ _ (Nat.le_refl _)
  rw [show (⟨#[47]⟩ : ByteArray).data.toList = [47] from rfl, h2] at h
  rw [← h, List.map_map]
  conv => lhs; rw [← List.map_id (Lib.splitB _ _ _ _)]
  exact List.map_congr_left fun x _ => (ba_of x).symm

/-! ### digits -/
def isDig (b : UInt8) : Bool := decide (48 ≤ b.toNat) && decide (b.toNat ≤ 57)
def valD (n : Int) (l : List UInt8) : Int := l.foldl (fun n b => 10 * n + ((b.toNat : Int) - 48)) n
def numOK (l : List UInt8) : Bool := decide (l ≠ []) && decide (l.length ≤ 18) && !(decide (l.getD 0 0 = 48) && decide (1 < l.length)) && l.all isDig
theorem dig_of {b : UInt8} (h : isDig b = true) : 48 ≤ b.toNat ∧ b.toNat ≤ 57 := by
  unfold isDig at h; simpa using h
theorem dig_ne {b : UInt8} (h : isDig b = true) : b ≠ 47 := fun e => by have := dig_of h; rw [e] at this; simp at this
theorem numOK_no {l : List UInt8} (h : numOK l = true) : 47 ∉ l := fun m => by
  simp only [numOK, Bool.and_eq_true, List.all_eq_true] at h
  exact dig_ne (h.2 47 m) rfl
theorem valD_le : ∀ (l : List UInt8) (n : Int), 0 ≤ n → l.all isDig = true → 0 ≤ valD n l ∧ valD n l < (n + 1) * 10 ^ l.length
  | [], n, h, _ => by simp [valD]; omega
  | b :: l, n, h, hd => by
    simp only [List.all_cons, Bool.and_eq_true] at hd
    have hb := dig_of hd.1
    have ih := valD_le l (10 * n + ((b.toNat : Int) - 48)) (by omega) hd.2
    refine ⟨ih.1, ?_⟩
    have h2 : valD n (b :: l) = valD (10 * n + ((b.toNat : Int) - 48)) l := rfl
    rw [h2, List.length_cons, Int.pow_succ]
    have hp : (0 : Int) < 10 ^ l.length := Int.pow_pos (by decide)
    have h3 : (10 * n + ((b.toNat : Int) - 48) + 1) * 10 ^ l.length ≤ ((n + 1) * 10) * 10 ^ l.length := Int.mul_le_mul_of_nonneg_right (by omega) (by omega)
    have h4 : (n + 1) * (10 ^ l.length * 10) = ((n + 1) * 10) * 10 ^ l.length := by rw [Int.mul_assoc, Int.mul_comm 10]
    rw [h4]
    omega
theorem valD_app (n : Int) (a : List UInt8) (b : UInt8) : valD n (a ++ [b]) = 10 * valD n a + ((b.toNat : Int) - 48) := by
  unfold valD; rw [List.foldl_append]; rfl
theorem decD_ok : ∀ (u : Nat), (Lib.decDigits u).all isDig = true ∧ valD 0 (Lib.decDigits u) = u := by
  intro u
  induction u using Nat.strongRecOn with
  | _ u ih =>
    by_cases h : u < 10
    · rw [Lib.decDigits, dif_pos h]
      have e : (UInt8.ofNat (48 + u)).toNat = 48 + u := by simp; omega
      simp only [List.all_cons, List.all_nil, isDig, valD, List.foldl_cons, List.foldl_nil, e]
      refine ⟨by simp; omega, by omega⟩
    · have hi := ih (u / 10) (by omega)
      have e : (UInt8.ofNat (48 + u % 10)).toNat = 48 + u % 10 := by simp; omega
      rw [Lib.decDigits, dif_neg h, valD_app, hi.2, List.all_append, hi.1, e]
      refine ⟨?_, by omega⟩
      simp only [List.all_cons, List.all_nil, isDig, e]
      simp; omega
theorem decD_head (u : Nat) (hu : 0 < u) : (Lib.decDigits u).getD 0 0 ≠ 48 := by
  induction u using Nat.strongRecOn with
  | _ u ih =>
    by_cases h : u < 10
    · rw [Lib.decDigits, dif_pos h]
      intro e
      have e2 : (UInt8.ofNat (48 + u)).toNat = 48 := by
        have : UInt8.ofNat (48 + u) = 48 := e
        rw [this]; rfl
      have e : (UInt8.ofNat (48 + u)).toNat = 48 + u := by simp; omega
      omega
    · rw [Lib.decDigits, dif_neg h]
      have hl : 0 < (Lib.decDigits (u / 10)).length := by rw [Lib.decDigits_length]; exact Lib.nDigits_pos _
      have := ih (u / 10) (by omega) (by omega)
      rw [List.getD_eq_getElem?_getD, List.getElem?_append_left hl, ← List.getD_eq_getElem?_getD]
      exact this
theorem nDigits_le : ∀ (k u : Nat), u < 10 ^ (k + 1) → Lib.nDigits u ≤ k + 1
  | 0, u, h => by rw [Lib.nDigits_small (by simpa using h)]; exact Nat.le_refl _
  | k + 1, u, h => by
    by_cases hu : u < 10
    · rw [Lib.nDigits_small hu]; omega
    · rw [Lib.nDigits_big hu]
      have := nDigits_le k (u / 10) (by rw [Nat.pow_succ] at h; omega)
      omega
theorem itoa_ok {n : Int} (h : 0 ≤ n) (h2 : n < 1000000000000000000) : numOK (Lib.itoa n) = true ∧ valD 0 (Lib.itoa n) = n := by
  have e : Lib.itoa n = Lib.decDigits n.toNat := by unfold Lib.itoa; rw [if_neg (by omega)]
  have hd := decD_ok n.toNat
  rw [e, hd.2]
  refine ⟨?_, by omega⟩
  have hl : (Lib.decDigits n.toNat).length = Lib.nDigits n.toNat := Lib.decDigits_length _
  have h1 := Lib.nDigits_pos n.toNat
  have h18 := nDigits_le 17 n.toNat (by
    have : (10 : Nat) ^ (17 + 1) = 1000000000000000000 := by decide
    omega)
  have hne : Lib.decDigits n.toNat ≠ [] := fun e => by rw [e] at hl; simp at hl; omega
  simp only [numOK, Bool.and_eq_true, decide_eq_true_eq, Bool.not_eq_true', hd.1, and_true]
  refine ⟨⟨hne, by omega⟩, ?_⟩
  by_cases c : n.toNat < 10
  · have : (Lib.decDigits n.toNat).length = 1 := by rw [hl, Lib.nDigits_small c]
    simp [this]
  · rw [decide_eq_false (decD_head n.toNat (by omega))]; rfl

/-! ### a name holds no slash -/
theorem decodeN_hi (n b0 b1 b2 b3 : Nat) (h : 128 ≤ b0) : 128 ≤ (Lib.decodeN n b0 b1 b2 b3).1 := by
  unfold Lib.decodeN
  repeat' split
  all_goals (dsimp only; omega)
theorem decodeN_w (n b0 b1 b2 b3 : Nat) : (Lib.decodeN n b0 b1 b2 b3).2 ≤ 4 ∧ (2 ≤ (Lib.decodeN n b0 b1 b2 b3).2 → b1 / 64 = 2) ∧ (3 ≤ (Lib.decodeN n b0 b1 b2 b3).2 → b2 / 64 = 2) ∧ (4 ≤ (Lib.decodeN n b0 b1 b2 b3).2 → b3 / 64 = 2) := by
  unfold Lib.decodeN
  repeat' split
  all_goals (dsimp only; omega)
theorem mayF_no (s : ByteArray) : ∀ (f pp : Nat), s.size - pp ≤ f → mayF s f pp = true → ∀ i, pp ≤ i → i < s.size → (s.get! i).toNat ≠ 47
  | 0, pp, h, _, i, h1, h2 => by omega
  | f + 1, pp, h, hm, i, h1, h2 => by
    have hp : pp < s.size := by omega
    have hw := Lib.decode_width_pos s pp hp
    have hd := Lib.decode_at s pp
    unfold mayF at hm
    rw [if_pos hp] at hm
    simp only [Bool.and_eq_true] at hm
    by_cases hi : pp + (Utf8.decode s pp).2 ≤ i
    · exact mayF_no s f (pp + (Utf8.decode s pp).2) (by omega) hm.2 i hi h2
    · by_cases c : (s.get! pp).toNat < 128
      · have e : Utf8.decode s pp = ((s.get! pp).toNat, 1) := by rw [hd, Lib.decodeN_ascii _ _ _ _ _ c]
        rw [e] at hi
        have : i = pp := by dsimp only at hi; omega
        subst this
        intro e2
        rw [e, e2] at hm
        have := hm.1
        simp [mayS, letterS] at this
      · have w := decodeN_w (s.size - pp) (s.get! pp).toNat (s.get! (pp + 1)).toNat (s.get! (pp + 2)).toNat (s.get! (pp + 3)).toNat
        rw [← hd] at w
        obtain ⟨w4, w1, w2, w3⟩ := w
        have : i = pp ∨ (i = pp + 1 ∧ 2 ≤ (Utf8.decode s pp).2) ∨ (i = pp + 2 ∧ 3 ≤ (Utf8.decode s pp).2) ∨ (i = pp + 3 ∧ 4 ≤ (Utf8.decode s pp).2) := by omega
        rcases this with rfl | ⟨rfl, q⟩ | ⟨rfl, q⟩ | ⟨rfl, q⟩
        · omega
        · have := w1 q; omega
        · have := w2 q; omega
        · have := w3 q; omega
theorem good_no {l : List UInt8} (h : labelGood (BA l) = true) : 47 ∉ l := fun m => by
  obtain ⟨i, hi, e⟩ := List.mem_iff_getElem.1 m
  simp only [labelGood, Bool.and_eq_true] at h
  refine mayF_no (BA l) (BA l).size 0 (by omega) h.2 i (by omega) hi ?_
  rw [ba_get, List.getD_eq_getElem?_getD, List.getElem?_eq_getElem hi, e]; rfl
/-- A digit's rune is the digit's byte. -/
theorem dec_dig (s : ByteArray) (i : Nat) (h : isDig (s.get! i) = true) : Utf8.decode s i = ((s.get! i).toNat, 1) := by
  rw [Lib.decode_at, Lib.decodeN_ascii]
  have := dig_of h; omega
theorem dec_not (s : ByteArray) (i : Nat) (h : ¬ isDig (s.get! i) = true) : (Utf8.decode s i).1 < 48 ∨ 57 < (Utf8.decode s i).1 := by
  have h' : ¬ (48 ≤ (s.get! i).toNat ∧ (s.get! i).toNat ≤ 57) := fun q => h (by unfold isDig; simp [q])
  by_cases c : (s.get! i).toNat < 128
  · rw [Lib.decode_at, Lib.decodeN_ascii _ _ _ _ _ c]; dsimp only; omega
  · have := decodeN_hi (s.size - i) (s.get! i).toNat (s.get! (i + 1)).toNat (s.get! (i + 2)).toNat (s.get! (i + 3)).toNat (by omega)
    rw [← Lib.decode_at] at this; omega

def wayL (u : Bool) : List UInt8 := if u then [117, 110, 100, 111] else [100, 111]
theorem wayL_no (u : Bool) : 47 ∉ wayL u := by cases u <;> decide
theorem wayL_inj {u w : Bool} : wayL u = wayL w ↔ u = w := by cases u <;> cases w <;> decide
/-- The text is the key of a command. -/
def IsCut (L : List UInt8) (n : Int) (nm : List UInt8) (u : Bool) : Prop :=
  ∃ a, L = a ++ 47 :: (nm ++ 47 :: wayL u) ∧ numOK a = true ∧ valD 0 a = n ∧ labelGood (BA nm) = true

/-! ### the code's way -/
def cut3 (a b c : List UInt8) : Option (Int × List UInt8 × Bool) :=
  if labelGood (BA b) = true ∧ (c = wayL false ∨ c = wayL true) ∧ numOK a = true then some (valD 0 a, b, decide (c = wayL true)) else none
def cutS (L : List UInt8) : Option (Int × List UInt8 × Bool) :=
  match parts L with
  | [a, b, c] => cut3 a b c
  | _ => none
theorem parts_cut {a b : List UInt8} {u : Bool} (h1 : 47 ∉ a) (h2 : 47 ∉ b) : parts (a ++ 47 :: (b ++ 47 :: wayL u)) = [a, b, wayL u] := by
  rw [parts_app _ _ h1, parts_app _ _ h2, parts_none _ (wayL_no u)]
theorem cutS_of {L nm : List UInt8} {n : Int} {u : Bool} (h : IsCut L n nm u) : cutS L = some (n, nm, u) := by
  obtain ⟨a, rfl, h1, rfl, h3⟩ := h
  unfold cutS
  rw [parts_cut (numOK_no h1) (good_no h3)]
  simp only [cut3]
  rw [if_pos ⟨h3, by cases u <;> simp, h1⟩]
  cases u <;> rfl
theorem cutS_to {L nm : List UInt8} {n : Int} {u : Bool} (h : cutS L = some (n, nm, u)) : IsCut L n nm u := by
  unfold cutS at h
  split at h
  · rename_i a b c hp
    unfold cut3 at h
    split at h
    · rename_i q
      simp only [Option.some.injEq, Prod.mk.injEq] at h
      obtain ⟨h1, h2, h3⟩ := h
      subst h2
      refine ⟨a, ?_, q.2.2, h1, q.1⟩
      have hc : c = wayL u := by
        rcases q.2.1 with e | e
        · rw [e] at h3 ⊢
          cases u
          · rfl
          · exact absurd h3 (by decide)
        · rw [e] at h3 ⊢
          cases u
          · exact absurd h3 (by decide)
          · rfl
      rw [parts_three hp, hc]
    · cases h
  · cases h

/-! ### the document's way -/
/-- The places k where the name may end. -/
def readK (L : List UInt8) (i : Nat) : Nat → Nat → Option (List UInt8 × Bool)
  | 0, _ => none
  | f + 1, k => if k < L.length then
      (if L.getD (i + 1) 0 = 47 ∧ L.getD k 0 = 47 ∧ labelGood (BA ((L.drop (i + 2)).take (k - (i + 2)))) = true ∧ (L.drop k = 47 :: wayL false ∨ L.drop k = 47 :: wayL true) then
        some ((L.drop (i + 2)).take (k - (i + 2)), decide (L.drop k = 47 :: wayL true)) else readK L i f (k + 1)) else none
def readI (L : List UInt8) : Nat → Nat → Int → Option (Int × List UInt8 × Bool)
  | 0, _, _ => none
  | f + 1, i, n => if i < L.length ∧ isDig (L.getD i 0) = true then
      (if 0 < i ∧ L.getD 0 0 = 48 then none
      else match readK L i (L.length - (i + 2)) (i + 2) with
        | some r => some (10 * n + (((L.getD i 0).toNat : Int) - 48), r.1, r.2)
        | none => readI L f (i + 1) (10 * n + (((L.getD i 0).toNat : Int) - 48)))
    else none
theorem readK_no (L : List UInt8) (i : Nat) (h : L.getD (i + 1) 0 ≠ 47) : ∀ f k, readK L i f k = none
  | 0, _ => rfl
  | f + 1, k => by
    unfold readK
    split
    · rw [if_neg fun q => h q.1, readK_no L i h f]
    · rfl
theorem getD_l {a b : List UInt8} {i : Nat} (h : i < a.length) : (a ++ b).getD i 0 = a.getD i 0 := by
  rw [List.getD_eq_getElem?_getD, List.getElem?_append_left h, ← List.getD_eq_getElem?_getD]
theorem getD_mem {a : List UInt8} {i : Nat} (h : i < a.length) : a.getD i 0 ∈ a := by
  rw [List.getD_eq_getElem?_getD, List.getElem?_eq_getElem h]; exact List.getElem_mem h
theorem getD_at {a b : List UInt8} {c : UInt8} : (a ++ c :: b).getD a.length 0 = c := by
  rw [List.getD_eq_getElem?_getD, List.getElem?_append_right (Nat.le_refl _)]; simp
theorem drop_at {a b : List UInt8} : (a ++ b).drop a.length = b := List.drop_left
theorem readK_hit {a nm : List UInt8} {u : Bool} (ha : 1 ≤ a.length) (hg : labelGood (BA nm) = true) :
    ∀ (m j f : Nat), j + m = nm.length → m < f → readK (a ++ 47 :: (nm ++ 47 :: wayL u)) (a.length - 1) f (a.length + 1 + j) = some (nm, u)
  | m, j, 0, h, hf => by omega
  | m, j, f + 1, h, hf => by
    have hlen : (a ++ 47 :: (nm ++ 47 :: wayL u)).length = a.length + 1 + nm.length + 1 + (wayL u).length := by
      simp only [List.length_append, List.length_cons]; omega
    have e1 : (a ++ 47 :: (nm ++ 47 :: wayL u)).getD (a.length - 1 + 1) 0 = 47 := by
      rw [Nat.sub_add_cancel ha]; exact getD_at
    have ed : ∀ t, (a ++ 47 :: (nm ++ 47 :: wayL u)).drop (a.length + 1 + t) = (nm ++ 47 :: wayL u).drop t := fun t => by
      rw [show a.length + 1 + t = a.length + (1 + t) by omega, ← List.drop_drop, drop_at, Nat.add_comm 1 t]; rfl
    unfold readK
    rw [if_pos (by omega), e1]
    match m, h, hf with
    | 0, h, hf =>
      have hj : j = nm.length := by omega
      subst hj
      have e2 : (a ++ 47 :: (nm ++ 47 :: wayL u)).drop (a.length + 1 + nm.length) = 47 :: wayL u := by rw [ed, drop_at]
      have e3 : (a ++ 47 :: (nm ++ 47 :: wayL u)).getD (a.length + 1 + nm.length) 0 = 47 := by
        have := congrArg (fun l => l.getD 0 0) e2
        simp only [Lib.getD_dropU, Nat.add_zero] at this
        rw [this]; rfl
      have e4 : ((a ++ 47 :: (nm ++ 47 :: wayL u)).drop (a.length - 1 + 2)).take (a.length + 1 + nm.length - (a.length - 1 + 2)) = nm := by
        rw [show a.length - 1 + 2 = a.length + 1 + 0 by omega, ed, List.drop_zero, show a.length + 1 + nm.length - (a.length + 1 + 0) = nm.length by omega, List.take_left]
      rw [e2, e3, e4, if_pos ⟨rfl, rfl, hg, by cases u <;> simp⟩]
      cases u <;> rfl
    | m + 1, h, hf =>
      have hj : j < nm.length := by omega
      have e3 : (a ++ 47 :: (nm ++ 47 :: wayL u)).getD (a.length + 1 + j) 0 ≠ 47 := by
        have := congrArg (fun l => l.getD 0 0) (ed j)
        simp only [Lib.getD_dropU, Nat.add_zero] at this
        rw [this, getD_l hj]
        exact fun e => good_no hg (e ▸ getD_mem hj)
      rw [if_neg fun q => e3 q.2.1]
      exact readK_hit ha hg m (j + 1) f (by omega) (by omega)
theorem take_succ_getD {a : List UInt8} {i : Nat} (h : i < a.length) : a.take (i + 1) = a.take i ++ [a.getD i 0] := by
  rw [List.take_add_one, List.getD_eq_getElem?_getD, List.getElem?_eq_getElem h]; rfl
theorem readI_hit {a nm : List UInt8} {u : Bool} (ha : numOK a = true) (hg : labelGood (BA nm) = true) :
    ∀ (m i f : Nat), i + 1 + m = a.length → m < f → readI (a ++ 47 :: (nm ++ 47 :: wayL u)) f i (valD 0 (a.take i)) = some (valD 0 a, nm, u)
  | m, i, 0, h, hf => by omega
  | m, i, f + 1, h, hf => by
    have hi : i < a.length := by omega
    have ha' := ha
    simp only [numOK, Bool.and_eq_true, List.all_eq_true] at ha'
    have hlen : (a ++ 47 :: (nm ++ 47 :: wayL u)).length = a.length + 1 + nm.length + 1 + (wayL u).length := by
      simp only [List.length_append, List.length_cons]; omega
    have e0 : (a ++ 47 :: (nm ++ 47 :: wayL u)).getD i 0 = a.getD i 0 := getD_l hi
    have e1 : (a ++ 47 :: (nm ++ 47 :: wayL u)).getD 0 0 = a.getD 0 0 := getD_l (by omega)
    have h0 : ¬ (0 < i ∧ a.getD 0 0 = 48) := fun q => by
      have := ha'.1.2
      rw [decide_eq_true q.2, decide_eq_true (show 1 < a.length by omega)] at this
      exact absurd this (by decide)
    have hv : 10 * valD 0 (a.take i) + (((a.getD i 0).toNat : Int) - 48) = valD 0 (a.take (i + 1)) := by rw [take_succ_getD hi, valD_app]
    unfold readI
    rw [e0, e1, if_pos ⟨by omega, ha'.2 _ (getD_mem hi)⟩, if_neg h0, hv]
    match m, h, hf with
    | 0, h, hf =>
      have hk := readK_hit (a := a) (nm := nm) (u := u) (by omega) hg nm.length 0 ((a ++ 47 :: (nm ++ 47 :: wayL u)).length - (i + 2)) (by omega) (by omega)
      rw [show a.length - 1 = i by omega, show a.length + 1 + 0 = i + 2 by omega] at hk
      rw [hk]
      dsimp only
      rw [show i + 1 = a.length by omega, List.take_length]
    | m + 1, h, hf =>
      have hn : (a ++ 47 :: (nm ++ 47 :: wayL u)).getD (i + 1) 0 ≠ 47 := by
        rw [getD_l (by omega)]
        exact dig_ne (ha'.2 _ (getD_mem (by omega)))
      rw [readK_no _ _ hn]
      exact readI_hit ha hg m (i + 1) f (by omega) (by omega)
theorem readS_of {L nm : List UInt8} {n : Int} {u : Bool} (h : IsCut L n nm u) : readI L 18 0 0 = some (n, nm, u) := by
  obtain ⟨a, rfl, h1, rfl, h3⟩ := h
  have h1' := h1
  simp only [numOK, Bool.and_eq_true, decide_eq_true_eq] at h1'
  have hl : 0 < a.length := List.length_pos_iff.2 h1'.1.1.1
  exact readI_hit h1 h3 (a.length - 1) 0 18 (by omega) (by omega)
theorem readK_to {L nm : List UInt8} {i : Nat} {u : Bool} : ∀ (f k : Nat), i + 2 ≤ k → readK L i f k = some (nm, u) →
    L.getD (i + 1) 0 = 47 ∧ labelGood (BA nm) = true ∧ L.drop (i + 2) = nm ++ 47 :: wayL u
  | 0, _, _, h => by cases h
  | f + 1, k, hk, h => by
    unfold readK at h
    split at h
    · split at h
      · rename_i q
        simp only [Option.some.injEq, Prod.mk.injEq] at h
        obtain ⟨h1, h2⟩ := h
        rw [h1] at q
        refine ⟨q.1, q.2.2.1, ?_⟩
        have hd : L.drop k = 47 :: wayL u := by
          rcases q.2.2.2 with e | e
          · rw [e] at h2 ⊢
            cases u
            · rfl
            · exact absurd h2 (by decide)
          · rw [e] at h2 ⊢
            cases u
            · exact absurd h2 (by decide)
            · rfl
        have := List.take_append_drop (k - (i + 2)) (L.drop (i + 2))
        rw [h1, List.drop_drop, show i + 2 + (k - (i + 2)) = k by omega, hd] at this
        exact this.symm
      · exact readK_to f (k + 1) (by omega) h
    · cases h
theorem readI_to {L nm : List UInt8} {n : Int} {u : Bool} : ∀ (f i : Nat), i + f = 18 → i ≤ L.length → (∀ b, b ∈ L.take i → isDig b = true) → readI L f i (valD 0 (L.take i)) = some (n, nm, u) → IsCut L n nm u
  | 0, _, _, _, _, h => by cases h
  | f + 1, i, hf, hi, hd, h => by
    unfold readI at h
    split at h
    · rename_i q
      have hv : 10 * valD 0 (L.take i) + (((L.getD i 0).toNat : Int) - 48) = valD 0 (L.take (i + 1)) := by rw [take_succ_getD q.1, valD_app]
      have hd' : ∀ b, b ∈ L.take (i + 1) → isDig b = true := fun b hb => by
        rw [take_succ_getD q.1] at hb
        rcases List.mem_append.1 hb with m | m
        · exact hd b m
        · rw [List.mem_singleton.1 m]; exact q.2
      rw [hv] at h
      split at h
      · cases h
      · rename_i h0
        split at h
        · rename_i r hr
          obtain ⟨x, y⟩ := r
          simp only [Option.some.injEq, Prod.mk.injEq] at h
          obtain ⟨h1, h2, h3⟩ := h
          subst h2 h3
          obtain ⟨k1, k2, k3⟩ := readK_to _ _ (Nat.le_refl _) hr
          have hlen : i + 1 < L.length := by
            have := congrArg List.length k3
            simp only [List.length_drop, List.length_append, List.length_cons] at this
            omega
          refine ⟨L.take (i + 1), ?_, ?_, h1, k2⟩
          · have := List.take_append_drop (i + 1) L
            rw [List.drop_eq_getElem_cons hlen, k3] at this
            have e : L[i + 1] = 47 := by
              rw [← k1, List.getD_eq_getElem?_getD, List.getElem?_eq_getElem hlen]; rfl
            rw [e] at this
            exact this.symm
          · have hl : (L.take (i + 1)).length = i + 1 := by rw [List.length_take]; omega
            have hne : L.take (i + 1) ≠ [] := fun e => by rw [e] at hl; cases hl
            have hg : (L.take (i + 1)).getD 0 0 = L.getD 0 0 := by
              conv => rhs; rw [← List.take_append_drop (i + 1) L]
              exact (getD_l (by omega)).symm
            simp only [numOK, Bool.and_eq_true, decide_eq_true_eq, List.all_eq_true, hg, hl]
            refine ⟨⟨⟨hne, by omega⟩, ?_⟩, hd'⟩
            by_cases c : 1 < i + 1
            · have : ¬ L.getD 0 0 = 48 := fun e => h0 ⟨by omega, e⟩
              rw [decide_eq_false this]; rfl
            · rw [decide_eq_false c, Bool.and_false]; rfl
        · exact readI_to f (i + 1) (by omega) q.1 hd' h
    · cases h
theorem readS_eq (L : List UInt8) : readI L 18 0 0 = cutS L := by
  cases h : cutS L with
  | some r =>
    obtain ⟨n, nm, u⟩ := r
    exact readS_of (cutS_to h)
  | none =>
    cases h2 : readI L 18 0 0 with
    | none => rfl
    | some r =>
      obtain ⟨n, nm, u⟩ := r
      have := cutS_of (readI_to 18 0 (by omega) (by omega) (fun b hb => by simp at hb) h2)
      rw [h] at this; cases this
end Go.Proofs.YtbpndomfipdhdaaDoor.Ev
