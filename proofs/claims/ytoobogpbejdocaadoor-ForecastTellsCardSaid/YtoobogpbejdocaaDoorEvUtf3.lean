import Derived.Test.YtoobogpbejdocaaDoorEvSa
import Derived.Test.YtoobogpbejdocaaDoorEvSl
import Derived.Test.YtoobogpbejdocaaDoorEvIR
import Derived.Lib.RuneCount
import Derived.Lib.ValidLaws
import Derived.Lib.DecodeN
set_option linter.unusedVariables false
set_option linter.unusedSectionVars false
set_option linter.unusedSimpArgs false
namespace Go.Proofs.YtoobogpbejdocaaDoor.Ev
attribute [local congr] bind_congr_head
attribute [local go_sem] AV.cells AV.tuple elems boxQ callN_any compact_same compact_new aggOf
def letterS (c : Int) : Bool := decide (97 ≤ c) && decide (c ≤ 122) || decide (65 ≤ c) && decide (c ≤ 90) || decide (128 ≤ c)
def mayS (c : Int) : Bool := letterS c || decide (48 ≤ c) && decide (c ≤ 57) || decide (c = 45) || decide (c = 95)
theorem fn_letter {E : Prog} (hE : Std E fns) (c : Int) : callP E f_label_letter [.v (.int .i32 c)] = some (vb (letterS c)) := by
  rw [hE.run rfl rfl]
  simp -implicitDefEqProofs only [go_sem, ir_label_letter, letterS]
  by_cases h1 : 97 ≤ c <;> by_cases h2 : c ≤ 122 <;> by_cases h3 : 65 ≤ c <;> by_cases h4 : c ≤ 90 <;> simp [h1, h2, h3, h4]
theorem fn_letterRef {E : Prog} (hE : Std E fns) (c : Int) : callP E f_usufructref02_letter [.v (.int .i32 c)] = some (vb (letterS c)) := by
  rw [hE.run rfl rfl]
  simp -implicitDefEqProofs only [go_sem, ir_usufructref02_letter, letterS]
  by_cases h1 : 97 ≤ c <;> by_cases h2 : c ≤ 122 <;> by_cases h3 : 65 ≤ c <;> by_cases h4 : c ≤ 90 <;> simp [h1, h2, h3, h4]
theorem fn_may {E : Prog} (hE : Std E fns) (c : Int) : callP E f_label_may [.v (.int .i32 c)] = some (vb (mayS c)) := by
  rw [hE.run rfl rfl]
  simp -implicitDefEqProofs only [go_sem, ir_label_may, fn_letter hE, mayS]
  cases letterS c <;> by_cases h1 : 48 ≤ c <;> by_cases h2 : c ≤ 57 <;> by_cases h3 : c = 45 <;> simp [h1, h2, h3]
theorem fn_mayRef {E : Prog} (hE : Std E fns) (c : Int) : callP E f_usufructref02_may [.v (.int .i32 c)] = some (vb (mayS c)) := by
  rw [hE.run rfl rfl]
  simp -implicitDefEqProofs only [go_sem, ir_usufructref02_may, fn_letterRef hE, mayS]
  cases letterS c <;> by_cases h1 : 48 ≤ c <;> by_cases h2 : c ≤ 57 <;> by_cases h3 : c = 45 <;> simp [h1, h2, h3]
def mayF (s : ByteArray) : Nat → Nat → Bool
  | 0, _ => true
  | n + 1, i => if i < s.size then mayS (Utf8.decode s i).1 && (decide (i ≠ 0) || letterS (Utf8.decode s i).1) && mayF s n (i + (Utf8.decode s i).2) else true
def validF (s : ByteArray) : Nat → Nat → Bool
  | 0, _ => true
  | n + 1, i => if i < s.size then decide (Utf8.decode s i ≠ (65533, 1)) && validF s n (i + (Utf8.decode s i).2) else true
theorem runes_loop {G : Nat → Option (List AV)} {raw : Raw} {L : Env × Store → Option (Sig × Env × Store)} (s : ByteArray)
    (hL : ∀ e st, L (e, st) = (IR.runL G raw [] ir_label_Runes_L0 e st).bind (seqK fun e st => L (compact [] 1 [3, 5] e st))) :
    ∀ (f pp n : Nat), s.size - pp ≤ f → n + f < 9223372036854775807 →
    ∃ q, L ([(3, vi n), (5, .it 0)], [.sit s pp]) = some (.exit 0, [(3, vi (n + Lib.runeCountFrom s f pp : Nat))], [.sit s q])
  | 0, pp, n, h, hn => by
    refine ⟨pp, ?_⟩
    have hp : ¬ pp < s.size := by omega
    rw [hL]
    simp -implicitDefEqProofs only [go_sem, ir_label_Runes_L0, nxtF, hp, Lib.runeCountFrom]
  | f + 1, pp, n, h, hn => by
    by_cases hp : pp < s.size
    · have hw := Lib.decode_width_pos s pp hp
      obtain ⟨q, ih⟩ := runes_loop s hL f (pp + (Utf8.decode s pp).2) (n + 1) (by omega) (by omega)
      refine ⟨q, ?_⟩
      have h6 := wrap_succ (i := n) (by omega)
      rw [hL]
      simp -implicitDefEqProofs only [go_sem, ir_label_Runes_L0, nxtF, hp, h6, ih, Lib.runeCountFrom]
      congr 6
      omega
    · refine ⟨pp, ?_⟩
      rw [hL]
      simp -implicitDefEqProofs only [go_sem, ir_label_Runes_L0, nxtF, hp, Lib.runeCountFrom]
theorem fn_runes {E : Prog} (hE : Std E fns) (s : ByteArray) (hs : s.size < 9223372036854775807) : callP E f_label_Runes [vs s] = some (vi (Lib.runeCount s)) := by
  obtain ⟨q, h⟩ := runes_loop s (loopL_eq (IR.runL E.glob (callL E) [] ir_label_Runes_L0) (compact [] 1 [3, 5])) s.size 0 0 (by omega) (by omega)
  simp only [Int.natCast_zero, Nat.zero_add] at h
  rw [hE.run rfl rfl]
  simp -implicitDefEqProofs only [go_sem, ir_label_Runes, h, Lib.runeCount]
theorem good_loop {E : Prog} (hE : Std E fns) {L : Env × Store → Option (Sig × Env × Store)} (s : ByteArray)
    (hL : ∀ e st, L (e, st) = (IR.runL E.glob (callL E) [] ir_label_Good_L0 e st).bind (seqK fun e st => L (compact [] 1 [18] e st))) :
    ∀ (f pp : Nat), s.size - pp ≤ f → ∃ q, L ([(18, .it 0)], [.sit s pp]) = if mayF s f pp = true then some (.exit 0, [], [.sit s q]) else some (.ret, [(2, vb false)], [.sit s q])
  | 0, pp, h => by
    refine ⟨pp, ?_⟩
    have hp : ¬ pp < s.size := by omega
    rw [hL]
    simp -implicitDefEqProofs only [go_sem, ir_label_Good_L0, nxtF, hp, mayF]
  | f + 1, pp, h => by
    by_cases hp : pp < s.size
    · have hw := Lib.decode_width_pos s pp hp
      obtain ⟨q, ih⟩ := good_loop hE s hL f (pp + (Utf8.decode s pp).2) (by omega)
      have e0 : ((pp : Int) = 0) = (pp = 0) := by simp
      rw [hL]
      simp -implicitDefEqProofs only [go_sem, ir_label_Good_L0, nxtF, hp, ih, mayF, fn_may hE, fn_letter hE, e0]
      cases c1 : mayS (Utf8.decode s pp).1
      · exact ⟨_, by simp [c1]; rfl⟩
      · by_cases c2 : pp = 0
        · subst c2
          cases c3 : letterS (Utf8.decode s 0).1
          · exact ⟨0 + (Utf8.decode s 0).2, by simp [c3, c1]⟩
          · refine ⟨q, ?_⟩
            simp [c3, c1]
        · exact ⟨q, by simp [c1, c2]⟩
    · refine ⟨pp, ?_⟩
      rw [hL]
      simp -implicitDefEqProofs only [go_sem, ir_label_Good_L0, nxtF, hp, mayF]
def labelGood (s : ByteArray) : Bool := Lib.validD s.data.toList && decide (s ≠ ⟨#[]⟩) && decide (Lib.runeCount s ≤ 64) && mayF s s.size 0
theorem fn_labelGood {E : Prog} (hE : Std E fns) (hv : ∀ s : ByteArray, s.size < 9223372036854775807 → callP E f_utf8_ValidString [vs s] = some (vb (Lib.validD s.data.toList))) (s : ByteArray) (hs : s.size < 9223372036854775807) :
    callP E f_label_Good [vs s] = some (vb (labelGood s)) := by
  obtain ⟨q, h⟩ := good_loop hE s (loopL_eq (IR.runL E.glob (callL E) [] ir_label_Good_L0) (compact [] 1 [18])) s.size 0 (by omega)
  have h2 := hv s hs
  have h3 := fn_runes hE s hs
  have e1 : ((64 : Int) < (Lib.runeCount s : Int)) = ¬ (Lib.runeCount s ≤ 64) := by simp; omega
  rw [hE.run rfl rfl]
  simp -implicitDefEqProofs only [go_sem, ir_label_Good, h2, h3, h, e1, labelGood]
  cases Lib.validD s.data.toList
  · simp
  · by_cases c1 : s = ⟨#[]⟩
    · simp [c1]
    · by_cases c2 : Lib.runeCount s ≤ 64
      · cases c3 : mayF s s.size 0 <;> simp -implicitDefEqProofs only [go_sem, c1, c2, c3]
      · simp [c1, c2]
theorem byteAt_nat {s : ByteArray} {i : Nat} (h : i < s.size) : byteAt s (i : Int) = some ((s.get! i).toNat : Int) := by
  unfold byteAt
  rw [dif_pos ⟨by omega, by simpa using h⟩]
  congr 3
  have : s.get! i = s[i] := by
    cases s with
    | mk d => show d[i]! = d[i]; rw [getElem!_pos d i h]
  rw [this]
  congr 1
def contS (s : ByteArray) : Nat → Nat → Int → Option Int
  | _, 0, v => some v
  | p, m + 1, v => if (s.get! p).toNat < 128 ∨ (s.get! p).toNat > 191 then none else contS s (p + 1) m (64 * v + (s.get! p).toNat - 128)
theorem i32_in {n : Int} (h : -2147483648 ≤ n ∧ n ≤ 2147483647) : IntKind.i32.wrap n = n := by rw [IntKind.wrap_i32]; omega
theorem at_loop {G : Nat → Option (List AV)} {raw : Raw} {L : Env × Store → Option (Sig × Env × Store)} (s : ByteArray) (i n : Nat) (least : Int) (hn : i + n ≤ s.size) (hn4 : n ≤ 4) (hi : s.size < 9223372036854775807)
    (hL : ∀ e st, L (e, st) = (IR.runL G raw [] ir_usufructref02_At_L0 e st).bind (seqK fun e st => L (compact [] 0 [0, 1, 7, 8, 9, 10] e st))) :
    ∀ (m k : Nat) (v : Int), k + m = n → 1 ≤ k → 0 ≤ v → v < 64 ^ (4 - m) →
    L ([(0, vs s), (1, vi i), (7, vi n), (8, .v (.int .i32 v)), (9, .v (.int .i32 least)), (10, vi k)], []) = match contS s (i + k) m v with
      | some v' => some (.exit 0, [(7, vi n), (8, .v (.int .i32 v')), (9, .v (.int .i32 least))], [])
      | none => some (.ret, [(4, .v (.int .i32 0)), (5, vi 0)], [])
  | 0, k, v, h, hk, h0, hv => by
    have e : ¬ ((k : Int) < (n : Int)) := by omega
    rw [hL]
    simp -implicitDefEqProofs only [go_sem, ir_usufructref02_At_L0, e, contS]
  | m + 1, k, v, h, hk, h0, hv => by
    have e : (k : Int) < (n : Int) := by omega
    have hlt : i + k < s.size := by omega
    have hb := byteAt_nat hlt
    have hw : IntKind.i64.wrap ((i : Int) + (k : Int)) = ((i + k : Nat) : Int) := by rw [IntWalk.i64_in _ (by omega)]; omega
    have h6 := wrap_succ (i := k) (by omega)
    have hbyte : (s.get! (i + k)).toNat < 256 := UInt8.toNat_lt _
    have h64 : v < 262144 := by
      have : (64 : Int) ^ (4 - (m + 1)) ≤ 64 ^ 3 := by
        have h1 : 4 - (m + 1) = 3 ∨ 4 - (m + 1) = 2 ∨ 4 - (m + 1) = 1 ∨ 4 - (m + 1) = 0 := by omega
        rcases h1 with h1 | h1 | h1 | h1 <;> rw [h1] <;> decide
      have h2 : (64 : Int) ^ 3 = 262144 := by decide
      omega
    rw [hL]
    by_cases c : (s.get! (i + k)).toNat < 128
    · have c1 : ((s.get! (i + k)).toNat : Int) < 128 := by omega
      simp -implicitDefEqProofs only [go_sem, ir_usufructref02_At_L0, e, contS, hb, hw, c1, c]
    · by_cases d : (s.get! (i + k)).toNat > 191
      · have c1 : ¬ ((s.get! (i + k)).toNat : Int) < 128 := by omega
        have d1 : (191 : Int) < ((s.get! (i + k)).toNat : Int) := by omega
        simp only [gt_iff_lt] at d
        simp -implicitDefEqProofs only [go_sem, ir_usufructref02_At_L0, e, contS, hb, hw, c1, c, d, d1]
      · have c1 : ¬ ((s.get! (i + k)).toNat : Int) < 128 := by omega
        have d1 : ¬ (191 : Int) < ((s.get! (i + k)).toNat : Int) := by omega
        have w1 : IntKind.i32.wrap (64 * v) = 64 * v := i32_in (by omega)
        have w2 : IntKind.i32.wrap ((s.get! (i + k)).toNat : Int) = ((s.get! (i + k)).toNat : Int) := i32_in (by omega)
        have w3 : IntKind.i32.wrap (64 * v + ((s.get! (i + k)).toNat : Int)) = 64 * v + ((s.get! (i + k)).toNat : Int) := i32_in (by omega)
        have w4 : IntKind.i32.wrap (64 * v + ((s.get! (i + k)).toNat : Int) - 128) = 64 * v + ((s.get! (i + k)).toNat : Int) - 128 := i32_in (by omega)
        have hv2 : 64 * v + ((s.get! (i + k)).toNat : Int) - 128 < 64 ^ (4 - m) := by
          have h1 : (4 - (m + 1) = 3 ∧ 4 - m = 4) ∨ (4 - (m + 1) = 2 ∧ 4 - m = 3) ∨ (4 - (m + 1) = 1 ∧ 4 - m = 2) ∨ (4 - (m + 1) = 0 ∧ 4 - m = 1) := by omega
          rcases h1 with ⟨a1, a2⟩ | ⟨a1, a2⟩ | ⟨a1, a2⟩ | ⟨a1, a2⟩ <;> rw [a1] at hv <;> rw [a2] <;> simp only [Int.reducePow] at hv ⊢ <;> omega
        have ih := at_loop s i n least hn hn4 hi hL m (k + 1) (64 * v + ((s.get! (i + k)).toNat : Int) - 128) (by omega) (by omega) (by omega) hv2
        rw [← Nat.add_assoc] at ih
        simp only [gt_iff_lt] at d
        simp -implicitDefEqProofs only [go_sem, ir_usufructref02_At_L0, e, contS, hb, hw, c1, c, d, d1, w1, w2, w3, w4, h6, ih]
def atS (s : ByteArray) (i : Nat) : Int × Int := if Utf8.decode s i = (65533, 1) then (0, 0) else ((Utf8.decode s i).1, (Utf8.decode s i).2)
def atGo (s : ByteArray) (i : Nat) : Int × Int :=
  if (s.get! i).toNat < 128 then ((s.get! i).toNat, 1)
  else if 194 ≤ (s.get! i).toNat ∧ (s.get! i).toNat ≤ 223 then (if i + 2 > s.size then (0, 0) else match contS s (i + 1) 1 ((s.get! i).toNat - 192) with
    | none => (0, 0)
    | some v => if v < 128 ∨ v > 1114111 ∨ (55296 ≤ v ∧ v ≤ 57343) then (0, 0) else (v, 2))
  else if 224 ≤ (s.get! i).toNat ∧ (s.get! i).toNat ≤ 239 then (if i + 3 > s.size then (0, 0) else match contS s (i + 1) 2 ((s.get! i).toNat - 224) with
    | none => (0, 0)
    | some v => if v < 2048 ∨ v > 1114111 ∨ (55296 ≤ v ∧ v ≤ 57343) then (0, 0) else (v, 3))
  else if 240 ≤ (s.get! i).toNat ∧ (s.get! i).toNat ≤ 244 then (if i + 4 > s.size then (0, 0) else match contS s (i + 1) 3 ((s.get! i).toNat - 240) with
    | none => (0, 0)
    | some v => if v < 65536 ∨ v > 1114111 ∨ (55296 ≤ v ∧ v ≤ 57343) then (0, 0) else (v, 4))
  else (0, 0)
set_option maxHeartbeats 4000000 in
theorem atGo_eq (s : ByteArray) (i : Nat) (h : i < s.size) : atGo s i = atS s i := by
  have b0 : (s.get! i).toNat < 256 := UInt8.toNat_lt _
  have b1 : (s.get! (i + 1)).toNat < 256 := UInt8.toNat_lt _
  have b2 : (s.get! (i + 2)).toNat < 256 := UInt8.toNat_lt _
  have b3 : (s.get! (i + 3)).toNat < 256 := UInt8.toNat_lt _
  unfold atS atGo
  rw [Lib.decode_at]
  simp only [contS, show i + 1 + 1 = i + 2 from rfl, show i + 2 + 1 = i + 3 from rfl, Lib.decodeN]
  generalize (s.get! i).toNat = x0 at *
  generalize (s.get! (i + 1)).toNat = x1 at *
  generalize (s.get! (i + 2)).toNat = x2 at *
  generalize (s.get! (i + 3)).toNat = x3 at *
  by_cases c0 : x0 < 128
  · have : ¬ (x0 = 65533) := by omega
    simp [c0, this]
  · by_cases c1 : 194 ≤ x0 ∧ x0 ≤ 223
    · have e1 : x0 / 32 = 6 := by omega
      simp only [c0, c1, e1, if_true, if_false, true_and, and_self]
      by_cases d : i + 2 > s.size
      · have : ¬ (1 < s.size - i) := by omega
        have q1 : ¬ x0 / 16 = 14 := by omega
        have q2 : ¬ x0 / 8 = 30 := by omega
        simp [d, this, q1, q2]
      · have d1 : 1 < s.size - i := by omega
        by_cases f : x1 < 128 ∨ x1 > 191
        · have f1 : ¬ x1 / 64 = 2 := by omega
          have q1 : ¬ x0 / 16 = 14 := by omega
          have q2 : ¬ x0 / 8 = 30 := by omega
          simp [d, f, f1, q1, q2]
        · have f1 : x1 / 64 = 2 := by omega
          have g1 : x0 % 32 * 64 + x1 % 64 ≥ 128 := by omega
          have g2 : ¬ ((64 * ((x0 : Int) - 192) + x1 - 128 < 128) ∨ (64 * ((x0 : Int) - 192) + x1 - 128 > 1114111) ∨ (55296 ≤ 64 * ((x0 : Int) - 192) + x1 - 128 ∧ 64 * ((x0 : Int) - 192) + x1 - 128 ≤ 57343)) := by omega
          have g3 : ¬ ((x0 % 32 * 64 + x1 % 64, 2) = ((65533, 1) : Nat × Nat)) := by simp
          simp only [d, f, f1, d1, g1, g2, g3, if_true, if_false, and_self]
          congr 1
          omega
    · simp only [c0, c1, if_false]
      by_cases c2 : 224 ≤ x0 ∧ x0 ≤ 239
      · have e1 : ¬ x0 / 32 = 6 := by omega
        have e2 : x0 / 16 = 14 := by omega
        have q2 : ¬ x0 / 8 = 30 := by omega
        simp only [c2, e1, e2, q2, if_true, if_false, true_and, and_self, false_and]
        by_cases d : i + 3 > s.size
        · have : ¬ (2 < s.size - i) := by omega
          simp [d, this]
        · have d1 : 1 < s.size - i := by omega
          have d2 : 2 < s.size - i := by omega
          by_cases f : x1 < 128 ∨ x1 > 191
          · have f1 : ¬ x1 / 64 = 2 := by omega
            simp [d, f, f1]
          · have f1 : x1 / 64 = 2 := by omega
            by_cases f2 : x2 < 128 ∨ x2 > 191
            · have f3 : ¬ x2 / 64 = 2 := by omega
              simp [d, f, f1, f2, f3]
            · have f3 : x2 / 64 = 2 := by omega
              by_cases g : x0 % 16 * 4096 + x1 % 64 * 64 + x2 % 64 ≥ 2048 ∧ (x0 % 16 * 4096 + x1 % 64 * 64 + x2 % 64 < 55296 ∨ (57344 ≤ x0 % 16 * 4096 + x1 % 64 * 64 + x2 % 64 ∧ x0 % 16 * 4096 + x1 % 64 * 64 + x2 % 64 ≤ 1114111))
              · have g2 : ¬ ((64 * (64 * ((x0 : Int) - 224) + x1 - 128) + x2 - 128 < 2048) ∨ (64 * (64 * ((x0 : Int) - 224) + x1 - 128) + x2 - 128 > 1114111) ∨ (55296 ≤ 64 * (64 * ((x0 : Int) - 224) + x1 - 128) + x2 - 128 ∧ 64 * (64 * ((x0 : Int) - 224) + x1 - 128) + x2 - 128 ≤ 57343)) := by omega
                have g3 : ¬ ((x0 % 16 * 4096 + x1 % 64 * 64 + x2 % 64, 3) = ((65533, 1) : Nat × Nat)) := by simp
                simp only [d, f, f1, f2, f3, d1, d2, g, g2, g3, if_true, if_false, and_self]
                congr 1
                omega
              · have g2 : ((64 * (64 * ((x0 : Int) - 224) + x1 - 128) + x2 - 128 < 2048) ∨ (64 * (64 * ((x0 : Int) - 224) + x1 - 128) + x2 - 128 > 1114111) ∨ (55296 ≤ 64 * (64 * ((x0 : Int) - 224) + x1 - 128) + x2 - 128 ∧ 64 * (64 * ((x0 : Int) - 224) + x1 - 128) + x2 - 128 ≤ 57343)) := by omega
                simp only [d, f, f1, f2, f3, d1, d2, g, g2, if_true, if_false, and_self]
      · simp only [c2, if_false]
        by_cases c3 : 240 ≤ x0 ∧ x0 ≤ 244
        · have e1 : ¬ x0 / 32 = 6 := by omega
          have e2 : ¬ x0 / 16 = 14 := by omega
          have q2 : x0 / 8 = 30 := by omega
          simp only [c3, e1, e2, q2, if_true, if_false, true_and, and_self, false_and]
          by_cases d : i + 4 > s.size
          · have : ¬ (3 < s.size - i) := by omega
            simp [d, this]
          · have d1 : 1 < s.size - i := by omega
            have d2 : 2 < s.size - i := by omega
            have d3 : 3 < s.size - i := by omega
            by_cases f : x1 < 128 ∨ x1 > 191
            · have f1 : ¬ x1 / 64 = 2 := by omega
              simp [d, f, f1]
            · have f1 : x1 / 64 = 2 := by omega
              by_cases f2 : x2 < 128 ∨ x2 > 191
              · have f3 : ¬ x2 / 64 = 2 := by omega
                simp [d, f, f1, f2, f3]
              · have f3 : x2 / 64 = 2 := by omega
                by_cases f4 : x3 < 128 ∨ x3 > 191
                · have f5 : ¬ x3 / 64 = 2 := by omega
                  simp [d, f, f1, f2, f3, f4, f5]
                · have f5 : x3 / 64 = 2 := by omega
                  by_cases g : x0 % 8 * 262144 + x1 % 64 * 4096 + x2 % 64 * 64 + x3 % 64 ≥ 65536 ∧ (x0 % 8 * 262144 + x1 % 64 * 4096 + x2 % 64 * 64 + x3 % 64 < 55296 ∨ (57344 ≤ x0 % 8 * 262144 + x1 % 64 * 4096 + x2 % 64 * 64 + x3 % 64 ∧ x0 % 8 * 262144 + x1 % 64 * 4096 + x2 % 64 * 64 + x3 % 64 ≤ 1114111))
                  · have g2 : ¬ ((64 * (64 * (64 * ((x0 : Int) - 240) + x1 - 128) + x2 - 128) + x3 - 128 < 65536) ∨ (64 * (64 * (64 * ((x0 : Int) - 240) + x1 - 128) + x2 - 128) + x3 - 128 > 1114111) ∨ (55296 ≤ 64 * (64 * (64 * ((x0 : Int) - 240) + x1 - 128) + x2 - 128) + x3 - 128 ∧ 64 * (64 * (64 * ((x0 : Int) - 240) + x1 - 128) + x2 - 128) + x3 - 128 ≤ 57343)) := by omega
                    have g3 : ¬ ((x0 % 8 * 262144 + x1 % 64 * 4096 + x2 % 64 * 64 + x3 % 64, 4) = ((65533, 1) : Nat × Nat)) := by simp
                    simp only [d, f, f1, f2, f3, f4, f5, d1, d2, d3, g, g2, g3, if_true, if_false, and_self]
                    congr 1
                    omega
                  · have g2 : ((64 * (64 * (64 * ((x0 : Int) - 240) + x1 - 128) + x2 - 128) + x3 - 128 < 65536) ∨ (64 * (64 * (64 * ((x0 : Int) - 240) + x1 - 128) + x2 - 128) + x3 - 128 > 1114111) ∨ (55296 ≤ 64 * (64 * (64 * ((x0 : Int) - 240) + x1 - 128) + x2 - 128) + x3 - 128 ∧ 64 * (64 * (64 * ((x0 : Int) - 240) + x1 - 128) + x2 - 128) + x3 - 128 ≤ 57343)) := by omega
                    simp only [d, f, f1, f2, f3, f4, f5, d1, d2, d3, g, g2, if_true, if_false, and_self]
        · simp only [c3, if_false]
          by_cases e1 : x0 / 32 = 6
          · have k1 : x0 = 192 ∨ x0 = 193 := by omega
            have k2 : ¬ (x0 % 32 * 64 + x1 % 64 ≥ 128) := by omega
            have e2 : ¬ x0 / 16 = 14 := by omega
            have q2 : ¬ x0 / 8 = 30 := by omega
            simp only [e1, e2, q2, k2, if_false, true_and, false_and]
            split <;> rfl
          · have e2 : ¬ x0 / 16 = 14 := by omega
            by_cases q2 : x0 / 8 = 30
            · have k2 : ¬ (x0 % 8 * 262144 + x1 % 64 * 4096 + x2 % 64 * 64 + x3 % 64 ≥ 65536 ∧ (x0 % 8 * 262144 + x1 % 64 * 4096 + x2 % 64 * 64 + x3 % 64 < 55296 ∨ (57344 ≤ x0 % 8 * 262144 + x1 % 64 * 4096 + x2 % 64 * 64 + x3 % 64 ∧ x0 % 8 * 262144 + x1 % 64 * 4096 + x2 % 64 * 64 + x3 % 64 ≤ 1114111))) := by omega
              simp only [e1, e2, q2, k2, if_false, true_and, false_and]
              split <;> rfl
            · simp only [e1, e2, q2, if_false, false_and]
              rfl
set_option maxHeartbeats 4000000 in
theorem fn_atGo {E : Prog} (hE : Std E fns) (s : ByteArray) (i : Nat) (h : i < s.size) (hs : s.size < 4611686018427387904) :
    callP E f_usufructref02_At [vs s, vi i] = some (.tup [.v (.int .i32 (atGo s i).1), vi (atGo s i).2]) := by
  have hb := byteAt_nat h
  have x256 : (s.get! i).toNat < 256 := UInt8.toNat_lt _
  have loop := fun (n : Nat) (least : Int) (h1 : i + n ≤ s.size) (h2 : n ≤ 4) => at_loop s i n least h1 h2 (by omega) (loopL_eq (IR.runL E.glob (callL E) [] ir_usufructref02_At_L0) (compact [] 0 [0, 1, 7, 8, 9, 10]))
  rw [hE.run rfl rfl]
  unfold atGo
  generalize hx : (s.get! i).toNat = x at *
  have w0 : IntKind.i32.wrap (x : Int) = x := i32_in (by omega)
  by_cases c0 : x < 128
  · have c0' : (x : Int) < 128 := by omega
    simp -implicitDefEqProofs only [go_sem, ir_usufructref02_At, hb, c0, c0', w0]
  · have c0' : ¬ (x : Int) < 128 := by omega
    by_cases c1 : 194 ≤ x ∧ x ≤ 223
    · have a1 : (194 : Int) ≤ x := by omega
      have a2 : (x : Int) ≤ 223 := by omega
      have a3 : ¬ (224 : Int) ≤ x := by omega
      have a4 : ¬ (240 : Int) ≤ x := by omega
      have w1 : IntKind.i32.wrap ((x : Int) - 192) = (x : Int) - 192 := i32_in (by omega)
      have w2 : IntKind.i64.wrap ((i : Int) + 2) = (i : Int) + 2 := IntWalk.i64_in _ (by omega)
      by_cases d : i + 2 > s.size
      · have d1 : (s.size : Int) < (i : Int) + 2 := by omega
        simp -implicitDefEqProofs only [go_sem, ir_usufructref02_At, hb, c0, c0', w0, c1, a1, a2, a3, a4, w1, w2, d1, show s.size < i + 2 from d]
      · have d1 : ¬ (s.size : Int) < (i : Int) + 2 := by omega
        have l := loop 2 128 (by omega) (by omega) 1 1 ((x : Int) - 192) rfl (by omega) (by omega) (by simp only [Int.reducePow, Nat.reduceSub]; omega)
        simp only [show ((2 : Nat) : Int) = 2 from rfl, show ((3 : Nat) : Int) = 3 from rfl, show ((4 : Nat) : Int) = 4 from rfl, show ((1 : Nat) : Int) = 1 from rfl] at l
        simp -implicitDefEqProofs only [go_sem, ir_usufructref02_At, hb, c0, c0', w0, c1, a1, a2, a3, a4, w1, w2, d1, show ¬ s.size < i + 2 from d, l]
        cases contS s (i + 1) 1 ((x : Int) - 192) with
        | none => simp -implicitDefEqProofs only [go_sem]
        | some v =>
          by_cases q1 : v < 128 <;> by_cases q2 : 1114111 < v <;> by_cases q3 : 55296 ≤ v <;> by_cases q4 : v ≤ 57343 <;> simp -implicitDefEqProofs only [go_sem, q1, q2, q3, q4]
    · by_cases c2 : 224 ≤ x ∧ x ≤ 239
      · have a1 : (194 : Int) ≤ x := by omega
        have a2 : ¬ (x : Int) ≤ 223 := by omega
        have a3 : (224 : Int) ≤ x := by omega
        have a3' : (x : Int) ≤ 239 := by omega
        have a4 : ¬ (240 : Int) ≤ x := by omega
        have w1 : IntKind.i32.wrap ((x : Int) - 224) = (x : Int) - 224 := i32_in (by omega)
        have w2 : IntKind.i64.wrap ((i : Int) + 3) = (i : Int) + 3 := IntWalk.i64_in _ (by omega)
        by_cases d : i + 3 > s.size
        · have d1 : (s.size : Int) < (i : Int) + 3 := by omega
          simp -implicitDefEqProofs only [go_sem, ir_usufructref02_At, hb, c0, c0', w0, c1, c2, a1, a2, a3, a3', a4, w1, w2, d1, show s.size < i + 3 from d]
        · have d1 : ¬ (s.size : Int) < (i : Int) + 3 := by omega
          have l := loop 3 2048 (by omega) (by omega) 2 1 ((x : Int) - 224) rfl (by omega) (by omega) (by simp only [Int.reducePow, Nat.reduceSub]; omega)
          simp only [show ((2 : Nat) : Int) = 2 from rfl, show ((3 : Nat) : Int) = 3 from rfl, show ((4 : Nat) : Int) = 4 from rfl, show ((1 : Nat) : Int) = 1 from rfl] at l
          simp -implicitDefEqProofs only [go_sem, ir_usufructref02_At, hb, c0, c0', w0, c1, c2, a1, a2, a3, a3', a4, w1, w2, d1, show ¬ s.size < i + 3 from d, l]
          cases contS s (i + 1) 2 ((x : Int) - 224) with
          | none => simp -implicitDefEqProofs only [go_sem]
          | some v =>
            by_cases q1 : v < 2048 <;> by_cases q2 : 1114111 < v <;> by_cases q3 : 55296 ≤ v <;> by_cases q4 : v ≤ 57343 <;> simp -implicitDefEqProofs only [go_sem, q1, q2, q3, q4]
      · by_cases c3 : 240 ≤ x ∧ x ≤ 244
        · have a1 : (194 : Int) ≤ x := by omega
          have a2 : ¬ (x : Int) ≤ 223 := by omega
          have a3 : (224 : Int) ≤ x := by omega
          have a3' : ¬ (x : Int) ≤ 239 := by omega
          have a4 : (240 : Int) ≤ x := by omega
          have a4' : (x : Int) ≤ 244 := by omega
          have w1 : IntKind.i32.wrap ((x : Int) - 240) = (x : Int) - 240 := i32_in (by omega)
          have w2 : IntKind.i64.wrap ((i : Int) + 4) = (i : Int) + 4 := IntWalk.i64_in _ (by omega)
          by_cases d : i + 4 > s.size
          · have d1 : (s.size : Int) < (i : Int) + 4 := by omega
            simp -implicitDefEqProofs only [go_sem, ir_usufructref02_At, hb, c0, c0', w0, c1, c2, c3, a1, a2, a3, a3', a4, a4', w1, w2, d1, show s.size < i + 4 from d]
          · have d1 : ¬ (s.size : Int) < (i : Int) + 4 := by omega
            have l := loop 4 65536 (by omega) (by omega) 3 1 ((x : Int) - 240) rfl (by omega) (by omega) (by simp only [Int.reducePow, Nat.reduceSub]; omega)
            simp only [show ((2 : Nat) : Int) = 2 from rfl, show ((3 : Nat) : Int) = 3 from rfl, show ((4 : Nat) : Int) = 4 from rfl, show ((1 : Nat) : Int) = 1 from rfl] at l
            simp -implicitDefEqProofs only [go_sem, ir_usufructref02_At, hb, c0, c0', w0, c1, c2, c3, a1, a2, a3, a3', a4, a4', w1, w2, d1, show ¬ s.size < i + 4 from d, l]
            cases contS s (i + 1) 3 ((x : Int) - 240) with
            | none => simp -implicitDefEqProofs only [go_sem]
            | some v =>
              by_cases q1 : v < 65536 <;> by_cases q2 : 1114111 < v <;> by_cases q3 : 55296 ≤ v <;> by_cases q4 : v ≤ 57343 <;> simp -implicitDefEqProofs only [go_sem, q1, q2, q3, q4]
        · simp only [c0, c1, c2, c3, if_false]
          rcases Nat.lt_or_ge x 194 with a | a
          · have a1 : ¬ (194 : Int) ≤ x := by omega
            have a3 : ¬ (224 : Int) ≤ x := by omega
            have a4 : ¬ (240 : Int) ≤ x := by omega
            simp -implicitDefEqProofs only [go_sem, ir_usufructref02_At, hb, c0', w0, a1, a3, a4]
          · have a1 : (194 : Int) ≤ x := by omega
            have a2 : ¬ (x : Int) ≤ 223 := by omega
            have a3 : (224 : Int) ≤ x := by omega
            have a3' : ¬ (x : Int) ≤ 239 := by omega
            have a4 : (240 : Int) ≤ x := by omega
            have a4' : ¬ (x : Int) ≤ 244 := by omega
            simp -implicitDefEqProofs only [go_sem, ir_usufructref02_At, hb, c0', w0, a1, a2, a3, a3', a4, a4']
theorem fn_at {E : Prog} (hE : Std E fns) (s : ByteArray) (i : Nat) (h : i < s.size) (hs : s.size < 4611686018427387904) :
    callP E f_usufructref02_At [vs s, vi i] = some (.tup [.v (.int .i32 (atS s i).1), vi (atS s i).2]) := by
  rw [fn_atGo hE s i h hs, atGo_eq s i h]
theorem atS_bad {s : ByteArray} {i : Nat} (h : Utf8.decode s i = (65533, 1)) : atS s i = (0, 0) := by unfold atS; rw [if_pos h]
theorem atS_ok {s : ByteArray} {i : Nat} (h : ¬ Utf8.decode s i = (65533, 1)) : atS s i = (((Utf8.decode s i).1 : Int), ((Utf8.decode s i).2 : Int)) := by unfold atS; rw [if_neg h]
theorem width_le (s : ByteArray) (i : Nat) (h : i < s.size) : i + (Utf8.decode s i).2 ≤ s.size := by
  have h1 : s.data.toList.drop i ≠ [] := by
    intro e
    have := congrArg List.length e
    simp at this
    have : s.data.size = s.size := rfl
    omega
  have h2 := Lib.decodeL_le _ h1
  rw [Lib.decodeL_drop] at h2
  simp at h2
  have : s.data.size = s.size := rfl
  omega
theorem runesRef_loop {E : Prog} (hE : Std E fns) {L : Env × Store → Option (Sig × Env × Store)} (s : ByteArray) (hs : s.size < 4611686018427387904)
    (hL : ∀ e st, L (e, st) = (IR.runL E.glob (callL E) [] ir_usufructref02_Runes_L0 e st).bind (seqK fun e st => L (compact [] 0 [0, 3, 4] e st))) :
    ∀ (f pp n : Nat), s.size - pp ≤ f → n + f < 4611686018427387904 → pp ≤ s.size →
    L ([(0, vs s), (3, vi n), (4, vi pp)], []) = some (.exit 0, [(3, vi (n + Lib.runeCountFrom s f pp : Nat))], [])
  | 0, pp, n, h, hn, hp => by
    have hp : ¬ (pp : Int) < (s.size : Int) := by omega
    rw [hL]
    simp -implicitDefEqProofs only [go_sem, ir_usufructref02_Runes_L0, hp, Lib.runeCountFrom]
  | f + 1, pp, n, h, hn, hps => by
    by_cases hp : pp < s.size
    · have hw := Lib.decode_width_pos s pp hp
      have hwl := width_le s pp hp
      have ih := runesRef_loop hE s hs hL f (pp + (Utf8.decode s pp).2) (n + 1) (by omega) (by omega) hwl
      have h6 := wrap_succ (i := n) (by omega)
      have hp' : (pp : Int) < (s.size : Int) := by omega
      have ha := fn_at hE s pp hp (by omega)
      have en : n + (1 + Lib.runeCountFrom s f (pp + (Utf8.decode s pp).2)) = n + 1 + Lib.runeCountFrom s f (pp + (Utf8.decode s pp).2) := by omega
      rw [hL]
      by_cases c : Utf8.decode s pp = (65533, 1)
      · rw [atS_bad c] at ha
        have h7 := wrap_succ (i := pp) (by omega)
        have e2 : (Utf8.decode s pp).2 = 1 := by rw [c]
        rw [e2] at ih en
        simp -implicitDefEqProofs only [go_sem, ir_usufructref02_Runes_L0, hp', ha, h6, h7, ih, Lib.runeCountFrom, hp, e2, en]
      · rw [atS_ok c] at ha
        have h7 : IntKind.i64.wrap ((pp : Int) + ((Utf8.decode s pp).2 : Int)) = ((pp + (Utf8.decode s pp).2 : Nat) : Int) := by rw [IntWalk.i64_in _ (by omega)]; omega
        have e0 : ¬ ((Utf8.decode s pp).2 : Int) = 0 := by omega
        simp -implicitDefEqProofs only [go_sem, ir_usufructref02_Runes_L0, hp', ha, h6, h7, ih, Lib.runeCountFrom, hp, e0, en]
    · have hp' : ¬ (pp : Int) < (s.size : Int) := by omega
      rw [hL]
      simp -implicitDefEqProofs only [go_sem, ir_usufructref02_Runes_L0, hp', Lib.runeCountFrom, hp]
theorem fn_runesRef {E : Prog} (hE : Std E fns) (s : ByteArray) (hs : s.size < 2305843009213693952) : callP E f_usufructref02_Runes [vs s] = some (vi (Lib.runeCount s)) := by
  have h := runesRef_loop hE s (by omega) (loopL_eq (IR.runL E.glob (callL E) [] ir_usufructref02_Runes_L0) (compact [] 0 [0, 3, 4])) s.size 0 0 (by omega) (by omega) (by omega)
  simp only [Int.natCast_zero, Nat.zero_add] at h
  rw [hE.run rfl rfl]
  simp -implicitDefEqProofs only [go_sem, ir_usufructref02_Runes, h, Lib.runeCount]
def goodF (s : ByteArray) : Nat → Nat → Bool
  | 0, _ => true
  | n + 1, i => if i < s.size then decide (Utf8.decode s i ≠ (65533, 1)) && (mayS (Utf8.decode s i).1 && (decide (i ≠ 0) || letterS (Utf8.decode s i).1)) && goodF s n (i + (Utf8.decode s i).2) else true
theorem goodRef_loop {E : Prog} (hE : Std E fns) {L : Env × Store → Option (Sig × Env × Store)} (s : ByteArray) (hs : s.size < 4611686018427387904)
    (hL : ∀ e st, L (e, st) = (IR.runL E.glob (callL E) [] ir_usufructref02_Good_L0 e st).bind (seqK fun e st => L (compact [] 0 [0, 3] e st))) :
    ∀ (f pp : Nat), s.size - pp ≤ f → pp ≤ s.size → L ([(0, vs s), (3, vi pp)], []) = if goodF s f pp = true then some (.exit 0, [(0, vs s)], []) else some (.ret, [(2, vb false)], [])
  | 0, pp, h, hps => by
    have hp : ¬ (pp : Int) < (s.size : Int) := by omega
    rw [hL]
    simp -implicitDefEqProofs only [go_sem, ir_usufructref02_Good_L0, hp, goodF]
  | f + 1, pp, h, hps => by
    by_cases hp : pp < s.size
    · have hw := Lib.decode_width_pos s pp hp
      have hwl := width_le s pp hp
      have ih := goodRef_loop hE s hs hL f (pp + (Utf8.decode s pp).2) (by omega) hwl
      have hp' : (pp : Int) < (s.size : Int) := by omega
      have ha := fn_at hE s pp hp (by omega)
      have e0 : ((pp : Int) = 0) = (pp = 0) := by simp
      rw [hL]
      by_cases c : Utf8.decode s pp = (65533, 1)
      · rw [atS_bad c] at ha
        simp -implicitDefEqProofs only [go_sem, ir_usufructref02_Good_L0, hp', ha, goodF, hp, c]
      · rw [atS_ok c] at ha
        have h7 : IntKind.i64.wrap ((pp : Int) + ((Utf8.decode s pp).2 : Int)) = ((pp + (Utf8.decode s pp).2 : Nat) : Int) := by rw [IntWalk.i64_in _ (by omega)]; omega
        have e1 : ¬ ((Utf8.decode s pp).2 : Int) = 0 := by omega
        simp -implicitDefEqProofs only [go_sem, ir_usufructref02_Good_L0, hp', ha, h7, ih, goodF, hp, e0, e1, fn_mayRef hE, fn_letterRef hE, c]
        cases c1 : mayS (Utf8.decode s pp).1
        · simp [c1]
        · by_cases c2 : pp = 0
          · subst c2
            cases c3 : letterS (Utf8.decode s 0).1 <;> simp [c3, c1]
          · simp [c1, c2]
    · have hp' : ¬ (pp : Int) < (s.size : Int) := by omega
      rw [hL]
      simp -implicitDefEqProofs only [go_sem, ir_usufructref02_Good_L0, hp', goodF, hp]
def refGood (s : ByteArray) : Bool := goodF s s.size 0 && decide (s ≠ ⟨#[]⟩) && decide (Lib.runeCount s ≤ 64)
theorem fn_refGood' {E : Prog} (hE : Std E fns) (s : ByteArray) (hs : s.size < 2305843009213693952) : callP E f_usufructref02_Good [vs s] = some (vb (refGood s)) := by
  have h := goodRef_loop hE s (by omega) (loopL_eq (IR.runL E.glob (callL E) [] ir_usufructref02_Good_L0) (compact [] 0 [0, 3])) s.size 0 (by omega) (by omega)
  simp only [Int.natCast_zero] at h
  have h3 := fn_runesRef hE s hs
  have e1 : ((Lib.runeCount s : Int) ≤ (64 : Int)) = (Lib.runeCount s ≤ 64) := by simp; omega
  rw [hE.run rfl rfl]
  cases c : goodF s s.size 0
  · simp only [c, Bool.false_eq_true, if_false] at h
    simp -implicitDefEqProofs only [go_sem, ir_usufructref02_Good, h, refGood, c]
  · simp only [c, if_true] at h
    simp -implicitDefEqProofs only [go_sem, ir_usufructref02_Good, h, h3, refGood, c, e1]
    by_cases c1 : s = ⟨#[]⟩
    · simp [c1]
    · by_cases c2 : Lib.runeCount s ≤ 64 <;> simp [c1, c2]
theorem goodF_eq (s : ByteArray) : ∀ f pp, goodF s f pp = (validF s f pp && mayF s f pp)
  | 0, _ => rfl
  | f + 1, pp => by
    unfold goodF validF mayF
    split
    · rw [goodF_eq s f]
      cases decide (Utf8.decode s pp ≠ (65533, 1)) <;> cases validF s f (pp + (Utf8.decode s pp).2) <;> simp
    · rfl
theorem validF_eq (s : ByteArray) : ∀ f pp, s.size - pp ≤ f → validF s f pp = Lib.validD (s.data.toList.drop pp)
  | 0, pp, h => by
    have : s.data.toList.drop pp = [] := List.drop_of_length_le (by simp; have : s.data.size = s.size := rfl; omega)
    rw [this]; rfl
  | f + 1, pp, h => by
    unfold validF
    by_cases hp : pp < s.size
    · have hne : s.data.toList.drop pp ≠ [] := by
        intro e
        have := congrArg List.length e
        simp at this
        have : s.data.size = s.size := rfl
        omega
      have hw := Lib.decode_width_pos s pp hp
      rw [if_pos hp, Lib.validD_step _ hne, Lib.decodeL_drop, validF_eq s f _ (by omega), List.drop_drop]
      by_cases c : Utf8.decode s pp = (65533, 1)
      · rw [c]; simp
      · have : ¬ ((Utf8.decode s pp).1 = 65533 ∧ (Utf8.decode s pp).2 = 1) := fun q => c (Prod.ext q.1 q.2)
        rw [if_neg this]
        simp [c]
    · rw [if_neg hp]
      have : s.data.toList.drop pp = [] := List.drop_of_length_le (by simp; have : s.data.size = s.size := rfl; omega)
      rw [this]; rfl
theorem refGood_eq (s : ByteArray) : refGood s = labelGood s := by
  unfold refGood labelGood
  rw [goodF_eq, validF_eq s s.size 0 (by omega), List.drop_zero]
  cases Lib.validD s.data.toList <;> cases mayF s s.size 0 <;> simp
theorem fn_refGood {E : Prog} (hE : Std E fns) (s : ByteArray) (hs : s.size < 2305843009213693952) : callP E f_usufructref02_Good [vs s] = some (vb (labelGood s)) := by
  rw [fn_refGood' hE s hs, refGood_eq]
end Go.Proofs.YtoobogpbejdocaaDoor.Ev
