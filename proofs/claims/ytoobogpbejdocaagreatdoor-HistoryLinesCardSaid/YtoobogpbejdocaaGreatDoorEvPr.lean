import Derived.Test.YtoobogpbejdocaaGreatDoorEvLib
import Derived.Test.YtoobogpbejdocaaGreatDoorShelf
set_option linter.unusedVariables false
set_option linter.unusedSectionVars false
set_option linter.unusedSimpArgs false
namespace Go.Proofs.YtoobogpbejdocaaGreatDoor.Ev
open Go.RowKit Go.Proofs Go.Sort
def POK (P : Program) (G : Nat → Option (List AV)) (f : Nat) (p : List AV → Store → Option (AV × Store)) : Prop :=
  ∀ (xs : List AV) (C : Ctx) (r : AV) (st' : Store) (cargs : List Value), p xs C.st = some (r, st') → C.OK → GlobR C G → VRt C xs cargs → CallsF P f cargs C.w (Rets C r st')
def PKeep (p : List AV → Store → Option (AV × Store)) : Prop := ∀ xs st r st', p xs st = some (r, st') → st' = st
def pItoa (xs : List AV) (st : Store) : Option (AV × Store) :=
  match xs with
  | [.v (.int .i64 n)] => if -9223372036854775808 ≤ n ∧ n ≤ 9223372036854775807 then some (.v (.string ⟨(Lib.itoa n).toArray⟩), st) else none
  | _ => none
theorem below_grow {B : Nat} {a w : World} (h : Below B a w) (hB : B ≤ w.heap.size) (os : Array Obj) : Below B a (grow w os) :=
  h.trans ⟨rfl, rfl, rfl, by simp [grow], fun k hk => by simp only [grow]; rw [Array.getElem?_append_left (by omega)]⟩
theorem keep_itoa : PKeep pItoa := by
  intro xs st r st' h
  unfold pItoa at h
  split at h
  · split at h
    · cases h; rfl
    · cases h
  · cases h
theorem ok_itoa {G : Nat → Option (List AV)} (h2 : G 3 = some ((Lib.pow10Tab.map fun z => Value.int .u64 z).map AV.v)) : POK Tryz.prog G 39 pItoa := by
  intro xs C r st' cargs h hO hg hv
  unfold pItoa at h
  split at h
  · rename_i n
    split at h
    · rename_i hb
      cases h
      simp only [VRt] at hv
      obtain ⟨c, l, rfl, hc, rfl⟩ := hv
      have := VR_plain hc
      subst this
      obtain ⟨t, fr, hh⟩ := glob_all hg h2
      have htab : Lib.TabIs Tryz.prog C.w "internal/strconv.uint64pow10" .u64 Lib.pow10Tab := by
        have hn : Tryz.prog.globalNamed "internal/strconv.uint64pow10" = some 3 := by kernel_rfl
        simp only [Lib.TabIs, World.var?, hn, Option.bind_some, hh]
      refine calls_plain rfl hO Tryz.call39 ((Tryz.strconv_Itoa n hb.1 hb.2 C.w htab).mono ?_)
      rintro e w' ⟨rfl, k, os, rfl⟩
      exact ⟨rfl, below_grow (⟨rfl, rfl, rfl, Nat.le_refl _, fun _ _ => rfl⟩ : Below C.w.heap.size C.w (C.w.drewN k)) (Nat.le_refl _) os⟩
    · cases h
  · cases h
def pValid (xs : List AV) (st : Store) : Option (AV × Store) :=
  match xs with
  | [.v (.string s)] => if s.size ≤ 9223372036854775807 then some (.v (.bool (Lib.validD s.data.toList)), st) else none
  | _ => none
theorem keep_valid : PKeep pValid := by
  intro xs st r st' h
  unfold pValid at h
  split at h
  · split at h
    · cases h; rfl
    · cases h
  · cases h
def tabFirst : List Value := (List.range 256).map fun c => .int .u8 (Lib.firstT c)
def tabAcc : List Value := (List.range 32).map fun j => .int .u8 (if j % 2 = 0 then Lib.accLo (j / 2) else Lib.accHi (j / 2))
theorem ok_valid {G : Nat → Option (List AV)} (h0 : G 1 = some (tabFirst.map AV.v)) (h1 : G 2 = some (tabAcc.map AV.v)) : POK Tryz.prog G 80 pValid := by
  intro xs C r st' cargs h hO hg hv
  unfold pValid at h
  split at h
  · rename_i s
    split at h
    · rename_i hb
      cases h
      simp only [VRt] at hv
      obtain ⟨c, l, rfl, hc, rfl⟩ := hv
      have := VR_plain hc
      subst this
      have hT : Lib.Utf8Tabs 1 2 C.w := by
        refine ⟨fun c hc => glob_cell hg h0 (by simp [tabFirst, hc]), fun i hi => ⟨glob_cell hg h1 ?_, glob_cell hg h1 ?_⟩⟩
        · simp [tabAcc, show 2 * i < 32 by omega]
        · simp [tabAcc, show 2 * i + 1 < 32 by omega, show (2 * i + 1) % 2 = 1 by omega, show (2 * i + 1) / 2 = i by omega]
      exact calls_plain rfl hO Tryz.call80 (Tryz.utf8_ValidString s C.w hb hT)
    · cases h
  · cases h
end Go.Proofs.YtoobogpbejdocaaGreatDoor.Ev
