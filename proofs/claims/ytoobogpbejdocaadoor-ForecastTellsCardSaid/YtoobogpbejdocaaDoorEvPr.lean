import Derived.Test.YtoobogpbejdocaaDoorEvLib
import Derived.Test.YtoobogpbejdocaaDoorShelf
set_option linter.unusedVariables false
set_option linter.unusedSectionVars false
set_option linter.unusedSimpArgs false
namespace Go.Proofs.YtoobogpbejdocaaDoor.Ev
open Go.RowKit Go.Proofs
def POK (P : Program) (G : Nat → Option (List AV)) (f : Nat) (p : List AV → Store → Option (AV × Store)) : Prop :=
  ∀ (xs : List AV) (C : Ctx) (r : AV) (st' : Store) (cargs : List Value), p xs C.st = some (r, st') → C.OK → GlobR C G → VRt C xs cargs → CallsF P f cargs C.w (Rets C r st')
def PKeep (p : List AV → Store → Option (AV × Store)) : Prop := ∀ xs st r st', p xs st = some (r, st') → st' = st
def pValid (xs : List AV) (st : Store) : Option (AV × Store) :=
  match xs with
  | [.v (.string s)] => if s.size ≤ 9223372036854775807 then some (.v (.bool (Lib.validD s.data.toList)), st) else none
  | _ => none
theorem keep_valid : PKeep pValid := by
  intro xs st r st' h
  unfold pValid at h
  split at h
  · split at h
    · cases h; rfl
    · cases h
  · cases h
def tabFirst : List Value := (List.range 256).map fun c => .int .u8 (Lib.firstT c)
def tabAcc : List Value := (List.range 32).map fun j => .int .u8 (if j % 2 = 0 then Lib.accLo (j / 2) else Lib.accHi (j / 2))
theorem ok_valid {G : Nat → Option (List AV)} (h0 : G 0 = some (tabFirst.map AV.v)) (h1 : G 1 = some (tabAcc.map AV.v)) : POK Tryd.prog G 56 pValid := by
  intro xs C r st' cargs h hO hg hv
  unfold pValid at h
  split at h
  · rename_i s
    split at h
    · rename_i hb
      cases h
      simp only [VRt] at hv
      obtain ⟨c, l, rfl, hc, rfl⟩ := hv
      have := VR_plain hc
      subst this
      have hT : Lib.Utf8Tabs 0 1 C.w := by
        refine ⟨fun c hc => glob_cell hg h0 (by simp [tabFirst, hc]), fun i hi => ⟨glob_cell hg h1 ?_, glob_cell hg h1 ?_⟩⟩
        · simp [tabAcc, show 2 * i < 32 by omega]
        · simp [tabAcc, show 2 * i + 1 < 32 by omega, show (2 * i + 1) % 2 = 1 by omega, show (2 * i + 1) / 2 = i by omega]
      exact calls_plain rfl hO Tryd.call56 (Tryd.utf8_ValidString s C.w hb hT)
    · cases h
  · cases h
end Go.Proofs.YtoobogpbejdocaaDoor.Ev
