import Derived.Test.YtoobogpbejdocaaDoorEvSa
import Derived.Test.YtoobogpbejdocaaDoorEvFc6
import Derived.Test.YtoobogpbejdocaaDoorEvFcS
set_option linter.unusedVariables false
set_option linter.unusedSectionVars false
set_option linter.unusedSimpArgs false
namespace Go.Proofs.YtoobogpbejdocaaDoor.Ev
attribute [local congr] bind_congr_head
attribute [local go_sem] AV.cells AV.tuple elems boxQ callN_any compact_same compact_new aggOf
theorem fn_mayB {E : Prog} (hE : Std E fns) {d : DefT} (hd : DOK d) {s : SgT} {t : StepT} (h : SOK d s t) {now : Int} (n0 : 0 ≤ now) (n1 : now ≤ 1099511627776) : callP E f_usufructref14_May [dA d, sA s, vi now] = some (vb (mayB d s now)) := by
  unfold mayB
  rw [sok_at h]
  cases ho : overS s with
  | false => rw [fn_smayRef hE d hd s t h ho now n0 n1]; rfl
  | true =>
    have hck := fn_sgcheckRef hE d hd s t h now (by simp [tickGood, n0, n1])
    rw [ckS, if_pos ho] at hck
    rw [hE.run rfl rfl]
    simp -implicitDefEqProofs only [go_sem, ↓reduceIte, ir_usufructref14_May, hck, ro_step]
    try rfl
theorem fn_doB {E : Prog} (hE : Std E fns) {d : DefT} (hd : DOK d) {s : SgT} {t : StepT} (h : SOK d s t) {now : Int} (n0 : 0 ≤ now) (n1 : now ≤ 1099511627776) (k : Nat) (hk : k ≤ 5) :
    ∃ (r : SgT) (e : Int), callP E f_usufructref14_Do [dA d, sA s, vi k, vi now] = some (.tup [sA r, vi e]) ∧ (e = 0 → doS d s now k = r) ∧ (e ≠ 0 → doS d s now k = s) ∧ (k = 0 → s.out = false → e ≠ 0) := by
  refine ⟨_, _, fn_doRef hE d hd s t h now n0 n1 k hk, fun h0 => ?_, fun h0 => ?_, fun h0 h1 => ?_⟩
  · unfold doS
    rw [sok_at h, if_pos h0]
  · unfold doS
    rw [sok_at h, if_neg h0]
  · subst h0
    unfold actS
    split
    · dsimp only; decide
    · have e : actN d t s now 0 = if s.out = true ∧ s.due ≤ now then (failsS t s now, 0) else (s, 9) := rfl
      rw [e, if_neg (fun hh => by rw [h1] at hh; cases hh.1)]
      dsimp only
      decide
def plS (d : DefT) (r s : SgT) (g : Nat) (P : List WnT) : Store := match P with
  | [] => [.box [vs d.name, vi d.deadline, d.steps.av 12 StepT.cells], .box r.cells, .box s.cells]
  | x :: l => [.box [vs d.name, vi d.deadline, d.steps.av 12 StepT.cells], .box r.cells, .box s.cells, .row 5 g ((x :: l).map WnT.cells) false]
def plO (g : Nat) (P : List WnT) : AV := match P with
  | [] => nilS
  | x :: l => .own 3 g 0 (x :: l).length
theorem pl_nil (d : DefT) (r s : SgT) (g : Nat) : plS d r s g [] = [.box [vs d.name, vi d.deadline, d.steps.av 12 StepT.cells], .box r.cells, .box s.cells] ∧ plO g [] = nilS := ⟨rfl, rfl⟩
theorem pl_ne (d : DefT) (r s : SgT) (g : Nat) {P : List WnT} (h : P ≠ []) : plS d r s g P = [.box [vs d.name, vi d.deadline, d.steps.av 12 StepT.cells], .box r.cells, .box s.cells, .row 5 g (P.map WnT.cells) false] ∧ plO g P = .own 3 g 0 P.length := by
  cases P with
  | nil => exact absurd rfl h
  | cons a l => exact ⟨rfl, rfl⟩
def sg0 : SgT := ⟨0, eTx, 0, 0, 0, 0, false, 0, 0⟩
abbrev plE (e : Int) (o : AV) (now turn : Int) : Env := [(3, .ref 0 0 0 0), (7, .ref 1 0 0 0), (8, .ref 2 0 0 0), (9, vi e), (10, o), (11, vi now), (12, vi turn)]
theorem ias_ow2 (st : Store) (k : Nat) (j : Int) (id gen off ln : Nat) : iasF st k j (.own id gen off ln) = if 0 ≤ j then (match st[id]? with
      | some (.row k' g xs _) => if k' = k ∧ g = gen ∧ j.toNat < ln then some (.ref id gen (off + j.toNat) 0) else none
      | _ => none) else none := rfl
theorem lenA_ow2 (st : Store) (id gen off ln : Nat) : lenAV st (.own id gen off ln) = (match st[id]? with
      | some (.row _ g _ _) => if g = gen then some ln else none
      | _ => none) := rfl
theorem set_len (P : List WnT) (z : Int) : (setTo P z).length = P.length := by
  unfold setTo
  split <;> simp
theorem set_map {P : List WnT} (hP : P ≠ []) : ∃ w : WnT, (P.map WnT.cells)[P.length - 1]? = some [vi w.step, vb w.undo, vi w.try_, vi w.fr, vi w.to] ∧ ∀ z, (P.map WnT.cells).set (P.length - 1) [vi w.step, vb w.undo, vi w.try_, vi w.fr, vi z] = (setTo P z).map WnT.cells := by
  have hl : 0 < P.length := List.length_pos_iff.2 hP
  obtain ⟨w, hw⟩ : ∃ w, P[P.length - 1]? = some w := ⟨_, List.getElem?_eq_getElem (by omega)⟩
  refine ⟨w, by rw [List.getElem?_map, hw]; rfl, fun z => ?_⟩
  unfold setTo
  rw [hw, List.map_set]
  rfl
end Go.Proofs.YtoobogpbejdocaaDoor.Ev
