import Derived.Test.YtoobogpbejdocaaDoorEvFn
set_option linter.unusedVariables false
set_option linter.unusedSectionVars false
set_option linter.unusedSimpArgs false
namespace Go.Proofs.YtoobogpbejdocaaDoor.Ev
open Go.RowKit
section
variable {P : Program} {C : Ctx}
theorem calls_plain {f : FuncId} {cargs : List Value} {x : Value} (hx : x.oneCell' = true) (hO : C.OK) (he : ∀ (args : Array Value) (w : World), (callFunc f args).run P w = .ok (.enter f args) w)
    (h : Calls P f cargs.toArray C.w fun e w' => e = .returned x ∧ Below C.w.heap.size C.w w') : CallsF P f cargs C.w (Rets C (.v x) C.st) := by
  refine ⟨he, Calls.mono h ?_⟩
  rintro e w' ⟨rfl, hb⟩
  exact ⟨C.at w', rfl, ext_below hO hb, ok_below hO hb, rfl, VR_v hx⟩
theorem glob_cell {G : Nat → Option (List AV)} (hg : GlobR C G) {g : Nat} {l : List Value} (h : G g = some (l.map AV.v)) {i : Nat} {x : Value} (hi : l[i]? = some x) : C.w.cell? ⟨g, i, none⟩ = some x := by
  have h1 := (hg g _ h).1
  obtain ⟨c, h2, h3, _⟩ := VRat_get h1 i (.v x) (by simp [hi])
  have := VR_plain h3
  subst this
  have h4 := h2.1
  rw [Nat.zero_add, add_plain, Nat.zero_add] at h4
  exact h4
end
end Go.Proofs.YtoobogpbejdocaaDoor.Ev
