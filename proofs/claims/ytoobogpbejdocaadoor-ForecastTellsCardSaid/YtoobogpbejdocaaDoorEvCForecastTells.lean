/- The windows of any definition, start and steps that are done, the end of the last one, and what the saga is then, are as the saga itself does it, by the document: for definitions of at most 40 steps and names of at most 100 bytes. -/
import Derived.Test.YtoobogpbejdocaaDoorEvG30
set_option linter.unusedVariables false
set_option linter.unusedSectionVars false
set_option linter.unusedSimpArgs false
namespace Go.Proofs.YtoobogpbejdocaaDoor.forecastTells
open Go.ChangeShapes Go.WideShapes Go.ChangeAt Go.RowKit Go.Proofs.YtoobogpbejdocaaDoor.Ev
theorem own : ownKnob Tryd.prog.godebug = none := by kernel_rfl
set_option maxRecDepth 100000 in
theorem lifted (os : Os) (started : os.Started) (H : Type) (enc : TypeId × Value → H) :
    ReturnsInHanded {} Tryd.checked os 3 .any (fun w args => (Rows.forecastTellsSpec.pre enc Tryd.prog Tryd.f3 Rows.forecastTellsRow.domain false w args ∧ laidMetH Tryd.prog Rows.forecastTellsRow.laid w) ∧ sizedMet enc Tryd.prog Tryd.f3 (OpenSpec.ofChange Rows.forecastTellsSpec) false w args)
      (Rows.forecastTellsSpec.post enc Tryd.prog Tryd.f3 false true false false) := by
  refine law_lifted (tb := 4) (by kernel_rfl) own started (by kernel_rfl) Tryd.func3
    (ChangeSpec.witness_shaped (enc := enc) (C := Tryd.checked) (os := os) (X := fun w _ => laidMetH Tryd.prog Rows.forecastTellsRow.laid w) false (World.laidAll Tryd.prog os Rows.forecastTellsRow.laid) #[.agg #[(.string ByteArray.empty), (.int .i64 0), (.slice none 0 0)], (.int .i64 0), (.int .i64 0)] 8 (World.laidAll_os _ _ _)
      (World.shaped_of_ZipB (by kernel_rfl) (by kernel_rfl)) (by kernel_rfl) (by kernel_rfl) (by kernel_rfl)
      (by rw [MakeChecks.laidMetH_plain _ _ _ (by kernel_rfl)]; exact laidMet_laidAll _ (by kernel_rfl) (by kernel_rfl)))
    (fun ds hd => ?_) rfl rfl Tryd.underlying4 (by kernel_rfl) (by decide) (by kernel_rfl) ?_
  · match ds, hd with
    | [d1, d2, d3], _ => rfl
  · exact law30 [24, 3, 3] _ law_forecastTells
theorem row_holds : Rows.ForecastTellsSaid :=
  OpenClaim.holds_of_wide 3 Tryd.f3 rfl rfl rfl rfl rfl rfl rfl ⟨rfl, rfl, rfl, rfl, rfl⟩ rfl rfl rfl rfl rfl (by kernel_rfl) Tryd.func3 (by kernel_rfl)
    (of_decide_eq_true (by kernel_rfl)) (by unfold Func.isWrapper; first | (rw [if_pos (by decide +kernel)]; kernel_rfl) | (rw [if_neg (by decide +kernel)]; exact ⟨rfl, rfl⟩))
    (fun os started H enc _ => lifted os started H enc)
theorem proved : Rows.ForecastTellsCardSaid :=
  Claim7.holds_tied_plain_at .later [] [.data, .pinned] true (true, "9f92ed7d3d7f85c7fed93764830285d0a056a3a478a154e1de36bed7b45fe8d2") false row_holds (fun _ h => by cases h) (by kernel_rfl) (fun _ h => by cases h) forecastTells_row_tie rfl ⟨rfl, rfl⟩ (by kernel_rfl) rfl
    (fun f fn hf hfn => by
      obtain rfl : f = 3 := Option.some.inj ((show Tryd.prog.funcNamed "usufruct/usufructlaw30.ForecastTells" = some 3 by kernel_rfl).symm.trans hf) |>.symm
      obtain rfl : fn = Tryd.f3 := (Option.some.inj (Tryd.func3.symm.trans hfn)).symm
      exact ⟨by kernel_rfl, fun j t ht => by
        rw [Tryd.params3] at ht
        have hm : t ∈ [24, 3, 3] := by simpa using Array.mem_of_getElem? ht
        have hall : ([24, 3, 3].all fun u => !Tryd.prog.wantsStandIn u) = true := by kernel_rfl
        exact (show Tryd.prog.wantsStandIn t = false by simpa using List.all_eq_true.1 hall t hm)⟩)
    (by kernel_rfl)
end Go.Proofs.YtoobogpbejdocaaDoor.forecastTells
namespace Go.Proofs.YtoobogpbejdocaaDoor
theorem forecastTells_holds : Rows.ForecastTellsCardSaid := forecastTells.proved
#print axioms forecastTells_holds
end Go.Proofs.YtoobogpbejdocaaDoor
