/- The lines of any saga, and of all sagas, are as the document says; of a row that is not sound there are none: for all rows of at most 60 events of short names and definitions of at most 40 steps. -/
import Derived.Test.YtoobogpbejdocaaGreatDoorEvG27l
set_option linter.unusedVariables false
set_option linter.unusedSectionVars false
set_option linter.unusedSimpArgs false
namespace Go.Proofs.YtoobogpbejdocaaGreatDoor.historyLines
open Go.ChangeShapes Go.WideShapes Go.ChangeAt Go.RowKit Go.Proofs.YtoobogpbejdocaaGreatDoor.Ev
theorem own : ownKnob Tryz.prog.godebug = none := by kernel_rfl
set_option maxRecDepth 100000 in
theorem lifted (os : Os) (started : os.Started) (H : Type) (enc : TypeId × Value → H) :
    ReturnsInHanded {} Tryz.checked os 3 .any (fun w args => (Rows.historyLinesSpec.pre enc Tryz.prog Tryz.f3 Rows.historyLinesRow.domain false w args ∧ laidMetH Tryz.prog Rows.historyLinesRow.laid w) ∧ sizedMet enc Tryz.prog Tryz.f3 (OpenSpec.ofChange Rows.historyLinesSpec) false w args)
      (Rows.historyLinesSpec.post enc Tryz.prog Tryz.f3 false true false false) := by
  refine law_lifted (tb := 4) (by kernel_rfl) own started (by kernel_rfl) Tryz.func3
    (ChangeSpec.witness_shaped (enc := enc) (C := Tryz.checked) (os := os) (X := fun w _ => laidMetH Tryz.prog Rows.historyLinesRow.laid w) false (World.laidAll Tryz.prog os Rows.historyLinesRow.laid) #[(.slice none 0 0), (.int .i64 0)] 8 (World.laidAll_os _ _ _)
      (World.shaped_of_ZipB (by kernel_rfl) (by kernel_rfl)) (by kernel_rfl) (by kernel_rfl) (by kernel_rfl)
      (by rw [MakeChecks.laidMetH_plain _ _ _ (by kernel_rfl)]; exact laidMet_laidAll _ (by kernel_rfl) (by kernel_rfl)))
    (fun ds hd => ?_) rfl rfl Tryz.underlying4 (by kernel_rfl) (by decide) (by kernel_rfl) ?_
  · match ds, hd with
    | [d1, d2], _ => rfl
  · exact law27 [22, 3] _ law_historyLines
theorem row_holds : Rows.HistoryLinesSaid :=
  OpenClaim.holds_of_wide 3 Tryz.f3 rfl rfl rfl rfl rfl rfl rfl ⟨rfl, rfl, rfl, rfl, rfl⟩ rfl rfl rfl rfl rfl (by kernel_rfl) Tryz.func3 (by kernel_rfl)
    (of_decide_eq_true (by kernel_rfl)) (by unfold Func.isWrapper; first | (rw [if_pos (by decide +kernel)]; kernel_rfl) | (rw [if_neg (by decide +kernel)]; exact ⟨rfl, rfl⟩))
    (fun os started H enc _ => lifted os started H enc)
theorem proved : Rows.HistoryLinesCardSaid :=
  Claim7.holds_tied_plain_at .later [] [.data, .data, .data, .data, .data, .pinned] true (true, "620b247e07f3cc64ee77ba0fb4f381b8ab8c46976999623019318d3cc01f49ab") false row_holds (fun _ h => by cases h) (by kernel_rfl) (fun _ h => by cases h) historyLines_row_tie rfl ⟨rfl, rfl⟩ (by kernel_rfl) rfl
    (fun f fn hf hfn => by
      obtain rfl : f = 3 := Option.some.inj ((show Tryz.prog.funcNamed "usufruct/usufructlaw27.HistoryLines" = some 3 by kernel_rfl).symm.trans hf) |>.symm
      obtain rfl : fn = Tryz.f3 := (Option.some.inj (Tryz.func3.symm.trans hfn)).symm
      exact ⟨by kernel_rfl, fun j t ht => by
        rw [Tryz.params3] at ht
        have hm : t ∈ [22, 3] := by simpa using Array.mem_of_getElem? ht
        have hall : ([22, 3].all fun u => !Tryz.prog.wantsStandIn u) = true := by kernel_rfl
        exact (show Tryz.prog.wantsStandIn t = false by simpa using List.all_eq_true.1 hall t hm)⟩)
    (by kernel_rfl)
end Go.Proofs.YtoobogpbejdocaaGreatDoor.historyLines
namespace Go.Proofs.YtoobogpbejdocaaGreatDoor
theorem historyLines_holds : Rows.HistoryLinesCardSaid := historyLines.proved
#print axioms historyLines_holds
end Go.Proofs.YtoobogpbejdocaaGreatDoor
