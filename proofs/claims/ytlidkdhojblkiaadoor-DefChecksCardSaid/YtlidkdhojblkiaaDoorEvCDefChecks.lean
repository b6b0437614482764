/- The law DefChecks of layer 13 holds: whatever the two definitions and the start, the call returns true and the arguments read as they did. Conditions: the listed tables of the library read as the row lists them (tied to the program's text by the card). -/
import Derived.Test.YtlidkdhojblkiaaDoorEvX3
set_option linter.unusedVariables false
set_option linter.unusedSimpArgs false
namespace Go.Proofs.YtlidkdhojblkiaaDoor.defChecks
open Go.ChangeShapes Go.WideShapes Go.ChangeAt Go.RowKit Go.Proofs.YtlidkdhojblkiaaDoor.Ev
theorem own : ownKnob Tryd.prog.godebug = none := by kernel_rfl
set_option maxRecDepth 100000 in
theorem lifted (os : Os) (started : os.Started) (H : Type) (enc : TypeId × Value → H) :
    ReturnsInHanded {} Tryd.checked os 13 .any (fun w args => (Rows.defChecksSpec.pre enc Tryd.prog Tryd.f13 Rows.defChecksRow.domain false w args ∧ laidMetH Tryd.prog Rows.defChecksRow.laid w) ∧ sizedMet enc Tryd.prog Tryd.f13 (OpenSpec.ofChange Rows.defChecksSpec) false w args)
      (Rows.defChecksSpec.post enc Tryd.prog Tryd.f13 false true false false) := by
  refine law_lifted (tb := 4) (by kernel_rfl) own started (by kernel_rfl) Tryd.func13
    (ChangeSpec.witness_shaped (enc := enc) (C := Tryd.checked) (os := os) (X := fun w _ => laidMetH Tryd.prog Rows.defChecksRow.laid w) false (World.laidAll Tryd.prog os Rows.defChecksRow.laid) #[.agg #[(.string ByteArray.empty), (.int .i64 0), (.slice none 0 0)], .agg #[(.string ByteArray.empty), (.int .i64 0), (.slice none 0 0)], (.int .i64 0)] 8 (World.laidAll_os _ _ _)
      (World.shaped_of_ZipB (by kernel_rfl) (by kernel_rfl)) (by kernel_rfl) (by kernel_rfl) (by kernel_rfl)
      (by rw [MakeChecks.laidMetH_plain _ _ _ (by kernel_rfl)]; exact laidMet_laidAll _ (by kernel_rfl) (by kernel_rfl)))
    (fun ds hd => ?_) rfl rfl Tryd.underlying4 (by kernel_rfl) (by kernel_rfl) ?_
  · match ds, hd with
    | [d1, d2, d3], _ => rfl
  · exact law13 [24, 24, 3] f_usufructlaw13_DefChecks law_checks
theorem row_holds : Rows.DefChecksSaid :=
  OpenClaim.holds_of_wide 13 Tryd.f13 rfl rfl rfl rfl rfl rfl rfl ⟨rfl, rfl, rfl, rfl, rfl⟩ rfl rfl rfl rfl rfl (by kernel_rfl) Tryd.func13 (by kernel_rfl)
    (of_decide_eq_true (by kernel_rfl)) (by unfold Func.isWrapper; first | (rw [if_pos (by decide +kernel)]; kernel_rfl) | (rw [if_neg (by decide +kernel)]; exact ⟨rfl, rfl⟩))
    (fun os started H enc _ => lifted os started H enc)
theorem proved : Rows.DefChecksCardSaid :=
  Claim7.holds_tied_plain_at .later [] [.data, .data, .data, .data, .pinned] true (true, "f31442ee83c13e5fdd3788b322781653a102cfdad0650df5c4b23ad7091ceb00") false row_holds (fun _ h => by cases h) (by kernel_rfl) (fun _ h => by cases h) defChecks_row_tie rfl ⟨rfl, rfl⟩ (by kernel_rfl) rfl
    (fun f fn hf hfn => by
      obtain rfl : f = 13 := Option.some.inj ((show Tryd.prog.funcNamed "usufruct/usufructlaw13.DefChecks" = some 13 by kernel_rfl).symm.trans hf) |>.symm
      obtain rfl : fn = Tryd.f13 := (Option.some.inj (Tryd.func13.symm.trans hfn)).symm
      exact ⟨by kernel_rfl, fun j t ht => by
        rw [Tryd.params13] at ht
        have hm : t ∈ [24, 24, 3] := by simpa using Array.mem_of_getElem? ht
        have hall : ([24, 24, 3].all fun u => !Tryd.prog.wantsStandIn u) = true := by kernel_rfl
        exact (show Tryd.prog.wantsStandIn t = false by simpa using List.all_eq_true.1 hall t hm)⟩)
    (by kernel_rfl)
end Go.Proofs.YtlidkdhojblkiaaDoor.defChecks
namespace Go.Proofs.YtlidkdhojblkiaaDoor
theorem defChecks_holds : Rows.DefChecksCardSaid := defChecks.proved
#print axioms defChecks_holds
end Go.Proofs.YtlidkdhojblkiaaDoor
