/- The changes from a place on, and the latest ones alone, lead from what is there then to what is there at the end: for all rows of at most 60 events of short names and definitions of at most 40 steps, all places. -/
import Derived.Test.YtjidmpcgkcaeaaaGreatDoorEvG33l
set_option linter.unusedVariables false
set_option linter.unusedSimpArgs false
namespace Go.Proofs.YtjidmpcgkcaeaaaGreatDoor.feedLeads
open Go.ChangeShapes Go.WideShapes Go.ChangeAt Go.RowKit Go.Proofs.YtjidmpcgkcaeaaaGreatDoor.Ev
theorem own : ownKnob Tryz.prog.godebug = none := by kernel_rfl
set_option maxRecDepth 100000 in
theorem lifted (os : Os) (started : os.Started) (H : Type) (enc : TypeId × Value → H) :
    ReturnsInHanded {} Tryz.checked os 5 .any (fun w args => (Rows.feedLeadsSpec.pre enc Tryz.prog Tryz.f5 Rows.feedLeadsRow.domain false w args ∧ laidMetH Tryz.prog Rows.feedLeadsRow.laid w) ∧ sizedMet enc Tryz.prog Tryz.f5 (OpenSpec.ofChange Rows.feedLeadsSpec) false w args)
      (Rows.feedLeadsSpec.post enc Tryz.prog Tryz.f5 false true false false) := by
  refine law_lifted (tb := 4) (by kernel_rfl) own started (by kernel_rfl) Tryz.func5
    (ChangeSpec.witness_shaped (enc := enc) (C := Tryz.checked) (os := os) (X := fun w _ => laidMetH Tryz.prog Rows.feedLeadsRow.laid w) false (World.laidAll Tryz.prog os Rows.feedLeadsRow.laid) #[(.slice none 0 0), (.int .u8 0)] 8 (World.laidAll_os _ _ _)
      (World.shaped_of_ZipB (by kernel_rfl) (by kernel_rfl)) (by kernel_rfl) (by kernel_rfl) (by kernel_rfl)
      (by rw [MakeChecks.laidMetH_plain _ _ _ (by kernel_rfl)]; exact laidMet_laidAll _ (by kernel_rfl) (by kernel_rfl)))
    (fun ds hd => ?_) rfl rfl Tryz.underlying4 (by kernel_rfl) (by kernel_rfl) ?_
  · match ds, hd with
    | [d1, d2], _ => rfl
  · exact law33 [22, 5] _ law_feedLeads
theorem row_holds : Rows.FeedLeadsSaid :=
  OpenClaim.holds_of_wide 5 Tryz.f5 rfl rfl rfl rfl rfl rfl rfl ⟨rfl, rfl, rfl, rfl, rfl⟩ rfl rfl rfl rfl rfl (by kernel_rfl) Tryz.func5 (by kernel_rfl)
    (of_decide_eq_true (by kernel_rfl)) (by unfold Func.isWrapper; first | (rw [if_pos (by decide +kernel)]; kernel_rfl) | (rw [if_neg (by decide +kernel)]; exact ⟨rfl, rfl⟩))
    (fun os started H enc _ => lifted os started H enc)
theorem proved : Rows.FeedLeadsCardSaid :=
  Claim7.holds_tied_plain_at .later [] [.data, .data, .data, .data, .pinned] true (true, "f2b9d8e33904c8488c33f78f1acf59ba29d2c9af2772eb3db103e83fbc12e9be") false row_holds (fun _ h => by cases h) (by kernel_rfl) (fun _ h => by cases h) feedLeads_row_tie rfl ⟨rfl, rfl⟩ (by kernel_rfl) rfl
    (fun f fn hf hfn => by
      obtain rfl : f = 5 := Option.some.inj ((show Tryz.prog.funcNamed "usufruct/usufructlaw33.FeedLeads" = some 5 by kernel_rfl).symm.trans hf) |>.symm
      obtain rfl : fn = Tryz.f5 := (Option.some.inj (Tryz.func5.symm.trans hfn)).symm
      exact ⟨by kernel_rfl, fun j t ht => by
        rw [Tryz.params5] at ht
        have hm : t ∈ [22, 5] := by simpa using Array.mem_of_getElem? ht
        have hall : ([22, 5].all fun u => !Tryz.prog.wantsStandIn u) = true := by kernel_rfl
        exact (show Tryz.prog.wantsStandIn t = false by simpa using List.all_eq_true.1 hall t hm)⟩)
    (by kernel_rfl)
end Go.Proofs.YtjidmpcgkcaeaaaGreatDoor.feedLeads
namespace Go.Proofs.YtjidmpcgkcaeaaaGreatDoor
theorem feedLeads_holds : Rows.FeedLeadsCardSaid := feedLeads.proved
#print axioms feedLeads_holds
end Go.Proofs.YtjidmpcgkcaeaaaGreatDoor
