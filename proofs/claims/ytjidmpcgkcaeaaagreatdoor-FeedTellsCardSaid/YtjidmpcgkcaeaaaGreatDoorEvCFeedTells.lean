/- The changes from any place on, and a page of them, and what is there at the end, are as the document says: for all rows of at most 60 events of short names and definitions of at most 40 steps, all places and sizes. -/
import Derived.Test.YtjidmpcgkcaeaaaGreatDoorEvG33t
set_option linter.unusedVariables false
set_option linter.unusedSimpArgs false
namespace Go.Proofs.YtjidmpcgkcaeaaaGreatDoor.feedTells
open Go.ChangeShapes Go.WideShapes Go.ChangeAt Go.RowKit Go.Proofs.YtjidmpcgkcaeaaaGreatDoor.Ev
theorem own : ownKnob Tryz.prog.godebug = none := by kernel_rfl
set_option maxRecDepth 100000 in
theorem lifted (os : Os) (started : os.Started) (H : Type) (enc : TypeId × Value → H) :
    ReturnsInHanded {} Tryz.checked os 4 .any (fun w args => (Rows.feedTellsSpec.pre enc Tryz.prog Tryz.f4 Rows.feedTellsRow.domain false w args ∧ laidMetH Tryz.prog Rows.feedTellsRow.laid w) ∧ sizedMet enc Tryz.prog Tryz.f4 (OpenSpec.ofChange Rows.feedTellsSpec) false w args)
      (Rows.feedTellsSpec.post enc Tryz.prog Tryz.f4 false true false false) := by
  refine law_lifted (tb := 4) (by kernel_rfl) own started (by kernel_rfl) Tryz.func4
    (ChangeSpec.witness_shaped (enc := enc) (C := Tryz.checked) (os := os) (X := fun w _ => laidMetH Tryz.prog Rows.feedTellsRow.laid w) false (World.laidAll Tryz.prog os Rows.feedTellsRow.laid) #[(.slice none 0 0), (.int .i64 0), (.int .i64 0)] 8 (World.laidAll_os _ _ _)
      (World.shaped_of_ZipB (by kernel_rfl) (by kernel_rfl)) (by kernel_rfl) (by kernel_rfl) (by kernel_rfl)
      (by rw [MakeChecks.laidMetH_plain _ _ _ (by kernel_rfl)]; exact laidMet_laidAll _ (by kernel_rfl) (by kernel_rfl)))
    (fun ds hd => ?_) rfl rfl Tryz.underlying4 (by kernel_rfl) (by kernel_rfl) ?_
  · match ds, hd with
    | [d1, d2, d3], _ => rfl
  · exact law33 [22, 3, 3] _ law_feedTells
theorem row_holds : Rows.FeedTellsSaid :=
  OpenClaim.holds_of_wide 4 Tryz.f4 rfl rfl rfl rfl rfl rfl rfl ⟨rfl, rfl, rfl, rfl, rfl⟩ rfl rfl rfl rfl rfl (by kernel_rfl) Tryz.func4 (by kernel_rfl)
    (of_decide_eq_true (by kernel_rfl)) (by unfold Func.isWrapper; first | (rw [if_pos (by decide +kernel)]; kernel_rfl) | (rw [if_neg (by decide +kernel)]; exact ⟨rfl, rfl⟩))
    (fun os started H enc _ => lifted os started H enc)
theorem proved : Rows.FeedTellsCardSaid :=
  Claim7.holds_tied_plain_at .later [] [.data, .data, .data, .data, .pinned] true (true, "f2b9d8e33904c8488c33f78f1acf59ba29d2c9af2772eb3db103e83fbc12e9be") false row_holds (fun _ h => by cases h) (by kernel_rfl) (fun _ h => by cases h) feedTells_row_tie rfl ⟨rfl, rfl⟩ (by kernel_rfl) rfl
    (fun f fn hf hfn => by
      obtain rfl : f = 4 := Option.some.inj ((show Tryz.prog.funcNamed "usufruct/usufructlaw33.FeedTells" = some 4 by kernel_rfl).symm.trans hf) |>.symm
      obtain rfl : fn = Tryz.f4 := (Option.some.inj (Tryz.func4.symm.trans hfn)).symm
      exact ⟨by kernel_rfl, fun j t ht => by
        rw [Tryz.params4] at ht
        have hm : t ∈ [22, 3, 3] := by simpa using Array.mem_of_getElem? ht
        have hall : ([22, 3, 3].all fun u => !Tryz.prog.wantsStandIn u) = true := by kernel_rfl
        exact (show Tryz.prog.wantsStandIn t = false by simpa using List.all_eq_true.1 hall t hm)⟩)
    (by kernel_rfl)
end Go.Proofs.YtjidmpcgkcaeaaaGreatDoor.feedTells
namespace Go.Proofs.YtjidmpcgkcaeaaaGreatDoor
theorem feedTells_holds : Rows.FeedTellsCardSaid := feedTells.proved
#print axioms feedTells_holds
end Go.Proofs.YtjidmpcgkcaeaaaGreatDoor
