/- Whatever is done, the bytes of the files fit, their names rise and are names, and what a crash leaves is no more than there was: for all capacities and all rows of at most 40 short acts. -/
import Derived.Test.YtaodpgpepmlfbaaDoorEvG05b
set_option linter.unusedVariables false
set_option linter.unusedSimpArgs false
namespace Go.Proofs.YtaodpgpepmlfbaaDoor.storeBounds
open Go.ChangeShapes Go.WideShapes Go.ChangeAt Go.RowKit Go.Proofs.YtaodpgpepmlfbaaDoor.Ev
theorem own : ownKnob Tryd.prog.godebug = none := by kernel_rfl
set_option maxRecDepth 100000 in
theorem lifted (os : Os) (started : os.Started) (H : Type) (enc : TypeId × Value → H) :
    ReturnsInHanded {} Tryd.checked os 5 .any (fun w args => (Rows.storeBoundsSpec.pre enc Tryd.prog Tryd.f5 Rows.storeBoundsRow.domain false w args ∧ laidMetH Tryd.prog Rows.storeBoundsRow.laid w) ∧ sizedMet enc Tryd.prog Tryd.f5 (OpenSpec.ofChange Rows.storeBoundsSpec) false w args)
      (Rows.storeBoundsSpec.post enc Tryd.prog Tryd.f5 false true false false) := by
  refine law_lifted (tb := 4) (by kernel_rfl) own started (by kernel_rfl) Tryd.func5
    (ChangeSpec.witness_shaped (enc := enc) (C := Tryd.checked) (os := os) (X := fun w _ => laidMetH Tryd.prog Rows.storeBoundsRow.laid w) false (World.laidAll Tryd.prog os Rows.storeBoundsRow.laid) #[(.int .u16 0), (.slice none 0 0)] 8 (World.laidAll_os _ _ _)
      (World.shaped_of_ZipB (by kernel_rfl) (by kernel_rfl)) (by kernel_rfl) (by kernel_rfl) (by kernel_rfl)
      (by rw [MakeChecks.laidMetH_plain _ _ _ (by kernel_rfl)]; exact laidMet_laidAll _ (by kernel_rfl) (by kernel_rfl)))
    (fun ds hd => ?_) rfl rfl Tryd.underlying4 (by kernel_rfl) (by kernel_rfl) ?_
  · match ds, hd with
    | [d1, d2], _ => rfl
  · exact law05 [42, 34] _ law_storeBounds
theorem row_holds : Rows.StoreBoundsSaid :=
  OpenClaim.holds_of_wide 5 Tryd.f5 rfl rfl rfl rfl rfl rfl rfl ⟨rfl, rfl, rfl, rfl, rfl⟩ rfl rfl rfl rfl rfl (by kernel_rfl) Tryd.func5 (by kernel_rfl)
    (of_decide_eq_true (by kernel_rfl)) (by unfold Func.isWrapper; first | (rw [if_pos (by decide +kernel)]; kernel_rfl) | (rw [if_neg (by decide +kernel)]; exact ⟨rfl, rfl⟩))
    (fun os started H enc _ => lifted os started H enc)
theorem proved : Rows.StoreBoundsCardSaid :=
  Claim7.holds_tied_plain_at .later [] [.data, .pinned] true (true, "f8edb72002cca962f23f0effdfc575eb9cadd85543bc3715927b33308d9802ce") false row_holds (fun _ h => by cases h) (by kernel_rfl) (fun _ h => by cases h) storeBounds_row_tie rfl ⟨rfl, rfl⟩ (by kernel_rfl) rfl
    (fun f fn hf hfn => by
      obtain rfl : f = 5 := Option.some.inj ((show Tryd.prog.funcNamed "usufruct/usufructlaw05.StoreBounds" = some 5 by kernel_rfl).symm.trans hf) |>.symm
      obtain rfl : fn = Tryd.f5 := (Option.some.inj (Tryd.func5.symm.trans hfn)).symm
      exact ⟨by kernel_rfl, fun j t ht => by
        rw [Tryd.params5] at ht
        have hm : t ∈ [42, 34] := by simpa using Array.mem_of_getElem? ht
        have hall : ([42, 34].all fun u => !Tryd.prog.wantsStandIn u) = true := by kernel_rfl
        exact (show Tryd.prog.wantsStandIn t = false by simpa using List.all_eq_true.1 hall t hm)⟩)
    (by kernel_rfl)
end Go.Proofs.YtaodpgpepmlfbaaDoor.storeBounds
namespace Go.Proofs.YtaodpgpepmlfbaaDoor
theorem storeBounds_holds : Rows.StoreBoundsCardSaid := storeBounds.proved
#print axioms storeBounds_holds
end Go.Proofs.YtaodpgpepmlfbaaDoor
