/- Whatever is done, each answer, and all files, are as the document says: for all capacities and all rows of at most 40 short acts. -/
import Derived.Test.YtaodpgpepmlfbaaDoorEvG05d
set_option linter.unusedVariables false
set_option linter.unusedSimpArgs false
namespace Go.Proofs.YtaodpgpepmlfbaaDoor.storePlays
open Go.ChangeShapes Go.WideShapes Go.ChangeAt Go.RowKit Go.Proofs.YtaodpgpepmlfbaaDoor.Ev
theorem own : ownKnob Tryd.prog.godebug = none := by kernel_rfl
set_option maxRecDepth 100000 in
theorem lifted (os : Os) (started : os.Started) (H : Type) (enc : TypeId × Value → H) :
    ReturnsInHanded {} Tryd.checked os 6 .any (fun w args => (Rows.storePlaysSpec.pre enc Tryd.prog Tryd.f6 Rows.storePlaysRow.domain false w args ∧ laidMetH Tryd.prog Rows.storePlaysRow.laid w) ∧ sizedMet enc Tryd.prog Tryd.f6 (OpenSpec.ofChange Rows.storePlaysSpec) false w args)
      (Rows.storePlaysSpec.post enc Tryd.prog Tryd.f6 false true false false) := by
  refine law_lifted (tb := 4) (by kernel_rfl) own started (by kernel_rfl) Tryd.func6
    (ChangeSpec.witness_shaped (enc := enc) (C := Tryd.checked) (os := os) (X := fun w _ => laidMetH Tryd.prog Rows.storePlaysRow.laid w) false (World.laidAll Tryd.prog os Rows.storePlaysRow.laid) #[(.int .i64 0), (.slice none 0 0)] 8 (World.laidAll_os _ _ _)
      (World.shaped_of_ZipB (by kernel_rfl) (by kernel_rfl)) (by kernel_rfl) (by kernel_rfl) (by kernel_rfl)
      (by rw [MakeChecks.laidMetH_plain _ _ _ (by kernel_rfl)]; exact laidMet_laidAll _ (by kernel_rfl) (by kernel_rfl)))
    (fun ds hd => ?_) rfl rfl Tryd.underlying4 (by kernel_rfl) (by kernel_rfl) ?_
  · match ds, hd with
    | [d1, d2], _ => rfl
  · exact law05 [3, 34] _ law_storePlays
theorem row_holds : Rows.StorePlaysSaid :=
  OpenClaim.holds_of_wide 6 Tryd.f6 rfl rfl rfl rfl rfl rfl rfl ⟨rfl, rfl, rfl, rfl, rfl⟩ rfl rfl rfl rfl rfl (by kernel_rfl) Tryd.func6 (by kernel_rfl)
    (of_decide_eq_true (by kernel_rfl)) (by unfold Func.isWrapper; first | (rw [if_pos (by decide +kernel)]; kernel_rfl) | (rw [if_neg (by decide +kernel)]; exact ⟨rfl, rfl⟩))
    (fun os started H enc _ => lifted os started H enc)
theorem proved : Rows.StorePlaysCardSaid :=
  Claim7.holds_tied_plain_at .later [] [.data, .pinned] true (true, "f8edb72002cca962f23f0effdfc575eb9cadd85543bc3715927b33308d9802ce") false row_holds (fun _ h => by cases h) (by kernel_rfl) (fun _ h => by cases h) storePlays_row_tie rfl ⟨rfl, rfl⟩ (by kernel_rfl) rfl
    (fun f fn hf hfn => by
      obtain rfl : f = 6 := Option.some.inj ((show Tryd.prog.funcNamed "usufruct/usufructlaw05.StorePlays" = some 6 by kernel_rfl).symm.trans hf) |>.symm
      obtain rfl : fn = Tryd.f6 := (Option.some.inj (Tryd.func6.symm.trans hfn)).symm
      exact ⟨by kernel_rfl, fun j t ht => by
        rw [Tryd.params6] at ht
        have hm : t ∈ [3, 34] := by simpa using Array.mem_of_getElem? ht
        have hall : ([3, 34].all fun u => !Tryd.prog.wantsStandIn u) = true := by kernel_rfl
        exact (show Tryd.prog.wantsStandIn t = false by simpa using List.all_eq_true.1 hall t hm)⟩)
    (by kernel_rfl)
end Go.Proofs.YtaodpgpepmlfbaaDoor.storePlays
namespace Go.Proofs.YtaodpgpepmlfbaaDoor
theorem storePlays_holds : Rows.StorePlaysCardSaid := storePlays.proved
#print axioms storePlays_holds
end Go.Proofs.YtaodpgpepmlfbaaDoor
