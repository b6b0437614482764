/- More terms never mean more sagas, and a term and it turned part the sagas: for all sagas and all terms. -/
import Derived.Test.YtgehbkdpodnajaaDoorEvX3
set_option linter.unusedVariables false
set_option linter.unusedSimpArgs false
namespace Go.Proofs.YtgehbkdpodnajaaDoor.pickFewer
open Go.ChangeShapes Go.WideShapes Go.ChangeAt Go.RowKit Go.Proofs.YtgehbkdpodnajaaDoor.Ev
theorem own : ownKnob Tryd.prog.godebug = none := by kernel_rfl
set_option maxRecDepth 100000 in
theorem lifted (os : Os) (started : os.Started) (H : Type) (enc : TypeId × Value → H) :
    ReturnsInHanded {} Tryd.checked os 4 .any (fun w args => (Rows.pickFewerSpec.pre enc Tryd.prog Tryd.f4 Rows.pickFewerRow.domain false w args ∧ laidMetH Tryd.prog Rows.pickFewerRow.laid w) ∧ sizedMet enc Tryd.prog Tryd.f4 (OpenSpec.ofChange Rows.pickFewerSpec) false w args)
      (Rows.pickFewerSpec.post enc Tryd.prog Tryd.f4 false true false false) := by
  refine law_lifted (tb := 4) (by kernel_rfl) own started (by kernel_rfl) Tryd.func4
    (ChangeSpec.witness_shaped (enc := enc) (C := Tryd.checked) (os := os) (X := fun w _ => laidMetH Tryd.prog Rows.pickFewerRow.laid w) false (World.laidAll Tryd.prog os Rows.pickFewerRow.laid) #[(.slice none 0 0), (.slice none 0 0), .agg #[(.bool false), (.string ByteArray.empty), (.int .i64 0), (.int .i64 0), (.string ByteArray.empty)]] 8 (World.laidAll_os _ _ _)
      (World.shaped_of_ZipB (by kernel_rfl) (by kernel_rfl)) (by kernel_rfl) (by kernel_rfl) (by kernel_rfl)
      (by rw [MakeChecks.laidMetH_plain _ _ _ (by kernel_rfl)]; exact laidMet_laidAll _ (by kernel_rfl) (by kernel_rfl)))
    (fun ds hd => ?_) rfl rfl Tryd.underlying4 (by kernel_rfl) (by kernel_rfl) ?_
  · match ds, hd with
    | [d1, d2, d3], _ => rfl
  · exact law36 [31, 28, 23] _ law_pickFewer
theorem row_holds : Rows.PickFewerSaid :=
  OpenClaim.holds_of_wide 4 Tryd.f4 rfl rfl rfl rfl rfl rfl rfl ⟨rfl, rfl, rfl, rfl, rfl⟩ rfl rfl rfl rfl rfl (by kernel_rfl) Tryd.func4 (by kernel_rfl)
    (of_decide_eq_true (by kernel_rfl)) (by unfold Func.isWrapper; first | (rw [if_pos (by decide +kernel)]; kernel_rfl) | (rw [if_neg (by decide +kernel)]; exact ⟨rfl, rfl⟩))
    (fun os started H enc _ => lifted os started H enc)
theorem proved : Rows.PickFewerCardSaid :=
  Claim7.holds_tied_plain_at .later [] [.data, .data, .pinned] true (true, "27ab131ea2f5ffeb9bd90e82e2d4064681050ba560580819af0e8a1fd1825cd4") false row_holds (fun _ h => by cases h) (by kernel_rfl) (fun _ h => by cases h) pickFewer_row_tie rfl ⟨rfl, rfl⟩ (by kernel_rfl) rfl
    (fun f fn hf hfn => by
      obtain rfl : f = 4 := Option.some.inj ((show Tryd.prog.funcNamed "usufruct/usufructlaw36.PickFewer" = some 4 by kernel_rfl).symm.trans hf) |>.symm
      obtain rfl : fn = Tryd.f4 := (Option.some.inj (Tryd.func4.symm.trans hfn)).symm
      exact ⟨by kernel_rfl, fun j t ht => by
        rw [Tryd.params4] at ht
        have hm : t ∈ [31, 28, 23] := by simpa using Array.mem_of_getElem? ht
        have hall : ([31, 28, 23].all fun u => !Tryd.prog.wantsStandIn u) = true := by kernel_rfl
        exact (show Tryd.prog.wantsStandIn t = false by simpa using List.all_eq_true.1 hall t hm)⟩)
    (by kernel_rfl)
end Go.Proofs.YtgehbkdpodnajaaDoor.pickFewer
namespace Go.Proofs.YtgehbkdpodnajaaDoor
theorem pickFewer_holds : Rows.PickFewerCardSaid := pickFewer.proved
#print axioms pickFewer_holds
end Go.Proofs.YtgehbkdpodnajaaDoor
