/- Whether any term holds of any saga is as the document says, and of a term and it turned just one holds: for every term and every saga. -/
import Derived.Test.YtgehbkdpodnajaaDoorEvX1
set_option linter.unusedVariables false
set_option linter.unusedSimpArgs false
namespace Go.Proofs.YtgehbkdpodnajaaDoor.pickHolds
open Go.ChangeShapes Go.WideShapes Go.ChangeAt Go.RowKit Go.Proofs.YtgehbkdpodnajaaDoor.Ev
theorem own : ownKnob Tryd.prog.godebug = none := by kernel_rfl
set_option maxRecDepth 100000 in
theorem lifted (os : Os) (started : os.Started) (H : Type) (enc : TypeId × Value → H) :
    ReturnsInHanded {} Tryd.checked os 3 .any (fun w args => (Rows.pickHoldsSpec.pre enc Tryd.prog Tryd.f3 Rows.pickHoldsRow.domain false w args ∧ laidMetH Tryd.prog Rows.pickHoldsRow.laid w) ∧ sizedMet enc Tryd.prog Tryd.f3 (OpenSpec.ofChange Rows.pickHoldsSpec) false w args)
      (Rows.pickHoldsSpec.post enc Tryd.prog Tryd.f3 false true false false) := by
  refine law_lifted (tb := 4) (by kernel_rfl) own started (by kernel_rfl) Tryd.func3
    (ChangeSpec.witness_shaped (enc := enc) (C := Tryd.checked) (os := os) (X := fun w _ => laidMetH Tryd.prog Rows.pickHoldsRow.laid w) false (World.laidAll Tryd.prog os Rows.pickHoldsRow.laid) #[.agg #[(.bool false), (.string ByteArray.empty), (.int .i64 0), (.int .i64 0), (.string ByteArray.empty)], .agg #[(.int .i64 0), (.string ByteArray.empty), (.int .i64 0), (.int .i64 0), (.int .i64 0), (.int .i64 0), (.bool false), (.int .i64 0), (.int .i64 0)]] 8 (World.laidAll_os _ _ _)
      (World.shaped_of_ZipB (by kernel_rfl) (by kernel_rfl)) (by kernel_rfl) (by kernel_rfl) (by kernel_rfl)
      (by rw [MakeChecks.laidMetH_plain _ _ _ (by kernel_rfl)]; exact laidMet_laidAll _ (by kernel_rfl) (by kernel_rfl)))
    (fun ds hd => ?_) rfl rfl Tryd.underlying4 (by kernel_rfl) (by kernel_rfl) ?_
  · match ds, hd with
    | [d1, d2], _ => rfl
  · exact law36 [23, 25] _ law_pickHolds
theorem row_holds : Rows.PickHoldsSaid :=
  OpenClaim.holds_of_wide 3 Tryd.f3 rfl rfl rfl rfl rfl rfl rfl ⟨rfl, rfl, rfl, rfl, rfl⟩ rfl rfl rfl rfl rfl (by kernel_rfl) Tryd.func3 (by kernel_rfl)
    (of_decide_eq_true (by kernel_rfl)) (by unfold Func.isWrapper; first | (rw [if_pos (by decide +kernel)]; kernel_rfl) | (rw [if_neg (by decide +kernel)]; exact ⟨rfl, rfl⟩))
    (fun os started H enc _ => lifted os started H enc)
theorem proved : Rows.PickHoldsCardSaid :=
  Claim7.holds_tied_plain_at .later [] [.data, .data, .pinned] true (true, "27ab131ea2f5ffeb9bd90e82e2d4064681050ba560580819af0e8a1fd1825cd4") false row_holds (fun _ h => by cases h) (by kernel_rfl) (fun _ h => by cases h) pickHolds_row_tie rfl ⟨rfl, rfl⟩ (by kernel_rfl) rfl
    (fun f fn hf hfn => by
      obtain rfl : f = 3 := Option.some.inj ((show Tryd.prog.funcNamed "usufruct/usufructlaw36.PickHolds" = some 3 by kernel_rfl).symm.trans hf) |>.symm
      obtain rfl : fn = Tryd.f3 := (Option.some.inj (Tryd.func3.symm.trans hfn)).symm
      exact ⟨by kernel_rfl, fun j t ht => by
        rw [Tryd.params3] at ht
        have hm : t ∈ [23, 25] := by simpa using Array.mem_of_getElem? ht
        have hall : ([23, 25].all fun u => !Tryd.prog.wantsStandIn u) = true := by kernel_rfl
        exact (show Tryd.prog.wantsStandIn t = false by simpa using List.all_eq_true.1 hall t hm)⟩)
    (by kernel_rfl)
end Go.Proofs.YtgehbkdpodnajaaDoor.pickHolds
namespace Go.Proofs.YtgehbkdpodnajaaDoor
theorem pickHolds_holds : Rows.PickHoldsCardSaid := pickHolds.proved
#print axioms pickHolds_holds
end Go.Proofs.YtgehbkdpodnajaaDoor
