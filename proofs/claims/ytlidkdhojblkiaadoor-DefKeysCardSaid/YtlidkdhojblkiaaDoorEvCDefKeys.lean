/- The law DefKeys of layer 13 holds: whatever the definition, the saga, the step, the way and the text, the call returns true and the arguments read as they did. Conditions: the listed tables of the library read as the row says; the arguments are well-formed. -/
import Derived.Test.YtlidkdhojblkiaaDoorEvX4
set_option linter.unusedVariables false
set_option linter.unusedSimpArgs false
namespace Go.Proofs.YtlidkdhojblkiaaDoor.defKeys
open Go.ChangeShapes Go.WideShapes Go.ChangeAt Go.RowKit Go.Proofs.YtlidkdhojblkiaaDoor.Ev
theorem own : ownKnob Tryd.prog.godebug = none := by kernel_rfl
set_option maxRecDepth 100000 in
theorem lifted (os : Os) (started : os.Started) (H : Type) (enc : TypeId × Value → H) :
    ReturnsInHanded {} Tryd.checked os 6 .any (fun w args => (Rows.defKeysSpec.pre enc Tryd.prog Tryd.f6 Rows.defKeysRow.domain false w args ∧ laidMetH Tryd.prog Rows.defKeysRow.laid w) ∧ sizedMet enc Tryd.prog Tryd.f6 (OpenSpec.ofChange Rows.defKeysSpec) false w args)
      (Rows.defKeysSpec.post enc Tryd.prog Tryd.f6 false true false false) := by
  refine law_lifted (tb := 4) (by kernel_rfl) own started (by kernel_rfl) Tryd.func6
    (ChangeSpec.witness_shaped (enc := enc) (C := Tryd.checked) (os := os) (X := fun w _ => laidMetH Tryd.prog Rows.defKeysRow.laid w) false (World.laidAll Tryd.prog os Rows.defKeysRow.laid) #[.agg #[(.string ByteArray.empty), (.int .i64 0), (.slice none 0 0)], (.int .i64 0), (.int .i64 0), (.bool false), (.string ByteArray.empty)] 8 (World.laidAll_os _ _ _)
      (World.shaped_of_ZipB (by kernel_rfl) (by kernel_rfl)) (by kernel_rfl) (by kernel_rfl) (by kernel_rfl)
      (by rw [MakeChecks.laidMetH_plain _ _ _ (by kernel_rfl)]; exact laidMet_laidAll _ (by kernel_rfl) (by kernel_rfl)))
    (fun ds hd => ?_) rfl rfl Tryd.underlying4 (by kernel_rfl) (by kernel_rfl) ?_
  · match ds, hd with
    | [d1, d2, d3, d4, d5], _ => rfl
  · exact law13 [24, 3, 3, 4, 9] f_usufructlaw13_DefKeys law_keys
theorem row_holds : Rows.DefKeysSaid :=
  OpenClaim.holds_of_wide 6 Tryd.f6 rfl rfl rfl rfl rfl rfl rfl ⟨rfl, rfl, rfl, rfl, rfl⟩ rfl rfl rfl rfl rfl (by kernel_rfl) Tryd.func6 (by kernel_rfl)
    (of_decide_eq_true (by kernel_rfl)) (by unfold Func.isWrapper; first | (rw [if_pos (by decide +kernel)]; kernel_rfl) | (rw [if_neg (by decide +kernel)]; exact ⟨rfl, rfl⟩))
    (fun os started H enc _ => lifted os started H enc)
theorem proved : Rows.DefKeysCardSaid :=
  Claim7.holds_tied_plain_at .later [] [.data, .data, .data, .data, .pinned] true (true, "f31442ee83c13e5fdd3788b322781653a102cfdad0650df5c4b23ad7091ceb00") false row_holds (fun _ h => by cases h) (by kernel_rfl) (fun _ h => by cases h) defKeys_row_tie rfl ⟨rfl, rfl⟩ (by kernel_rfl) rfl
    (fun f fn hf hfn => by
      obtain rfl : f = 6 := Option.some.inj ((show Tryd.prog.funcNamed "usufruct/usufructlaw13.DefKeys" = some 6 by kernel_rfl).symm.trans hf) |>.symm
      obtain rfl : fn = Tryd.f6 := (Option.some.inj (Tryd.func6.symm.trans hfn)).symm
      exact ⟨by kernel_rfl, fun j t ht => by
        rw [Tryd.params6] at ht
        have hm : t ∈ [24, 3, 3, 4, 9] := by simpa using Array.mem_of_getElem? ht
        have hall : ([24, 3, 3, 4, 9].all fun u => !Tryd.prog.wantsStandIn u) = true := by kernel_rfl
        exact (show Tryd.prog.wantsStandIn t = false by simpa using List.all_eq_true.1 hall t hm)⟩)
    (by kernel_rfl)
end Go.Proofs.YtlidkdhojblkiaaDoor.defKeys
namespace Go.Proofs.YtlidkdhojblkiaaDoor
theorem defKeys_holds : Rows.DefKeysCardSaid := defKeys.proved
#print axioms defKeys_holds
end Go.Proofs.YtlidkdhojblkiaaDoor
