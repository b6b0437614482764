/- Whatever is sent, delivered, doubled and lost: what is on the way, what was done, and what is left of any step, is as the document says; a good reply is of a key that is done: for all rows of at most 40 acts of at most 6 short commands, all numbers, all names of at most 100 bytes. -/
import Derived.Test.YtbpndomfipdhdaaDoorEvG21c
set_option linter.unusedVariables false
set_option linter.unusedSimpArgs false
namespace Go.Proofs.YtbpndomfipdhdaaDoor.worldPlays
open Go.ChangeShapes Go.WideShapes Go.ChangeAt Go.RowKit Go.Proofs.YtbpndomfipdhdaaDoor.Ev
theorem own : ownKnob Tryd.prog.godebug = none := by kernel_rfl
set_option maxRecDepth 100000 in
theorem lifted (os : Os) (started : os.Started) (H : Type) (enc : TypeId × Value → H) :
    ReturnsInHanded {} Tryd.checked os 5 .any (fun w args => (Rows.worldPlaysSpec.pre enc Tryd.prog Tryd.f5 Rows.worldPlaysRow.domain false w args ∧ laidMetH Tryd.prog Rows.worldPlaysRow.laid w) ∧ sizedMet enc Tryd.prog Tryd.f5 (OpenSpec.ofChange Rows.worldPlaysSpec) false w args)
      (Rows.worldPlaysSpec.post enc Tryd.prog Tryd.f5 false true false false) := by
  refine law_lifted (tb := 4) (by kernel_rfl) own started (by kernel_rfl) Tryd.func5
    (ChangeSpec.witness_shaped (enc := enc) (C := Tryd.checked) (os := os) (X := fun w _ => laidMetH Tryd.prog Rows.worldPlaysRow.laid w) false (World.laidAll Tryd.prog os Rows.worldPlaysRow.laid) #[(.slice none 0 0), (.int .i64 0), (.string ByteArray.empty)] 8 (World.laidAll_os _ _ _)
      (World.shaped_of_ZipB (by kernel_rfl) (by kernel_rfl)) (by kernel_rfl) (by kernel_rfl) (by kernel_rfl)
      (by rw [MakeChecks.laidMetH_plain _ _ _ (by kernel_rfl)]; exact laidMet_laidAll _ (by kernel_rfl) (by kernel_rfl)))
    (fun ds hd => ?_) rfl rfl Tryd.underlying4 (by kernel_rfl) (by kernel_rfl) ?_
  · match ds, hd with
    | [d1, d2, d3], _ => rfl
  · exact law21 [22, 3, 9] _ law_worldPlays
theorem row_holds : Rows.WorldPlaysSaid :=
  OpenClaim.holds_of_wide 5 Tryd.f5 rfl rfl rfl rfl rfl rfl rfl ⟨rfl, rfl, rfl, rfl, rfl⟩ rfl rfl rfl rfl rfl (by kernel_rfl) Tryd.func5 (by kernel_rfl)
    (of_decide_eq_true (by kernel_rfl)) (by unfold Func.isWrapper; first | (rw [if_pos (by decide +kernel)]; kernel_rfl) | (rw [if_neg (by decide +kernel)]; exact ⟨rfl, rfl⟩))
    (fun os started H enc _ => lifted os started H enc)
theorem proved : Rows.WorldPlaysCardSaid :=
  Claim7.holds_tied_plain_at .later [] [.data, .data, .data, .data, .pinned] true (true, "1da725ca16f5ab1f4b887d61c9606386726e1379d0f47ae9ba674b3f6c82bb54") false row_holds (fun _ h => by cases h) (by kernel_rfl) (fun _ h => by cases h) worldPlays_row_tie rfl ⟨rfl, rfl⟩ (by kernel_rfl) rfl
    (fun f fn hf hfn => by
      obtain rfl : f = 5 := Option.some.inj ((show Tryd.prog.funcNamed "usufruct/usufructlaw21.WorldPlays" = some 5 by kernel_rfl).symm.trans hf) |>.symm
      obtain rfl : fn = Tryd.f5 := (Option.some.inj (Tryd.func5.symm.trans hfn)).symm
      exact ⟨by kernel_rfl, fun j t ht => by
        rw [Tryd.params5] at ht
        have hm : t ∈ [22, 3, 9] := by simpa using Array.mem_of_getElem? ht
        have hall : ([22, 3, 9].all fun u => !Tryd.prog.wantsStandIn u) = true := by kernel_rfl
        exact (show Tryd.prog.wantsStandIn t = false by simpa using List.all_eq_true.1 hall t hm)⟩)
    (by kernel_rfl)
end Go.Proofs.YtbpndomfipdhdaaDoor.worldPlays
namespace Go.Proofs.YtbpndomfipdhdaaDoor
theorem worldPlays_holds : Rows.WorldPlaysCardSaid := worldPlays.proved
#print axioms worldPlays_holds
end Go.Proofs.YtbpndomfipdhdaaDoor
