/- The lines of any command and reply are as the document says, a right one is read from its line, and what is read of any line is right and has just that line: for all commands, replies and texts. -/
import Derived.Test.YtampinmionpmhaaDoorEvG19
set_option linter.unusedVariables false
set_option linter.unusedSimpArgs false
namespace Go.Proofs.YtampinmionpmhaaDoor.wireLines
open Go.ChangeShapes Go.WideShapes Go.ChangeAt Go.RowKit Go.Proofs.YtampinmionpmhaaDoor.Ev
theorem own : ownKnob Tryd.prog.godebug = none := by kernel_rfl
set_option maxRecDepth 100000 in
theorem lifted (os : Os) (started : os.Started) (H : Type) (enc : TypeId × Value → H) :
    ReturnsInHanded {} Tryd.checked os 3 .any (fun w args => (Rows.wireLinesSpec.pre enc Tryd.prog Tryd.f3 Rows.wireLinesRow.domain false w args ∧ laidMetH Tryd.prog Rows.wireLinesRow.laid w) ∧ sizedMet enc Tryd.prog Tryd.f3 (OpenSpec.ofChange Rows.wireLinesSpec) false w args)
      (Rows.wireLinesSpec.post enc Tryd.prog Tryd.f3 false true false false) := by
  refine law_lifted (tb := 4) (by kernel_rfl) own started (by kernel_rfl) Tryd.func3
    (ChangeSpec.witness_shaped (enc := enc) (C := Tryd.checked) (os := os) (X := fun w _ => laidMetH Tryd.prog Rows.wireLinesRow.laid w) false (World.laidAll Tryd.prog os Rows.wireLinesRow.laid) #[.agg #[(.int .i64 0), (.int .i64 0), (.bool false), (.int .i64 0), (.string ByteArray.empty), (.string ByteArray.empty)], .agg #[(.int .i64 0), (.int .i64 0), (.bool false), (.int .i64 0), (.bool false)], (.string ByteArray.empty), (.bool false)] 8 (World.laidAll_os _ _ _)
      (World.shaped_of_ZipB (by kernel_rfl) (by kernel_rfl)) (by kernel_rfl) (by kernel_rfl) (by kernel_rfl)
      (by rw [MakeChecks.laidMetH_plain _ _ _ (by kernel_rfl)]; exact laidMet_laidAll _ (by kernel_rfl) (by kernel_rfl)))
    (fun ds hd => ?_) rfl rfl Tryd.underlying4 (by kernel_rfl) (by kernel_rfl) ?_
  · match ds, hd with
    | [d1, d2, d3, d4], _ => rfl
  · exact law19 [23, 25, 9, 4] _ law_wireLines
theorem row_holds : Rows.WireLinesSaid :=
  OpenClaim.holds_of_wide 3 Tryd.f3 rfl rfl rfl rfl rfl rfl rfl ⟨rfl, rfl, rfl, rfl, rfl⟩ rfl rfl rfl rfl rfl (by kernel_rfl) Tryd.func3 (by kernel_rfl)
    (of_decide_eq_true (by kernel_rfl)) (by unfold Func.isWrapper; first | (rw [if_pos (by decide +kernel)]; kernel_rfl) | (rw [if_neg (by decide +kernel)]; exact ⟨rfl, rfl⟩))
    (fun os started H enc _ => lifted os started H enc)
theorem proved : Rows.WireLinesCardSaid :=
  Claim7.holds_tied_plain_at .later [] [.data, .data, .data, .data, .sentinel, .sentinel, .pinned] true (true, "8884991df396bc9e1a87c825305660f7fd998e338d9da243a9e7b45fc9aa3a43") true row_holds (fun _ h => by cases h) (by kernel_rfl) (fun _ h => by cases h) wireLines_row_tie rfl ⟨rfl, rfl⟩ (by kernel_rfl) rfl
    (fun f fn hf hfn => by
      obtain rfl : f = 3 := Option.some.inj ((show Tryd.prog.funcNamed "usufruct/usufructlaw19.WireLines" = some 3 by kernel_rfl).symm.trans hf) |>.symm
      obtain rfl : fn = Tryd.f3 := (Option.some.inj (Tryd.func3.symm.trans hfn)).symm
      exact ⟨by kernel_rfl, fun j t ht => by
        rw [Tryd.params3] at ht
        have hm : t ∈ [23, 25, 9, 4] := by simpa using Array.mem_of_getElem? ht
        have hall : ([23, 25, 9, 4].all fun u => !Tryd.prog.wantsStandIn u) = true := by kernel_rfl
        exact (show Tryd.prog.wantsStandIn t = false by simpa using List.all_eq_true.1 hall t hm)⟩)
    (by kernel_rfl)
end Go.Proofs.YtampinmionpmhaaDoor.wireLines
namespace Go.Proofs.YtampinmionpmhaaDoor
theorem wireLines_holds : Rows.WireLinesCardSaid := wireLines.proved
#print axioms wireLines_holds
end Go.Proofs.YtampinmionpmhaaDoor
