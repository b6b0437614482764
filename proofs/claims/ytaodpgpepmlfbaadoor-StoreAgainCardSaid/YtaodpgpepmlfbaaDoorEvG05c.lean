/-
  Chapter 05: the law StoreAgain.
-/
import Derived.Test.YtaodpgpepmlfbaaDoorEvG05b
import Derived.Test.YtaodpgpepmlfbaaDoorEvSt13
set_option linter.unusedVariables false
set_option linter.unusedSimpArgs false
set_option maxRecDepth 100000
namespace Go.Proofs.YtaodpgpepmlfbaaDoor.Ev
open Go.RowKit Go.Proofs Go.ChangeShapes Go.WideShapes
theorem arg_ins {a : AV} (h : ArgOf Tryd.prog 30 a) : ∃ x : Sl Int, a = x.av 1 inC := by
  unfold ArgOf at h
  rw [Tryd.underlying30] at h
  obtain ⟨s, h1, _, _⟩ := reads_slice (f := inC) (ok := fun _ => True) Tryd.underlying30 cells3 (fun c hc => open_in hc) h
  cases h1
  exact ⟨s, rfl⟩
theorem law_storeAgain (avs : List AV) (h : ArgsOf Tryd.prog [34, 30, 30] avs) : callP E05 f_usufructlaw05_StoreAgain avs = some (.v (.bool true)) := by
  simp only [ArgsOf] at h
  obtain ⟨a, _, rfl, ha, b, _, rfl, hb, c, _, rfl, hc, rfl⟩ := h
  obtain ⟨x, rfl, hx, _⟩ := arg_acts ha
  obtain ⟨y, rfl⟩ := arg_ins hb
  obtain ⟨z, rfl⟩ := arg_ins hc
  exact fn_StoreAgain std05 vok05 sok05 awake05P x y z (by omega)
end Go.Proofs.YtaodpgpepmlfbaaDoor.Ev
