/-
  Chapter 21: the law WorldNets.
-/
import Derived.Test.YtbpndomfipdhdaaDoorEvG21
import Derived.Test.YtbpndomfipdhdaaDoorEvWo18
set_option linter.unusedVariables false
set_option linter.unusedSimpArgs false
set_option maxRecDepth 100000
namespace Go.Proofs.YtbpndomfipdhdaaDoor.Ev
open Go.RowKit Go.Proofs Go.ChangeShapes Go.WideShapes
theorem pi21 (m : Int) : (E21 m).prim f_strconv_Itoa_0 = some pItoa := by kernel_rfl
theorem itok21 (m : Int) : ITOK (E21 m) := fun n h0 h1 => by
  unfold callP
  rw [call_prim (pi21 m)]
  simp only [pItoa]
  rw [if_pos ⟨h0, h1⟩]
  rfl
theorem arg_u8 {a : AV} (h : ArgOf Tryd.prog 5 a) : ∃ n, a = .v (.int .u8 n) ∧ 0 ≤ n ∧ n ≤ 255 := by
  unfold ArgOf at h
  rw [Tryd.underlying5] at h
  simp only [Reads, Tryd.underlying5] at h
  obtain ⟨n, h1, h2⟩ := h
  cases h1
  simp only [Lit.wf, Bool.and_eq_true, decide_eq_true_eq] at h2
  have e1 : IntKind.u8.min = 0 := rfl
  have e2 : IntKind.u8.max = 255 := rfl
  rw [e1, e2] at h2
  exact ⟨n, rfl, h2⟩
theorem arg_string {a : AV} (h : ArgOf Tryd.prog 9 a) : ∃ s, a = vs s := by
  unfold ArgOf at h
  rw [Tryd.underlying9] at h
  obtain ⟨n, h1, _⟩ := reads_string Tryd.underlying9 h
  cases h1
  exact ⟨n, rfl⟩
theorem law_worldNets (m : Int) (avs : List AV) (h : ArgsOf Tryd.prog [22, 5, 9] avs) : callP (E21 m) f_usufructlaw21_WorldNets avs = some (.v (.bool true)) := by
  simp only [ArgsOf] at h
  obtain ⟨a, _, rfl, ha, b, _, rfl, hb, c, _, rfl, hc, rfl⟩ := h
  obtain ⟨x, rfl, hx⟩ := arg_acts ha
  obtain ⟨n, rfl, hn⟩ := arg_u8 hb
  obtain ⟨s, rfl⟩ := arg_string hc
  exact fn_WorldNets (wok21 m) (itok21 m) (awake21P m) x (by omega) n hn s
end Go.Proofs.YtbpndomfipdhdaaDoor.Ev
