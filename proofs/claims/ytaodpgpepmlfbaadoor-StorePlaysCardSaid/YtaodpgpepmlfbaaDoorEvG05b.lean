/-
  Chapter 05: acts as arguments; the law StoreBounds.
-/
import Derived.Test.YtaodpgpepmlfbaaDoorEvG05
import Derived.Test.YtaodpgpepmlfbaaDoorEvSt12
set_option linter.unusedVariables false
set_option linter.unusedSimpArgs false
set_option maxRecDepth 100000
namespace Go.Proofs.YtaodpgpepmlfbaaDoor.Ev
open Go.RowKit Go.Proofs Go.ChangeShapes Go.WideShapes
def actOK (s : ActT) : Prop := I64 s.k ∧ I64 s.n
theorem cells3 : Tryd.prog.cellsOf 3 = 1 := by kernel_rfl
theorem cells38 : Tryd.prog.cellsOf 38 = 5 := by kernel_rfl
theorem open_in {d : Nat} {l : List AV} (h : Reads Tryd.prog (d + 1) 3 l) : ∃ n : Int, l = inC n ∧ True := by
  obtain ⟨n, rfl, _⟩ := reads_int Tryd.underlying3 h
  exact ⟨n, rfl, trivial⟩
theorem open_act {d : Nat} {l : List AV} (h : Reads Tryd.prog (d + 3) 38 l) : ∃ s : ActT, l = s.cells ∧ actOK s := by
  obtain ⟨ls, rfl, hh⟩ := reads_struct Tryd.underlying38 h
  obtain ⟨_, _, rfl, h1, _, _, rfl, h2, _, _, rfl, h3, _, _, rfl, h4, _, _, rfl, h5, rfl⟩ := hh
  obtain ⟨a, rfl, ha⟩ := reads_int Tryd.underlying3 h1
  obtain ⟨b, rfl, hb⟩ := reads_int Tryd.underlying3 h2
  obtain ⟨c, rfl, _⟩ := reads_string Tryd.underlying9 h3
  obtain ⟨x, rfl, _, _⟩ := reads_slice (f := byC) (ok := fun _ => True) Tryd.underlying22 cells5 (fun c hc => open_u8 hc) h4
  obtain ⟨y, rfl, _, _⟩ := reads_slice (f := inC) (ok := fun _ => True) Tryd.underlying30 cells3 (fun c hc => open_in hc) h5
  exact ⟨⟨a, b, c, x, y⟩, rfl, ha, hb⟩
theorem arg_acts {a : AV} (h : ArgOf Tryd.prog 34 a) : ∃ x : Sl ActT, a = acv x ∧ x.list.length < 9223372036854775807 + 1 ∧ ∀ y, y ∈ x.list → actOK y := by
  unfold ArgOf at h
  rw [Tryd.underlying34] at h
  obtain ⟨s, h1, h2, h3⟩ := reads_slice (f := ActT.cells) (ok := actOK) Tryd.underlying34 cells38 (fun c hc => open_act hc) h
  cases h1
  exact ⟨s, rfl, Nat.lt_succ_of_le h2, h3⟩
theorem arg_u16 {a : AV} (h : ArgOf Tryd.prog 42 a) : ∃ n, a = .v (.int .u16 n) ∧ 0 ≤ n ∧ n ≤ 65535 := by
  unfold ArgOf at h
  rw [Tryd.underlying42] at h
  simp only [Reads, Tryd.underlying42] at h
  obtain ⟨n, h1, h2⟩ := h
  cases h1
  simp only [Lit.wf, Bool.and_eq_true, decide_eq_true_eq] at h2
  have e1 : IntKind.u16.min = 0 := rfl
  have e2 : IntKind.u16.max = 65535 := rfl
  rw [e1, e2] at h2
  exact ⟨n, rfl, h2⟩
theorem law_storeBounds (avs : List AV) (h : ArgsOf Tryd.prog [42, 34] avs) : callP E05 f_usufructlaw05_StoreBounds avs = some (.v (.bool true)) := by
  simp only [ArgsOf] at h
  obtain ⟨a, _, rfl, ha, b, _, rfl, hb, rfl⟩ := h
  obtain ⟨x, rfl, hx⟩ := arg_u16 ha
  obtain ⟨y, rfl, hy, _⟩ := arg_acts hb
  exact fn_StoreBounds std05 vok05 sok05 awake05P x hx y (by omega)
end Go.Proofs.YtaodpgpepmlfbaaDoor.Ev
