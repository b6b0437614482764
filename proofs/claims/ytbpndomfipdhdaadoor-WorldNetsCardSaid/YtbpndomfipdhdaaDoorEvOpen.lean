/-
  What the row hands over, as typed values.
-/
import Derived.Test.YtbpndomfipdhdaaDoorEvRow
import Derived.Test.YtbpndomfipdhdaaDoorEvSl
set_option linter.unusedVariables false
set_option linter.unusedSimpArgs false
namespace Go.Proofs.YtbpndomfipdhdaaDoor.Ev
open Go.RowKit

def ReadsF (P : Program) (d : Nat) : List TypeId → List (List AV) → Prop
  | [], ls => ls = []
  | t :: ts, ls => ∃ c r, ls = c :: r ∧ Reads P d t c ∧ ReadsF P d ts r
section
variable {P : Program} {d : Nat} {t : TypeId} {l : List AV}
theorem readsF_of : ∀ (fs : List Field) (ls : List (List AV)), ls.length = fs.length → (∀ (i : Nat) (f : Field) (c : List AV), fs[i]? = some f → ls[i]? = some c → Reads P d f.type c) → ReadsF P d (fs.map (·.type)) ls
  | [], [], _, _ => rfl
  | f :: fs, c :: ls, hl, h => ⟨c, ls, rfl, h 0 f c rfl rfl, readsF_of fs ls (by simpa using hl) fun i g q h1 h2 => h (i + 1) g q (by simpa using h1) (by simpa using h2)⟩
  | [], _ :: _, hl, _ => by simp at hl
  | _ :: _, [], hl, _ => by simp at hl
theorem reads_struct {fs : Array Field} (hu : P.underlying t = some (.struct fs)) (h : Reads P (d + 1) t l) : ∃ ls, l = ls.flatten ∧ ReadsF P d (fs.toList.map (·.type)) ls := by
  simp only [Reads, hu] at h
  obtain ⟨ls, h1, h2, h3⟩ := h
  exact ⟨ls, h1, readsF_of _ _ (by simpa using h2) fun i f c q1 q2 => h3 i f c (by simpa using q1) q2⟩
/-- A whole number of 64 bits. -/
def I64 (n : Int) : Prop := -9223372036854775808 ≤ n ∧ n ≤ 9223372036854775807
theorem reads_int (hu : P.underlying t = some (.int .i64)) (h : Reads P (d + 1) t l) : ∃ n, l = [vi n] ∧ I64 n := by
  simp only [Reads, hu] at h
  obtain ⟨n, h1, h2⟩ := h
  refine ⟨n, h1, ?_⟩
  simp only [Lit.wf, Bool.and_eq_true, decide_eq_true_eq] at h2
  have e1 : IntKind.i64.min = -9223372036854775808 := rfl
  have e2 : IntKind.i64.max = 9223372036854775807 := rfl
  rw [e1, e2] at h2
  exact h2
theorem reads_u8 (hu : P.underlying t = some (.int .u8)) (h : Reads P (d + 1) t l) : ∃ n, l = [.v (.int .u8 n)] ∧ 0 ≤ n ∧ n ≤ 255 := by
  simp only [Reads, hu] at h
  obtain ⟨n, h1, h2⟩ := h
  refine ⟨n, h1, ?_⟩
  simp only [Lit.wf, Bool.and_eq_true, decide_eq_true_eq] at h2
  have e1 : IntKind.u8.min = 0 := rfl
  have e2 : IntKind.u8.max = 255 := rfl
  rw [e1, e2] at h2
  exact h2
theorem reads_bool (hu : P.underlying t = some .bool) (h : Reads P (d + 1) t l) : ∃ b, l = [vb b] := by
  simpa only [Reads, hu] using h
theorem reads_string (hu : P.underlying t = some .string) (h : Reads P (d + 1) t l) : ∃ s, l = [vs s] ∧ s.size ≤ maxLen := by
  simpa only [Reads, hu] using h
theorem reads_slice {e : TypeId} {k : Nat} {α : Type} {f : α → List AV} {ok : α → Prop} (hu : P.underlying t = some (.slice e)) (hk : P.cellsOf e = k) (hf : ∀ c, Reads P d e c → ∃ x, c = f x ∧ ok x) (h : Reads P (d + 1) t l) :
    ∃ s : Sl α, l = [s.av k f] ∧ s.list.length ≤ maxLen ∧ ∀ x, x ∈ s.list → ok x := by
  simp only [Reads, hu] at h
  rcases h with rfl | ⟨xs, rfl, h1, h2⟩
  · exact ⟨.nil, rfl, by simp [Sl.list], by simp [Sl.list]⟩
  · have key : ∀ ys : List (List AV), (∀ c, c ∈ ys → Reads P d e c) → ∃ zs : List α, ys = zs.map f ∧ ∀ x, x ∈ zs → ok x := by
      intro ys
      induction ys with
      | nil => intro _; exact ⟨[], rfl, by simp⟩
      | cons y ys ih =>
        intro h
        obtain ⟨zs, e1, e2⟩ := ih fun c hc => h c (List.mem_cons_of_mem _ hc)
        obtain ⟨z, e3, e4⟩ := hf y (h y List.mem_cons_self)
        refine ⟨z :: zs, by rw [e1, e3]; rfl, fun x hx => ?_⟩
        rcases List.mem_cons.1 hx with rfl | hx
        · exact e4
        · exact e2 x hx
    obtain ⟨zs, rfl, e2⟩ := key xs h2
    exact ⟨.mk zs, by rw [hk]; rfl, by simpa [Sl.list] using h1, e2⟩
end
end Go.Proofs.YtbpndomfipdhdaaDoor.Ev
