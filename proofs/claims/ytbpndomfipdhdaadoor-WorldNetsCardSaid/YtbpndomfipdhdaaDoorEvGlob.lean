/-
  Tables of the library that the row lists: what their cells hold.
-/
import Derived.Test.YtbpndomfipdhdaaDoorEvRead
import Derived.FnData
import Derived.MakeChecks
import Derived.OpenShut
set_option linter.unusedVariables false
set_option linter.unusedSimpArgs false
namespace Go.Proofs.YtbpndomfipdhdaaDoor.Ev
open Go.RowKit Go.ChangeShapes Go.WideShapes

/- The cells of a table's datum. -/
mutual
def dataCells : DataW Unit → Option (List Value)
  | .lit (.int k n) => some [.int k n]
  | .lit (.bool b) => some [.bool b]
  | .lit (.string b) => some [.string ⟨b.toArray⟩]
  | .agg l => datasCells l
  | _ => none
def datasCells : List (DataW Unit) → Option (List Value)
  | [] => some []
  | d :: r => match dataCells d with
    | some a => match datasCells r with
      | some b => some (a ++ b)
      | none => none
    | none => none
end
def tabOK (P : Program) : Nat → TypeId → Bool
  | 0, _ => false
  | d + 1, t => match P.underlying t with
    | some (.int _) => P.cellsOf t == 1
    | some .string => P.cellsOf t == 1
    | some (.array m e) => P.cellsOf t == m * P.cellsOf e && tabOK P d e
    | some (.struct fs) => tiles P fs.toList 0 (P.cellsOf t) && fs.toList.all fun f => tabOK P d f.type
    | _ => false
theorem datas_of {P : Program} : ∀ (ds : List (DataW Unit)) (ls : List (List Value)), ds.length = ls.length → (∀ (i : Nat) (d : DataW Unit) (l : List Value), ds[i]? = some d → ls[i]? = some l → dataCells d = some l) → datasCells ds = some ls.flatten
  | [], [], _, _ => rfl
  | d :: ds, l :: ls, hl, h => by
    simp only [datasCells, h 0 d l rfl rfl, datas_of (P := P) ds ls (by simpa using hl) fun i d l h1 h2 => h (i + 1) d l (by simpa using h1) (by simpa using h2), List.flatten_cons]
  | [], _ :: _, hl, _ => by simp at hl
  | _ :: _, [], hl, _ => by simp at hl
theorem tiles_cells {P : Program} {cs : List Value} : ∀ (fs : List Field) (n m : Nat), tiles P fs n m = true → cs.length = m → (fs.map fun f => (cs.drop f.offset).take (P.cellsOf f.type)).flatten = cs.drop n
  | [], n, m, ht, hm => by
    simp only [tiles, beq_iff_eq] at ht
    subst ht
    rw [List.drop_of_length_le (by omega)]; rfl
  | f :: fs, n, m, ht, hm => by
    simp only [tiles, Bool.and_eq_true, beq_iff_eq] at ht
    obtain ⟨h1, h2⟩ := ht
    rw [List.map_cons, List.flatten_cons, tiles_cells fs _ m h2 hm, h1, ← List.drop_drop, List.take_append_drop]
theorem chunks {α : Type} (c : Nat) : ∀ (m : Nat) (cs : List α), cs.length = m * c → ((List.range m).map fun i => (cs.drop (i * c)).take c).flatten = cs
  | 0, cs, h => by simp at h; simp [h]
  | m + 1, cs, h => by
    rw [List.range_succ_eq_map, List.map_cons, List.flatten_cons, List.map_map]
    have h2 := chunks c m (cs.drop c) (by simp [h]; rw [Nat.succ_mul]; omega)
    have e : ((fun i => (cs.drop (i * c)).take c) ∘ Nat.succ) = fun i => ((cs.drop c).drop (i * c)).take c := by
      funext i
      simp only [Function.comp, List.drop_drop]
      congr 2
      rw [Nat.succ_mul]; omega
    rw [e, h2, Nat.zero_mul, List.drop_zero, List.take_append_drop]
theorem tab_cells {P : Program} {w : World} : ∀ (n : Nat) (t : TypeId) (cs : List Value) (fuel : Nat) (d : DataW Unit) (p : List MemPlace), tabOK P n t = true →
    DataW.trod (fun _ => ()) P w 0 (fun _ => true) false fuel t cs = some (d, p) → dataCells d = some cs ∧ cs.length = P.cellsOf t
  | 0, t, cs, fuel, d, p, ht, h => by cases ht
  | n + 1, t, cs, fuel, d, p, ht, h => by
    simp only [tabOK] at ht
    split at ht
    · rename_i k hu
      obtain ⟨x, rfl, e, _⟩ := DataW.trod_int hu h
      simp only [Prod.mk.injEq] at e
      obtain ⟨rfl, _⟩ := e
      exact ⟨rfl, by simpa using (beq_iff_eq.1 ht).symm⟩
    · rename_i hu
      obtain ⟨x, rfl, e, _⟩ := DataW.trod_string hu h
      simp only [Prod.mk.injEq] at e
      obtain ⟨rfl, _⟩ := e
      exact ⟨rfl, by simpa using (beq_iff_eq.1 ht).symm⟩
    · rename_i m e hu
      simp only [Bool.and_eq_true, beq_iff_eq] at ht
      obtain ⟨t1, t2⟩ := ht
      obtain ⟨xs, q, _, ex, hlen, hxl, hat⟩ := DataW.trod_array hu h
      simp only [Prod.mk.injEq] at ex
      obtain ⟨rfl, _⟩ := ex
      refine ⟨?_, hlen⟩
      simp only [dataCells]
      rw [datas_of (P := P) (xs.map (·.1)) ((List.range m).map fun i => (cs.drop (i * P.cellsOf e)).take (P.cellsOf e)) (by simp [hxl]) ?_, chunks _ _ _ (by rw [hlen, t1])]
      intro i d l h1 h2
      simp only [List.getElem?_map, Option.map_eq_some_iff] at h1 h2
      obtain ⟨x, h1, rfl⟩ := h1
      obtain ⟨j, h2, rfl⟩ := h2
      have hi : i < m := by rw [← hxl]; exact (List.getElem?_eq_some_iff.1 h1).1
      rw [List.getElem?_range hi] at h2
      cases h2
      have h3 := hat i hi
      rw [h1] at h3
      exact (tab_cells n e _ q x.1 x.2 t2 h3).1
    · rename_i fs hu
      simp only [Bool.and_eq_true, List.all_eq_true] at ht
      obtain ⟨t1, t2⟩ := ht
      obtain ⟨xs, q, _, ex, hlen, hxl, hat⟩ := DataW.trod_struct hu h
      simp only [Prod.mk.injEq] at ex
      obtain ⟨rfl, _⟩ := ex
      refine ⟨?_, hlen⟩
      simp only [dataCells]
      rw [datas_of (P := P) (xs.map (·.1)) (fs.toList.map fun f => (cs.drop f.offset).take (P.cellsOf f.type)) (by simp [hxl]) ?_, tiles_cells fs.toList 0 _ t1 hlen, List.drop_zero]
      intro i d l h1 h2
      simp only [List.getElem?_map, Option.map_eq_some_iff] at h1 h2
      obtain ⟨x, h1, rfl⟩ := h1
      obtain ⟨f, h2, rfl⟩ := h2
      have h3 := hat i f (by simpa using h2)
      rw [h1] at h3
      exact (tab_cells n f.type _ q x.1 x.2 (t2 f (List.mem_of_getElem? h2)) h3).1
    · cases ht
/-- A listed variable, as the evaluator takes it. -/
def LaidG (w : World) (g : Nat) (l : List Value) : Prop := VRat (World.ctx w) ⟨g, 0, none⟩ (l.map .v) 0 ∧ ∃ t, w.shape? g = some (t, l.length)
theorem laidG_of {P : Program} {w : World} {nm : String} {g : Nat} {t : TypeId} {cs : Array Value} {fuel : Nat} {d : DataW Unit} {p : List MemPlace} {l : List Value} {n : Nat} (hg : P.globalNamed nm = some g) (hv : w.var? P nm = some cs)
    (hd : DataW.trod (fun _ => ()) P w 0 (fun _ => true) false fuel t cs.toList = some (d, p)) (ht : tabOK P n t = true) (hl : dataCells d = some l) (ho : l.all (fun v => v.oneCell') = true) : LaidG w g l := by
  obtain ⟨h1, h2⟩ := tab_cells n t _ fuel d p ht hd
  rw [hl] at h1
  cases h1
  refine ⟨VRat_mk fun i a ha => ?_, ?_⟩
  · simp only [List.getElem?_map, Option.map_eq_some_iff] at ha
    obtain ⟨c, hc, rfl⟩ := ha
    have ho' : c.oneCell' = true := List.all_eq_true.1 ho c (List.mem_of_getElem? hc)
    refine ⟨c, ctx_stable ?_, VR_v ho', ho'⟩
    have := World.var?_cell hg hv i
    rw [Nat.zero_add]
    have e : (Addr.add ⟨g, 0, none⟩ i) = ⟨g, i, none⟩ := by
      rw [add_plain, Nat.zero_add]
    rw [e, this]
    simpa using hc
  · simp only [World.var?, hg, Option.bind_some] at hv
    split at hv
    · rename_i c1 el fr hh
      cases hv
      exact ⟨el, by simp [World.shape?, hh]⟩
    · cases hv
/-- One cell that holds some number. -/
theorem laidG_int {P : Program} {w : World} {g : Nat} {t : TypeId} {zero : Array Value} {k : IntKind}
    (h : w.ShapedOpen P) (hg : g < P.globals.size) (h0 : ((begin P (fun _ _ => 0) default).world.heap[g]?).bind Obj.row? = some (zero, t)) (hz : zero.size = 1)
    (hc : ∃ m, w.cell? ⟨g, 0, none⟩ = some (.int k m)) : ∃ m, LaidG w g [.int k m] := by
  obtain ⟨cs, hh, hs, _⟩ := h.1 g zero t hg h0
  obtain ⟨m, hm⟩ := hc
  refine ⟨m, VRat_mk fun i a ha => ?_, t, by simp [World.shape?, hh, hs, hz]⟩
  cases i with
  | zero =>
    simp only [List.map_cons, List.getElem?_cons_zero, Option.some.injEq] at ha
    subst ha
    exact ⟨_, ctx_stable (by simpa [Addr.add] using hm), VR_v rfl, rfl⟩
  | succ i => simp at ha
end Go.Proofs.YtbpndomfipdhdaaDoor.Ev
