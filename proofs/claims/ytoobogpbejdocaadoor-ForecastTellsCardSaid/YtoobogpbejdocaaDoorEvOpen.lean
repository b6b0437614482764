import Derived.Test.YtoobogpbejdocaaDoorEvRead
import Derived.Test.YtoobogpbejdocaaDoorEvPure
import Derived.FnData
import Derived.MakeChecks
import Derived.OpenShut
import Derived.ProofKit
import Derived.ShutString
import Derived.LaidMore
import Derived.Lay
import Derived.LaidLaws
import Derived.Carry
import Derived.ChangeSame
import Derived.SevenTiedAt
import Derived.Stop.Joined
import Derived.Shelf.Vars
import Derived.Test.YtoobogpbejdocaaDoorEvSl
set_option linter.unusedVariables false
set_option linter.unusedSectionVars false
set_option linter.unusedSimpArgs false
namespace Go.Proofs.YtoobogpbejdocaaDoor.Ev
open Go.RowKit
theorem ext_below_ctx {w : World} {D : Ctx} (hx : Ext (World.ctx w) D) : Below w.heap.size w D.w :=
  ⟨hx.os, hx.tape, hx.out, hx.size, fun k hk => hx.frame k hk fun i o h => by simp [World.ctx] at h⟩
theorem law_calls {P : Program} {E : Prog} (hm : P.follows .mixedOrders = true) (hG : GRo E.glob) (hp : PrimOK P E) (hs : PrimSc E) (hf : FnsOK P E) {f : Nat} (hlt : f < yB) {l : List AV} {x : Value} {cargs : List Value} {w : World}
    (h : callP E f l = some (.v x)) (hg : GlobR (World.ctx w) E.glob) (hv : VRt (World.ctx w) l cargs) : Calls P f cargs.toArray w fun e w' => e = .returned x ∧ Below w.heap.size w w' := by
  unfold callP at h
  split at h
  · rename_i r st k
    have hr : r = .v x := by
      cases r <;> simp only [AV.snap] at h <;> first | exact (Option.some.inj h) | (cases h; done) | (split at h <;> first | (cases h; done) | (split at h <;> cases h))
    subst hr
    obtain ⟨_, hc⟩ := call_ok (C := World.ctx w) hm hG hp hs hf hlt k (ctx_ok w) hg hv
    refine Calls.mono hc ?_
    intro e w' he
    cases e with
    | returned v =>
      obtain ⟨D, rfl, hx, _, _, hv⟩ := he
      exact ⟨by rw [VR_plain hv], ext_below_ctx hx⟩
    | panicked c => exact he.elim
    | outgrown => exact he.elim
  · cases h
end Go.Proofs.YtoobogpbejdocaaDoor.Ev
set_option linter.unusedVariables false
set_option linter.unusedSimpArgs false
namespace Go.Proofs.YtoobogpbejdocaaDoor.Ev
open Go.RowKit Go.ChangeShapes Go.WideShapes
mutual
def dataCells : DataW Unit → Option (List Value)
  | .lit (.int k n) => some [.int k n]
  | .lit (.bool b) => some [.bool b]
  | .lit (.string b) => some [.string ⟨b.toArray⟩]
  | .agg l => datasCells l
  | _ => none
def datasCells : List (DataW Unit) → Option (List Value)
  | [] => some []
  | d :: r => match dataCells d with
    | some a => match datasCells r with
      | some b => some (a ++ b)
      | none => none
    | none => none
end
def tabOK (P : Program) : Nat → TypeId → Bool
  | 0, _ => false
  | d + 1, t => match P.underlying t with
    | some (.int _) => P.cellsOf t == 1
    | some .string => P.cellsOf t == 1
    | some (.array m e) => P.cellsOf t == m * P.cellsOf e && tabOK P d e
    | some (.struct fs) => tiles P fs.toList 0 (P.cellsOf t) && fs.toList.all fun f => tabOK P d f.type
    | _ => false
theorem datas_of {P : Program} : ∀ (ds : List (DataW Unit)) (ls : List (List Value)), ds.length = ls.length → (∀ (i : Nat) (d : DataW Unit) (l : List Value), ds[i]? = some d → ls[i]? = some l → dataCells d = some l) → datasCells ds = some ls.flatten
  | [], [], _, _ => rfl
  | d :: ds, l :: ls, hl, h => by
    simp only [datasCells, h 0 d l rfl rfl, datas_of (P := P) ds ls (by simpa using hl) fun i d l h1 h2 => h (i + 1) d l (by simpa using h1) (by simpa using h2), List.flatten_cons]
  | [], _ :: _, hl, _ => by simp at hl
  | _ :: _, [], hl, _ => by simp at hl
theorem tiles_cells {P : Program} {cs : List Value} : ∀ (fs : List Field) (n m : Nat), tiles P fs n m = true → cs.length = m → (fs.map fun f => (cs.drop f.offset).take (P.cellsOf f.type)).flatten = cs.drop n
  | [], n, m, ht, hm => by
    simp only [tiles, beq_iff_eq] at ht
    subst ht
    rw [List.drop_of_length_le (by omega)]; rfl
  | f :: fs, n, m, ht, hm => by
    simp only [tiles, Bool.and_eq_true, beq_iff_eq] at ht
    obtain ⟨h1, h2⟩ := ht
    rw [List.map_cons, List.flatten_cons, tiles_cells fs _ m h2 hm, h1, ← List.drop_drop, List.take_append_drop]
theorem chunks {α : Type} (c : Nat) : ∀ (m : Nat) (cs : List α), cs.length = m * c → ((List.range m).map fun i => (cs.drop (i * c)).take c).flatten = cs
  | 0, cs, h => by simp at h; simp [h]
  | m + 1, cs, h => by
    rw [List.range_succ_eq_map, List.map_cons, List.flatten_cons, List.map_map]
    have h2 := chunks c m (cs.drop c) (by simp [h]; rw [Nat.succ_mul]; omega)
    have e : ((fun i => (cs.drop (i * c)).take c) ∘ Nat.succ) = fun i => ((cs.drop c).drop (i * c)).take c := by
      funext i
      simp only [Function.comp, List.drop_drop]
      congr 2
      rw [Nat.succ_mul]; omega
    rw [e, h2, Nat.zero_mul, List.drop_zero, List.take_append_drop]
theorem tab_cells {P : Program} {w : World} : ∀ (n : Nat) (t : TypeId) (cs : List Value) (fuel : Nat) (d : DataW Unit) (p : List MemPlace), tabOK P n t = true →
    DataW.trod (fun _ => ()) P w 0 (fun _ => true) false fuel t cs = some (d, p) → dataCells d = some cs ∧ cs.length = P.cellsOf t
  | 0, t, cs, fuel, d, p, ht, h => by cases ht
  | n + 1, t, cs, fuel, d, p, ht, h => by
    simp only [tabOK] at ht
    split at ht
    · rename_i k hu
      obtain ⟨x, rfl, e, _⟩ := DataW.trod_int hu h
      simp only [Prod.mk.injEq] at e
      obtain ⟨rfl, _⟩ := e
      exact ⟨rfl, by simpa using (beq_iff_eq.1 ht).symm⟩
    · rename_i hu
      obtain ⟨x, rfl, e, _⟩ := DataW.trod_string hu h
      simp only [Prod.mk.injEq] at e
      obtain ⟨rfl, _⟩ := e
      exact ⟨rfl, by simpa using (beq_iff_eq.1 ht).symm⟩
    · rename_i m e hu
      simp only [Bool.and_eq_true, beq_iff_eq] at ht
      obtain ⟨t1, t2⟩ := ht
      obtain ⟨xs, q, _, ex, hlen, hxl, hat⟩ := DataW.trod_array hu h
      simp only [Prod.mk.injEq] at ex
      obtain ⟨rfl, _⟩ := ex
      refine ⟨?_, hlen⟩
      simp only [dataCells]
      rw [datas_of (P := P) (xs.map (·.1)) ((List.range m).map fun i => (cs.drop (i * P.cellsOf e)).take (P.cellsOf e)) (by simp [hxl]) ?_, chunks _ _ _ (by rw [hlen, t1])]
      intro i d l h1 h2
      simp only [List.getElem?_map, Option.map_eq_some_iff] at h1 h2
      obtain ⟨x, h1, rfl⟩ := h1
      obtain ⟨j, h2, rfl⟩ := h2
      have hi : i < m := by rw [← hxl]; exact (List.getElem?_eq_some_iff.1 h1).1
      rw [List.getElem?_range hi] at h2
      cases h2
      have h3 := hat i hi
      rw [h1] at h3
      exact (tab_cells n e _ q x.1 x.2 t2 h3).1
    · rename_i fs hu
      simp only [Bool.and_eq_true, List.all_eq_true] at ht
      obtain ⟨t1, t2⟩ := ht
      obtain ⟨xs, q, _, ex, hlen, hxl, hat⟩ := DataW.trod_struct hu h
      simp only [Prod.mk.injEq] at ex
      obtain ⟨rfl, _⟩ := ex
      refine ⟨?_, hlen⟩
      simp only [dataCells]
      rw [datas_of (P := P) (xs.map (·.1)) (fs.toList.map fun f => (cs.drop f.offset).take (P.cellsOf f.type)) (by simp [hxl]) ?_, tiles_cells fs.toList 0 _ t1 hlen, List.drop_zero]
      intro i d l h1 h2
      simp only [List.getElem?_map, Option.map_eq_some_iff] at h1 h2
      obtain ⟨x, h1, rfl⟩ := h1
      obtain ⟨f, h2, rfl⟩ := h2
      have h3 := hat i f (by simpa using h2)
      rw [h1] at h3
      exact (tab_cells n f.type _ q x.1 x.2 (t2 f (List.mem_of_getElem? h2)) h3).1
    · cases ht
def LaidG (w : World) (g : Nat) (l : List Value) : Prop := VRat (World.ctx w) ⟨g, 0, none⟩ (l.map .v) 0 ∧ ∃ t, w.shape? g = some (t, l.length)
theorem laidG_of {P : Program} {w : World} {nm : String} {g : Nat} {t : TypeId} {cs : Array Value} {fuel : Nat} {d : DataW Unit} {p : List MemPlace} {l : List Value} {n : Nat} (hg : P.globalNamed nm = some g) (hv : w.var? P nm = some cs)
    (hd : DataW.trod (fun _ => ()) P w 0 (fun _ => true) false fuel t cs.toList = some (d, p)) (ht : tabOK P n t = true) (hl : dataCells d = some l) (ho : l.all (fun v => v.oneCell') = true) : LaidG w g l := by
  obtain ⟨h1, h2⟩ := tab_cells n t _ fuel d p ht hd
  rw [hl] at h1
  cases h1
  refine ⟨VRat_mk fun i a ha => ?_, ?_⟩
  · simp only [List.getElem?_map, Option.map_eq_some_iff] at ha
    obtain ⟨c, hc, rfl⟩ := ha
    have ho' : c.oneCell' = true := List.all_eq_true.1 ho c (List.mem_of_getElem? hc)
    refine ⟨c, ctx_stable ?_, VR_v ho', ho'⟩
    have := World.var?_cell hg hv i
    rw [Nat.zero_add]
    have e : (Addr.add ⟨g, 0, none⟩ i) = ⟨g, i, none⟩ := by
      rw [add_plain, Nat.zero_add]
    rw [e, this]
    simpa using hc
  · simp only [World.var?, hg, Option.bind_some] at hv
    split at hv
    · rename_i c1 el fr hh
      cases hv
      exact ⟨el, by simp [World.shape?, hh]⟩
    · cases hv
end Go.Proofs.YtoobogpbejdocaaDoor.Ev
set_option linter.unusedVariables false
set_option linter.unusedSimpArgs false
namespace Go.Proofs.YtoobogpbejdocaaDoor.Ev
open Go.RowKit Go.ChangeShapes Go.WideShapes Go.ChangeAt
def ArgOf (P : Program) (t : TypeId) (a : AV) : Prop :=
  match P.underlying t with
  | some (.struct _) => ∃ l, a = .agg l ∧ Reads P 8 t l
  | some (.array _ _) => False
  | _ => Reads P 8 t [a]
def ArgsOf (P : Program) : List TypeId → List AV → Prop
  | [], l => l = []
  | t :: ts, l => ∃ a r, l = a :: r ∧ ArgOf P t a ∧ ArgsOf P ts r
theorem VRs_single {C : Ctx} {a : AV} {v : Value} (h : VRs C [a] [v]) : VR C a v := by
  simp only [VRs] at h
  obtain ⟨c, r, e, h, rfl⟩ := h
  cases e
  exact h.1
section
variable {H : Type} {enc : TypeId × Value → H} {P : Program} {w : World}
theorem arg_of {base : Nat} {t : TypeId} {v : Value} {d : DataW H} {p : List MemPlace} (hv : Value.okWide P w .any base t v) (ht : tyOK P 8 t = true) (h : DataW.Trod enc P w 0 (fun _ => true) true t v d p) : ∃ a, ArgOf P t a ∧ VR (World.ctx w) a v := by
  obtain ⟨fuel, h⟩ := h
  have one : ∀ c : Value, v = c → (v.cells.toList = [c]) → (∀ fs, P.underlying t ≠ some (.struct fs)) → (∀ m e, P.underlying t ≠ some (.array m e)) → ∃ a, ArgOf P t a ∧ VR (World.ctx w) a v := by
    intro c hc hcs h1 h2
    rw [hcs] at h
    obtain ⟨l, r1, r2, r3⟩ := reads_of_trod 8 t [c] fuel _ ht h
    have hl := VRs_length r2
    match l, hl with
    | [a], _ =>
      refine ⟨a, ?_, by rw [hc]; exact VRs_single r2⟩
      unfold ArgOf
      split
      · rename_i fs hu; exact absurd hu (h1 fs)
      · rename_i m e hu; exact absurd hu (h2 m e)
      · exact r1
  have ht' := ht
  simp only [tyOK] at ht
  split at ht
  · rename_i hu
    obtain ⟨b, rfl⟩ := okWide_bool hu hv
    exact one _ rfl rfl (fun fs e => by rw [hu] at e; cases e) (fun m e q => by rw [hu] at q; cases q)
  · rename_i k hu
    obtain ⟨n, rfl⟩ := okWide_int hu hv
    exact one _ rfl rfl (fun fs e => by rw [hu] at e; cases e) (fun m e q => by rw [hu] at q; cases q)
  · rename_i hu
    obtain ⟨s, rfl⟩ := okWide_string hu hv
    exact one _ rfl rfl (fun fs e => by rw [hu] at e; cases e) (fun m e q => by rw [hu] at q; cases q)
  · rename_i e hu
    obtain ⟨a, len, cap, rfl⟩ := okWide_slice hu hv
    exact one _ rfl rfl (fun fs e => by rw [hu] at e; cases e) (fun m e q => by rw [hu] at q; cases q)
  · rename_i fs hu
    obtain ⟨cs, rfl, _⟩ := okWide_struct hu hv
    obtain ⟨l, r1, r2, r3⟩ := reads_of_trod 8 t cs.toList fuel _ ht' (by simpa [Value.cells] using h)
    refine ⟨.agg l, ?_, ?_⟩
    · unfold ArgOf; rw [hu]; exact ⟨l, rfl, r1⟩
    · simp only [VR]; exact ⟨cs, rfl, r2⟩
  · cases ht
theorem args_of {base : Nat} : ∀ (ts : List TypeId) (args : List Value) (ds : List (DataW H)) (ps : List MemPlace), DataW.TrodAll enc P w 0 (fun _ => true) true ts args ds ps → (∀ t, t ∈ ts → tyOK P 8 t = true) →
    (∀ (j : Nat) (t : TypeId) (v : Value), ts[j]? = some t → args[j]? = some v → Value.okWide P w .any base t v) → ∃ avs, ArgsOf P ts avs ∧ VRt (World.ctx w) avs args
  | [], args, ds, ps, h, _, _ => by
    cases args with
    | nil => exact ⟨[], rfl, rfl⟩
    | cons a az => cases ds <;> exact absurd h (by intro h; simp [DataW.TrodAll] at h)
  | t :: ts, args, ds, ps, h, ht, hv => by
    cases args with
    | nil => cases ds <;> exact absurd h (by intro h; simp [DataW.TrodAll] at h)
    | cons a az =>
      cases ds with
      | nil => exact absurd h (by intro h; simp [DataW.TrodAll] at h)
      | cons d ds =>
        simp only [DataW.TrodAll] at h
        obtain ⟨p, q, h1, h2, rfl⟩ := h
        obtain ⟨x, x1, x2⟩ := arg_of (hv 0 t a rfl rfl) (ht t List.mem_cons_self) h1
        obtain ⟨xs, y1, y2⟩ := args_of ts az ds q h2 (fun t ht' => ht t (List.mem_cons_of_mem _ ht')) fun j t v h3 h4 => hv (j + 1) t v (by simpa using h3) (by simpa using h4)
        exact ⟨x :: xs, ⟨x, xs, rfl, x1, y1⟩, ⟨a, az, rfl, x2, y2⟩⟩
theorem trodAll_back (hl : laidOutB P = true) {w' : World} (hb : Below w.heap.size w w') : ∀ (ts : List TypeId) (args : List Value) (ds : List (DataW H)) (ps : List MemPlace), DataW.TrodAll enc P w 0 (fun _ => true) true ts args ds ps →
    (∀ t, t ∈ ts → P.readableRec t = true ∧ t < P.types.size) → (∀ x, x ∈ ps → x.block < w.heap.size) → DataW.TrodAll enc P w' 0 (fun b => decide (b < w.heap.size)) true ts args ds ps
  | [], args, ds, ps, h, _, _ => by
    cases args with
    | nil => cases ds with
      | nil => exact h
      | cons d ds => exact absurd h (by intro h; simp [DataW.TrodAll] at h)
    | cons a az => cases ds <;> exact absurd h (by intro h; simp [DataW.TrodAll] at h)
  | t :: ts, args, ds, ps, h, ht, hlt => by
    cases args with
    | nil => cases ds <;> exact absurd h (by intro h; simp [DataW.TrodAll] at h)
    | cons a az =>
      cases ds with
      | nil => exact absurd h (by intro h; simp [DataW.TrodAll] at h)
      | cons d ds =>
        simp only [DataW.TrodAll] at h ⊢
        obtain ⟨p, q, h1, h2, rfl⟩ := h
        obtain ⟨r1, r2⟩ := ht t List.mem_cons_self
        exact ⟨p, q, Below.trod hl r1 r2 h1 hb (fun x hx => hlt x (List.mem_append.2 (.inl hx))), trodAll_back hl hb ts az ds q h2 (fun t ht' => ht t (List.mem_cons_of_mem _ ht')) (fun x hx => hlt x (List.mem_append.2 (.inr hx))), rfl⟩
theorem trodAll_len : ∀ (ts : List TypeId) (args : List Value) (ds : List (DataW H)) (ps : List MemPlace), DataW.TrodAll enc P w 0 (fun _ => true) true ts args ds ps → ds.length = ts.length
  | [], args, ds, ps, h => by
    cases ds with
    | nil => rfl
    | cons d ds => cases args <;> exact absurd h (by intro h; simp [DataW.TrodAll] at h)
  | t :: ts, args, ds, ps, h => by
    cases args with
    | nil => cases ds <;> exact absurd h (by intro h; simp [DataW.TrodAll] at h)
    | cons a az =>
      cases ds with
      | nil => exact absurd h (by intro h; simp [DataW.TrodAll] at h)
      | cons d ds =>
        simp only [DataW.TrodAll] at h
        obtain ⟨p, q, h1, h2, rfl⟩ := h
        simp only [List.length_cons, trodAll_len ts az ds q h2]
end
theorem law_lifted {H : Type} {enc : TypeId × Value → H} {C : Checked} {os : Os} {f : FuncId} {fn : Func} {s : ChangeSpec} {conds : List PathCond} {laid : List (String × DataW Unit)} {tb : TypeId}
    (hm : C.prog.follows .mixedOrders = true) (own : ownKnob C.prog.godebug = none) (started : os.Started) (noInit : C.prog.inits.idxOf? f = none) (hfn : C.prog.funcs[f]? = some fn)
    (witness : ∃ (w : World) (tape : Tape) (i : Input), w.os = os ∧ (w.forCall tape i).Shaped C.prog ∧ i.vars = [] ∧ Input.okWide C.prog (w.forCall tape i) .any w.heap.size f i ∧
      ((s.pre enc C.prog fn conds false (w.forCall tape i).memory i.args ∧ laidMetH C.prog laid (w.forCall tape i).memory) ∧ sizedMet enc C.prog fn (OpenSpec.ofChange s) false (w.forCall tape i).memory i.args) ∧ ({} : Assume).holds C.prog (lone (Frame.enter C.prog f i.args .normal) [] (w.forCall tape i)))
    (hs : ∀ ds : List (DataW H), ds.length = fn.params.size → s.fn H ds = { results := [.lit (.bool true)], args := ds }) (hsv : s.vars = [])
    (hres : fn.resultTypes = #[tb]) (htb : C.prog.underlying tb = some .bool) (hlo : laidOutB C.prog = true) (hltf : f < yB := by decide)
    (hpar : (fn.params.toList.all fun t => tyOK C.prog 8 t && C.prog.readableRec t && decide (t < C.prog.types.size)) = true)
    (law : ∀ W : World, laidMetH C.prog laid W → W.ShapedOpen C.prog → ∃ E : Prog, GRo E.glob ∧ PrimOK C.prog E ∧ PrimSc E ∧ FnsOK C.prog E ∧ GlobR (World.ctx W) E.glob ∧
      ∀ avs, ArgsOf C.prog fn.params.toList avs → callP E f avs = some (.v (.bool true))) :
    ReturnsInHanded {} C os f .any (fun w args => (s.pre enc C.prog fn conds false w args ∧ laidMetH C.prog laid w) ∧ sizedMet enc C.prog fn (OpenSpec.ofChange s) false w args) (s.post enc C.prog fn false true false false) := by
  refine returnsInHanded_of_calls own started noInit witness ?_
  intro w tape i _ hsh _ hok hpre _
  obtain ⟨_, _, _, fn', hfn', _, _, _, hsz, hval⟩ := hok
  have e : fn' = fn := Option.some.inj (hfn'.symm.trans hfn)
  subst e
  obtain ⟨⟨⟨ds, gs, before, hw, _⟩, hl⟩, _⟩ := hpre
  have hw' := DataW.Whole.of_heap (w' := w.forCall tape i) (by rfl) hw
  have hl' : laidMetH C.prog laid (w.forCall tape i) := hl.of_heap (by rfl)
  clear hw hl
  generalize hW : w.forCall tape i = W at *
  have hlt := hw'.lt
  have hWh := hw'
  obtain ⟨p, q, hA, hV, hb, _, _⟩ := hw'
  rw [hsv] at hV
  obtain ⟨rfl, rfl⟩ := trodVars_none hV
  have hpar' := List.all_eq_true.1 hpar
  simp only [Bool.and_eq_true, decide_eq_true_eq] at hpar'
  obtain ⟨avs, a1, a2⟩ := args_of fn'.params.toList i.args.toList ds p hA (fun t ht => (hpar' t ht).1.1) fun j t v h1 h2 => hval j t v (by simpa using h1) (by simpa using h2)
  obtain ⟨E, e1, e2, e3, e4, e5, e6⟩ := law W hl' hsh
  have hc := law_calls hm e1 e2 e3 e4 hltf (e6 avs a1) e5 a2
  have hlen : ds.length = fn'.params.size := by
    have := trodAll_len _ _ _ _ hA
    simpa using this
  refine Calls.mono (by simpa using hc) ?_
  rintro e w' ⟨rfl, bel⟩
  have e0 := hs (ds ++ []) (by simpa using hlen)
  rw [List.append_nil] at hb
  subst hb
  refine ChangeSpec.post_blind ⟨ds, [], before, [], before, [], hWh, ?_, ?_, ?_, bel.frame _, fun h => by cases h⟩
  · rw [e0, hres]
    exact trodAll_mk1 (shut_bool htb _)
  · rw [e0, List.append_nil]
    exact trodAll_back hlo bel _ _ _ _ hA (fun t ht => ⟨(hpar' t ht).1.2, (hpar' t ht).2⟩) hlt
  · rw [e0, hsv]; exact rfl
end Go.Proofs.YtoobogpbejdocaaDoor.Ev
set_option linter.unusedVariables false
set_option linter.unusedSimpArgs false
namespace Go.Proofs.YtoobogpbejdocaaDoor.Ev
open Go.RowKit
def ReadsF (P : Program) (d : Nat) : List TypeId → List (List AV) → Prop
  | [], ls => ls = []
  | t :: ts, ls => ∃ c r, ls = c :: r ∧ Reads P d t c ∧ ReadsF P d ts r
section
variable {P : Program} {d : Nat} {t : TypeId} {l : List AV}
theorem readsF_of : ∀ (fs : List Field) (ls : List (List AV)), ls.length = fs.length → (∀ (i : Nat) (f : Field) (c : List AV), fs[i]? = some f → ls[i]? = some c → Reads P d f.type c) → ReadsF P d (fs.map (·.type)) ls
  | [], [], _, _ => rfl
  | f :: fs, c :: ls, hl, h => ⟨c, ls, rfl, h 0 f c rfl rfl, readsF_of fs ls (by simpa using hl) fun i g q h1 h2 => h (i + 1) g q (by simpa using h1) (by simpa using h2)⟩
  | [], _ :: _, hl, _ => by simp at hl
  | _ :: _, [], hl, _ => by simp at hl
theorem reads_struct {fs : Array Field} (hu : P.underlying t = some (.struct fs)) (h : Reads P (d + 1) t l) : ∃ ls, l = ls.flatten ∧ ReadsF P d (fs.toList.map (·.type)) ls := by
  simp only [Reads, hu] at h
  obtain ⟨ls, h1, h2, h3⟩ := h
  exact ⟨ls, h1, readsF_of _ _ (by simpa using h2) fun i f c q1 q2 => h3 i f c (by simpa using q1) q2⟩
def I64 (n : Int) : Prop := -9223372036854775808 ≤ n ∧ n ≤ 9223372036854775807
theorem reads_int (hu : P.underlying t = some (.int .i64)) (h : Reads P (d + 1) t l) : ∃ n, l = [vi n] ∧ I64 n := by
  simp only [Reads, hu] at h
  obtain ⟨n, h1, h2⟩ := h
  refine ⟨n, h1, ?_⟩
  simp only [Lit.wf, Bool.and_eq_true, decide_eq_true_eq] at h2
  have e1 : IntKind.i64.min = -9223372036854775808 := rfl
  have e2 : IntKind.i64.max = 9223372036854775807 := rfl
  rw [e1, e2] at h2
  exact h2
theorem reads_string (hu : P.underlying t = some .string) (h : Reads P (d + 1) t l) : ∃ s, l = [vs s] ∧ s.size ≤ maxLen := by
  simpa only [Reads, hu] using h
theorem reads_slice {e : TypeId} {k : Nat} {α : Type} {f : α → List AV} {ok : α → Prop} (hu : P.underlying t = some (.slice e)) (hk : P.cellsOf e = k) (hf : ∀ c, Reads P d e c → ∃ x, c = f x ∧ ok x) (h : Reads P (d + 1) t l) :
    ∃ s : Sl α, l = [s.av k f] ∧ s.list.length ≤ maxLen ∧ ∀ x, x ∈ s.list → ok x := by
  simp only [Reads, hu] at h
  rcases h with rfl | ⟨xs, rfl, h1, h2⟩
  · exact ⟨.nil, rfl, by simp [Sl.list], by simp [Sl.list]⟩
  · have key : ∀ ys : List (List AV), (∀ c, c ∈ ys → Reads P d e c) → ∃ zs : List α, ys = zs.map f ∧ ∀ x, x ∈ zs → ok x := by
      intro ys
      induction ys with
      | nil => intro _; exact ⟨[], rfl, by simp⟩
      | cons y ys ih =>
        intro h
        obtain ⟨zs, e1, e2⟩ := ih fun c hc => h c (List.mem_cons_of_mem _ hc)
        obtain ⟨z, e3, e4⟩ := hf y (h y List.mem_cons_self)
        refine ⟨z :: zs, by rw [e1, e3]; rfl, fun x hx => ?_⟩
        rcases List.mem_cons.1 hx with rfl | hx
        · exact e4
        · exact e2 x hx
    obtain ⟨zs, rfl, e2⟩ := key xs h2
    exact ⟨.mk zs, by rw [hk]; rfl, by simpa [Sl.list] using h1, e2⟩
end
end Go.Proofs.YtoobogpbejdocaaDoor.Ev
