/-
  A law that the evaluator answers true: its row.
-/
import Derived.Test.YtbpndomfipdhdaaDoorEvLaw
import Derived.Test.YtbpndomfipdhdaaDoorEvGlob
import Derived.ProofKit
import Derived.OpenShut
import Derived.ShutString
import Derived.LaidMore
import Derived.Lay
import Derived.LaidLaws
import Derived.Carry
import Derived.ChangeSame
import Derived.SevenTiedAt
import Derived.Stop.Joined
import Derived.Shelf.Vars
set_option linter.unusedVariables false
set_option linter.unusedSimpArgs false
namespace Go.Proofs.YtbpndomfipdhdaaDoor.Ev
open Go.RowKit Go.ChangeShapes Go.WideShapes Go.ChangeAt

/-- What an argument of the type may be. -/
def ArgOf (P : Program) (t : TypeId) (a : AV) : Prop :=
  match P.underlying t with
  | some (.struct _) => ∃ l, a = .agg l ∧ Reads P 6 t l
  | some (.array _ _) => False
  | _ => Reads P 6 t [a]
def ArgsOf (P : Program) : List TypeId → List AV → Prop
  | [], l => l = []
  | t :: ts, l => ∃ a r, l = a :: r ∧ ArgOf P t a ∧ ArgsOf P ts r
theorem VRs_single {C : Ctx} {a : AV} {v : Value} (h : VRs C [a] [v]) : VR C a v := by
  simp only [VRs] at h
  obtain ⟨c, r, e, h, rfl⟩ := h
  cases e
  exact h.1
section
variable {H : Type} {enc : TypeId × Value → H} {P : Program} {w : World}
theorem arg_of {base : Nat} {t : TypeId} {v : Value} {d : DataW H} {p : List MemPlace} (hv : Value.okWide P w .any base t v) (ht : tyOK P 6 t = true) (h : DataW.Trod enc P w 0 (fun _ => true) true t v d p) : ∃ a, ArgOf P t a ∧ VR (World.ctx w) a v := by
  obtain ⟨fuel, h⟩ := h
  have one : ∀ c : Value, v = c → (v.cells.toList = [c]) → (∀ fs, P.underlying t ≠ some (.struct fs)) → (∀ m e, P.underlying t ≠ some (.array m e)) → ∃ a, ArgOf P t a ∧ VR (World.ctx w) a v := by
    intro c hc hcs h1 h2
    rw [hcs] at h
    obtain ⟨l, r1, r2, r3⟩ := reads_of_trod 6 t [c] fuel _ ht h
    have hl := VRs_length r2
    match l, hl with
    | [a], _ =>
      refine ⟨a, ?_, by rw [hc]; exact VRs_single r2⟩
      unfold ArgOf
      split
      · rename_i fs hu; exact absurd hu (h1 fs)
      · rename_i m e hu; exact absurd hu (h2 m e)
      · exact r1
  have ht' := ht
  simp only [tyOK] at ht
  split at ht
  · rename_i hu
    obtain ⟨b, rfl⟩ := okWide_bool hu hv
    exact one _ rfl rfl (fun fs e => by rw [hu] at e; cases e) (fun m e q => by rw [hu] at q; cases q)
  · rename_i k hu
    obtain ⟨n, rfl⟩ := okWide_int hu hv
    exact one _ rfl rfl (fun fs e => by rw [hu] at e; cases e) (fun m e q => by rw [hu] at q; cases q)
  · rename_i hu
    obtain ⟨s, rfl⟩ := okWide_string hu hv
    exact one _ rfl rfl (fun fs e => by rw [hu] at e; cases e) (fun m e q => by rw [hu] at q; cases q)
  · rename_i e hu
    obtain ⟨a, len, cap, rfl⟩ := okWide_slice hu hv
    exact one _ rfl rfl (fun fs e => by rw [hu] at e; cases e) (fun m e q => by rw [hu] at q; cases q)
  · rename_i fs hu
    obtain ⟨cs, rfl, _⟩ := okWide_struct hu hv
    obtain ⟨l, r1, r2, r3⟩ := reads_of_trod 6 t cs.toList fuel _ ht' (by simpa [Value.cells] using h)
    refine ⟨.agg l, ?_, ?_⟩
    · unfold ArgOf; rw [hu]; exact ⟨l, rfl, r1⟩
    · simp only [VR]; exact ⟨cs, rfl, r2⟩
  · cases ht
theorem args_of {base : Nat} : ∀ (ts : List TypeId) (args : List Value) (ds : List (DataW H)) (ps : List MemPlace), DataW.TrodAll enc P w 0 (fun _ => true) true ts args ds ps → (∀ t, t ∈ ts → tyOK P 6 t = true) →
    (∀ (j : Nat) (t : TypeId) (v : Value), ts[j]? = some t → args[j]? = some v → Value.okWide P w .any base t v) → ∃ avs, ArgsOf P ts avs ∧ VRt (World.ctx w) avs args
  | [], args, ds, ps, h, _, _ => by
    cases args with
    | nil => exact ⟨[], rfl, rfl⟩
    | cons a as => cases ds <;> exact absurd h (by intro h; simp [DataW.TrodAll] at h)
  | t :: ts, args, ds, ps, h, ht, hv => by
    cases args with
    | nil => cases ds <;> exact absurd h (by intro h; simp [DataW.TrodAll] at h)
    | cons a as =>
      cases ds with
      | nil => exact absurd h (by intro h; simp [DataW.TrodAll] at h)
      | cons d ds =>
        simp only [DataW.TrodAll] at h
        obtain ⟨p, q, h1, h2, rfl⟩ := h
        obtain ⟨x, x1, x2⟩ := arg_of (hv 0 t a rfl rfl) (ht t List.mem_cons_self) h1
        obtain ⟨xs, y1, y2⟩ := args_of ts as ds q h2 (fun t ht' => ht t (List.mem_cons_of_mem _ ht')) fun j t v h3 h4 => hv (j + 1) t v (by simpa using h3) (by simpa using h4)
        exact ⟨x :: xs, ⟨x, xs, rfl, x1, y1⟩, ⟨a, as, rfl, x2, y2⟩⟩
theorem trodAll_back (hl : laidOutB P = true) {w' : World} (hb : Below w.heap.size w w') : ∀ (ts : List TypeId) (args : List Value) (ds : List (DataW H)) (ps : List MemPlace), DataW.TrodAll enc P w 0 (fun _ => true) true ts args ds ps →
    (∀ t, t ∈ ts → P.readableRec t = true ∧ t < P.types.size) → (∀ x, x ∈ ps → x.block < w.heap.size) → DataW.TrodAll enc P w' 0 (fun b => decide (b < w.heap.size)) true ts args ds ps
  | [], args, ds, ps, h, _, _ => by
    cases args with
    | nil => cases ds with
      | nil => exact h
      | cons d ds => exact absurd h (by intro h; simp [DataW.TrodAll] at h)
    | cons a as => cases ds <;> exact absurd h (by intro h; simp [DataW.TrodAll] at h)
  | t :: ts, args, ds, ps, h, ht, hlt => by
    cases args with
    | nil => cases ds <;> exact absurd h (by intro h; simp [DataW.TrodAll] at h)
    | cons a as =>
      cases ds with
      | nil => exact absurd h (by intro h; simp [DataW.TrodAll] at h)
      | cons d ds =>
        simp only [DataW.TrodAll] at h ⊢
        obtain ⟨p, q, h1, h2, rfl⟩ := h
        obtain ⟨r1, r2⟩ := ht t List.mem_cons_self
        exact ⟨p, q, Below.trod hl r1 r2 h1 hb (fun x hx => hlt x (List.mem_append.2 (.inl hx))), trodAll_back hl hb ts as ds q h2 (fun t ht' => ht t (List.mem_cons_of_mem _ ht')) (fun x hx => hlt x (List.mem_append.2 (.inr hx))), rfl⟩
theorem trodAll_len : ∀ (ts : List TypeId) (args : List Value) (ds : List (DataW H)) (ps : List MemPlace), DataW.TrodAll enc P w 0 (fun _ => true) true ts args ds ps → ds.length = ts.length
  | [], args, ds, ps, h => by
    cases ds with
    | nil => rfl
    | cons d ds => cases args <;> exact absurd h (by intro h; simp [DataW.TrodAll] at h)
  | t :: ts, args, ds, ps, h => by
    cases args with
    | nil => cases ds <;> exact absurd h (by intro h; simp [DataW.TrodAll] at h)
    | cons a as =>
      cases ds with
      | nil => exact absurd h (by intro h; simp [DataW.TrodAll] at h)
      | cons d ds =>
        simp only [DataW.TrodAll] at h
        obtain ⟨p, q, h1, h2, rfl⟩ := h
        simp only [List.length_cons, trodAll_len ts as ds q h2]
end
/-- THE ROW'S WALK. -/
theorem law_lifted {H : Type} {enc : TypeId × Value → H} {C : Checked} {os : Os} {f : FuncId} {fn : Func} {s : ChangeSpec} {conds : List PathCond} {laid : List (String × DataW Unit)} {tb : TypeId}
    (hm : C.prog.follows .mixedOrders = true) (own : ownKnob C.prog.godebug = none) (started : os.Started) (noInit : C.prog.inits.idxOf? f = none) (hfn : C.prog.funcs[f]? = some fn)
    (witness : ∃ (w : World) (tape : Tape) (i : Input), w.os = os ∧ (w.forCall tape i).Shaped C.prog ∧ i.vars = [] ∧ Input.okWide C.prog (w.forCall tape i) .any w.heap.size f i ∧
      ((s.pre enc C.prog fn conds false (w.forCall tape i).memory i.args ∧ laidMetH C.prog laid (w.forCall tape i).memory) ∧ sizedMet enc C.prog fn (OpenSpec.ofChange s) false (w.forCall tape i).memory i.args) ∧ ({} : Assume).holds C.prog (lone (Frame.enter C.prog f i.args .normal) [] (w.forCall tape i)))
    (hs : ∀ ds : List (DataW H), ds.length = fn.params.size → s.fn H ds = { results := [.lit (.bool true)], args := ds }) (hsv : s.vars = [])
    (hres : fn.resultTypes = #[tb]) (htb : C.prog.underlying tb = some .bool) (hlo : laidOutB C.prog = true)
    (hpar : (fn.params.toList.all fun t => tyOK C.prog 6 t && C.prog.readableRec t && decide (t < C.prog.types.size)) = true)
    (law : ∀ W : World, laidMetH C.prog laid W → W.ShapedOpen C.prog → ∃ E : Prog, GRo E.glob ∧ PrimOK C.prog E ∧ PrimSc E ∧ (∀ f fd, E.fn f = some fd → FnChk C.prog f fd) ∧ GlobR (World.ctx W) E.glob ∧
      ∀ avs, ArgsOf C.prog fn.params.toList avs → callP E f avs = some (.v (.bool true))) :
    ReturnsInHanded {} C os f .any (fun w args => (s.pre enc C.prog fn conds false w args ∧ laidMetH C.prog laid w) ∧ sizedMet enc C.prog fn (OpenSpec.ofChange s) false w args) (s.post enc C.prog fn false true false false) := by
  refine returnsInHanded_of_calls own started noInit witness ?_
  intro w tape i _ hsh _ hok hpre _
  obtain ⟨_, _, _, fn', hfn', _, _, _, hsz, hval⟩ := hok
  have e : fn' = fn := Option.some.inj (hfn'.symm.trans hfn)
  subst e
  obtain ⟨⟨⟨ds, gs, before, hw, _⟩, hl⟩, _⟩ := hpre
  have hw' := DataW.Whole.of_heap (w' := w.forCall tape i) (by rfl) hw
  have hl' : laidMetH C.prog laid (w.forCall tape i) := hl.of_heap (by rfl)
  clear hw hl
  generalize hW : w.forCall tape i = W at *
  have hlt := hw'.lt
  have hWh := hw'
  obtain ⟨p, q, hA, hV, hb, _, _⟩ := hw'
  rw [hsv] at hV
  obtain ⟨rfl, rfl⟩ := trodVars_none hV
  have hpar' := List.all_eq_true.1 hpar
  simp only [Bool.and_eq_true, decide_eq_true_eq] at hpar'
  obtain ⟨avs, a1, a2⟩ := args_of fn'.params.toList i.args.toList ds p hA (fun t ht => (hpar' t ht).1.1) fun j t v h1 h2 => hval j t v (by simpa using h1) (by simpa using h2)
  obtain ⟨E, e1, e2, e3, e4, e5, e6⟩ := law W hl' hsh
  have hc := law_calls hm e1 e2 e3 e4 (e6 avs a1) e5 a2
  have hlen : ds.length = fn'.params.size := by
    have := trodAll_len _ _ _ _ hA
    simpa using this
  refine Calls.mono (by simpa using hc) ?_
  rintro e w' ⟨rfl, bel⟩
  have e0 := hs (ds ++ []) (by simpa using hlen)
  rw [List.append_nil] at hb
  subst hb
  refine ChangeSpec.post_blind ⟨ds, [], before, [], before, [], hWh, ?_, ?_, ?_, bel.frame _, fun h => by cases h⟩
  · rw [e0, hres]
    exact trodAll_mk1 (shut_bool htb _)
  · rw [e0, List.append_nil]
    exact trodAll_back hlo bel _ _ _ _ hA (fun t ht => ⟨(hpar' t ht).1.2, (hpar' t ht).2⟩) hlt
  · rw [e0, hsv]; exact rfl
end Go.Proofs.YtbpndomfipdhdaaDoor.Ev
