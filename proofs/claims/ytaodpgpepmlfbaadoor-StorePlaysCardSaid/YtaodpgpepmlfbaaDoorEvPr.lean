/-
  The library functions that chapter 05 meets: ValidString; and two of the store's own, that go over its map: free, names.
-/
import Derived.Test.YtaodpgpepmlfbaaDoorEvStW
import Derived.Test.YtaodpgpepmlfbaaDoorEvSt1
set_option linter.unusedVariables false
set_option linter.unusedSimpArgs false
namespace Go.Proofs.YtaodpgpepmlfbaaDoor.Ev
open Go.RowKit Go.Proofs Go.Proofs.YtaodpgpepmlfbaaDoor.EvStW

def POK (P : Program) (G : Nat → Option (List AV)) (f : Nat) (p : List AV → Store → Option (AV × Store)) : Prop :=
  ∀ (xs : List AV) (C : Ctx) (r : AV) (st' : Store) (cargs : List Value), p xs C.st = some (r, st') → C.OK → GlobR C G → VRt C xs cargs → CallsF P f cargs C.w (Rets C r st')
def PKeep (p : List AV → Store → Option (AV × Store)) : Prop := ∀ xs st r st', p xs st = some (r, st') → st' = st
/-- unicode/utf8.ValidString -/
def pValid (xs : List AV) (st : Store) : Option (AV × Store) :=
  match xs with
  | [.v (.string s)] => if s.size ≤ 9223372036854775807 then some (.v (.bool (Lib.validD s.data.toList)), st) else none
  | _ => none
theorem keep_valid : PKeep pValid := by
  intro xs st r st' h
  unfold pValid at h
  split at h
  · split at h
    · cases h; rfl
    · cases h
  · cases h
def tabFirst : List Value := (List.range 256).map fun c => .int .u8 (Lib.firstT c)
def tabAcc : List Value := (List.range 32).map fun j => .int .u8 (if j % 2 = 0 then Lib.accLo (j / 2) else Lib.accHi (j / 2))
theorem ok_valid {G : Nat → Option (List AV)} (h0 : G 0 = some (tabFirst.map AV.v)) (h1 : G 1 = some (tabAcc.map AV.v)) : POK Tryd.prog G 39 pValid := by
  intro xs C r st' cargs h hO hg hv
  unfold pValid at h
  split at h
  · rename_i s
    split at h
    · rename_i hb
      cases h
      simp only [VRt] at hv
      obtain ⟨c, l, rfl, hc, rfl⟩ := hv
      have := VR_plain hc
      subst this
      have hT : Lib.Utf8Tabs 0 1 C.w := by
        refine ⟨fun c hc => glob_cell hg h0 (by simp [tabFirst, hc]), fun i hi => ⟨glob_cell hg h1 ?_, glob_cell hg h1 ?_⟩⟩
        · simp [tabAcc, show 2 * i < 32 by omega]
        · simp [tabAcc, show 2 * i + 1 < 32 by omega, show (2 * i + 1) % 2 = 1 by omega, show (2 * i + 1) / 2 = i by omega]
      exact calls_plain rfl hO Tryd.call39 (Tryd.utf8_ValidString s C.w hb hT)
    · cases h
  · cases h
/-! ### a store, as the machine has it -/
theorem keep_free : PKeep pFree := by
  intro xs st r st' h
  unfold pFree at h
  repeat' split at h
  all_goals first | (cases h; done) | (cases h; rfl)
theorem keep_names : PKeep pNames := by
  intro xs st r st' h
  unfold pNames at h
  repeat' split at h
  all_goals first | (cases h; done) | (cases h; rfl)
/-- The map of a store. -/
theorem store_ok {C : Ctx} (hO : C.OK) {id g m : Nat} {cap : Int} {rest : List AV} {es : List (Value × AV)} {l : List FX} {c : Value} (hv : VR C (.ref id g 0 0) c) (h1 : C.st[id]? = some (.box (.v (.int .i64 cap) :: .mp m :: rest))) (h2 : C.st[m]? = some (.map es)) (h3 : filesOf es = some l) :
    ∃ b bm en clock, c = .pointer (some ⟨b, 0, none⟩) ∧ C.w.cell? ⟨b, 0, none⟩ = some (.int .i64 cap) ∧ C.w.cell? ⟨b, 1, none⟩ = some (.map (some bm)) ∧ C.w.heap[bm]? = some (.map en clock) ∧ MapKept.Stamped en clock ∧
      en.toList.map (fun e => (e.key, e.val)) = l.map fun f => (.string f.n, .agg #[.string f.b, .int .i64 f.sf, .bool f.sy]) := by
  obtain ⟨b, o, hB, rfl, ccs, t, f2, f3⟩ := hO.get h1
  have hc : c = .pointer (some ⟨b, 0, none⟩) := by
    simp only [VR] at hv
    rcases hv with ⟨cs', b', k1, k2, e1⟩ | ⟨_, k, g, xs, nw, k1, _⟩
    · rw [hB] at k2; injection k2 with k2; injection k2 with k2 _; subst k2; exact e1
    · rw [h1] at k1; cases k1
  obtain ⟨c0, m1, m2, _⟩ := VRs_get f3 0 _ rfl
  obtain ⟨c1, n1, n2, _⟩ := VRs_get f3 1 _ rfl
  have := VR_plain m2
  subst this
  rcases mapOf_ok hO (m := .mp m) (es := es) n2 (by simp [mapOf, h2]) with ⟨e1, _⟩ | ⟨id', bm, o, en, clock, hid, e1, e2, e3, e4, e5, e6⟩
  · simp only [VR] at n2
    obtain ⟨_, _, _, _, _, n2⟩ := n2
    rw [e1] at n2; cases n2
  · subst e1
    refine ⟨b, bm, en, clock, hc, ?_, ?_, e4, e6, ?_⟩
    · simp only [World.cell?, f2]; simpa using m1
    · simp only [World.cell?, f2]; simpa using n1
    · have hes := filesOf_eq h3
      subst hes
      obtain ⟨q1, q2⟩ := e5
      apply List.ext_getElem?
      intro i
      simp only [List.getElem?_map]
      cases hl : l[i]? with
      | none =>
        have : l.length ≤ i := by simpa using hl
        have : en.toList.length ≤ i := by rw [← q1]; simpa [mapF] using this
        rw [List.getElem?_eq_none this]; rfl
      | some f =>
        have hi := (List.getElem?_eq_some_iff.1 hl).1
        have hj : i < en.toList.length := by rw [← q1]; simpa [mapF] using hi
        have hm : (mapF l)[i]? = some (.string f.n, f.val) := by simp [mapF, hl]
        obtain ⟨g1, g2, g3⟩ := q2 i _ _ hm (List.getElem?_eq_getElem hj)
        rw [List.getElem?_eq_getElem hj]
        simp only [Option.map_some]
        congr 1
        refine Prod.ext g1 ?_
        simp only [FX.val, VR] at g3
        obtain ⟨ccs2, r1, r2⟩ := g3
        simp only [VRs] at r2
        obtain ⟨_, _, w1, ⟨v1, _⟩, _, _, w2, ⟨v2, _⟩, _, _, w3, ⟨v3, _⟩, w4⟩ := r2
        show en.toList[i].val = _
        rw [r1]
        have := VR_plain v1
        have := VR_plain v2
        have := VR_plain v3
        subst_vars
        congr 1
        exact Array.ext' (by rw [w1])
theorem ok_free {G : Nat → Option (List AV)} : POK Tryd.prog G 24 pFree := by
  intro xs C r st' cargs h hO hg hv
  unfold pFree at h
  split at h
  · rename_i id g
    split at h
    · rename_i cap m rest h1
      split at h
      · rename_i es h2
        split at h
        · rename_i l h3
          split at h
          · rename_i hq
            cases h
            simp only [VRt] at hv
            obtain ⟨c, l2, rfl, hc, rfl⟩ := hv
            obtain ⟨b, bm, en, clock, rfl, c1, c2, c3, c4, c5⟩ := store_ok hO hc h1 h2 h3
            have hsum : (en.toList.map fun e => szV e.val).sum = totF l := by
              have : (en.toList.map fun e => szV e.val) = l.map fun f => f.b.size := by
                have := congrArg (List.map fun p : Value × Value => szV p.2) c5
                rw [List.map_map, List.map_map] at this
                exact this
              rw [this]; rfl
            have := walk_free b bm cap en clock C.w c1 c2 c3 c4 (fun x hx => by
              have : (x.key, x.val) ∈ en.toList.map fun e => (e.key, e.val) := List.mem_map.2 ⟨x, hx, rfl⟩
              rw [c5] at this
              obtain ⟨f, _, hf⟩ := List.mem_map.1 this
              injection hf with _ hf
              exact ⟨_, _, _, hf.symm⟩) hq.1 hq.2.1 (by rw [hsum]; exact hq.2.2)
            rw [hsum] at this
            exact calls_plain rfl hO Tryd.call24 this
          · cases h
        · cases h
      · cases h
    · cases h
  · cases h
/-- Texts in a new row, wherever it lies. -/
theorem VR_sl_at {C : Ctx} (hO : C.OK) {w : World} (hb : Below C.w.heap.size C.w w) {l : List ByteArray} {ccs : Array Value} {t : TypeId} {fr : Nat × Nat} {cap g : Nat} (hg : C.w.heap.size ≤ g)
    (hw : w.heap[g]? = some (.cells ccs t fr)) (hc : l.length ≤ cap) (hv : ccs.toList.take l.length = l.map Value.string) : VR (C.at w) (.sl 1 (l.map nmC)) (.slice (some ⟨g, 0, none⟩) l.length cap) := by
  simp only [VR]
  refine ⟨some ⟨g, 0, none⟩, cap, by rw [List.length_map], ⟨by rw [List.length_map]; exact hc, rfl⟩, VRrow_mk fun i c hi => ?_⟩
  rw [List.getElem?_map, Option.map_eq_some_iff] at hi
  obtain ⟨n, hi, rfl⟩ := hi
  refine ⟨rfl, _, rfl, rfl, VRat_mk fun j q hj => ?_⟩
  have hj0 : j = 0 := by
    have := (List.getElem?_eq_some_iff.1 hj).1
    simp [nmC] at this; exact this
  subst hj0
  obtain rfl : AV.v (.string n) = q := Option.some.inj hj
  have hil := (List.getElem?_eq_some_iff.1 hi).1
  have hcell : ccs[i]? = some (.string n) := by
    have := congrArg (fun z => z[i]?) hv
    simp only [List.getElem?_take, if_pos hil, List.getElem?_map, hi, Option.map_some] at this
    simpa using this
  refine ⟨.string n, ⟨?_, ?_, fun hX => ?_⟩, VR_v rfl, rfl⟩
  · rw [add_plain]
    simp only [Ctx.at, World.cell?, hw]
    simpa using hcell
  · rw [add_plain]
    rintro ⟨i', o, ob, k1, k2, _⟩
    have := hO.lt k1
    simp at this
    omega
  · rw [add_plain] at hX
    have := hO.xlt _ _ hX
    simp at this
    omega
section
open Go.Maps Go.Sort Go.Shelf Go.WideElems
theorem strKeys_perm {en : Array MapEntry} {l : List FX} (h : en.toList.map (fun e => (e.key, e.val)) = l.map fun f => (Value.string f.n, Value.agg #[.string f.b, .int .i64 f.sf, .bool f.sy])) (hl : ∀ f, f ∈ l → f.n.size ≤ maxLen) :
    (∀ x ∈ en.toList, ∃ y, rd (H := Unit) Tryd.prog 9 (fun _ => some (.lit (.bool true), [])) x = some y) ∧
    (strKeys (H := Unit) (.map ((en.toList.map (rg Tryd.prog 9 (fun _ => some (.lit (.bool true), [])))).foldr DataW.insert []))).Perm (l.map fun f => kyB f.n) := by
  have key : ∀ x ∈ en.toList, ∃ f, f ∈ l ∧ x.key = .string f.n ∧ rd (H := Unit) Tryd.prog 9 (fun _ => some (.lit (.bool true), [])) x = some (.string f.n.data.toList, .lit (.bool true)) := fun x hx => by
    have : (x.key, x.val) ∈ en.toList.map fun e => (e.key, e.val) := List.mem_map.2 ⟨x, hx, rfl⟩
    rw [h] at this
    obtain ⟨f, hf, e⟩ := List.mem_map.1 this
    injection e with e1 e2
    refine ⟨f, hf, e1.symm, ?_⟩
    have := Go.WideMaps.keyOf_string_mk (P := Tryd.prog) Tryd.underlying9 (hl f hf)
    rw [e1] at this
    unfold WideElems.rd
    rw [this]; rfl
  refine ⟨fun x hx => by obtain ⟨f, _, _, h3⟩ := key x hx; exact ⟨_, h3⟩, ?_⟩
  have h1 := (WideShapes.sorted_perm (en.toList.map (rg (H := Unit) Tryd.prog 9 (fun _ => some (.lit (.bool true), []))))).map (fun p => strOf p.1)
  refine List.Perm.trans h1 ?_
  rw [List.map_map]
  have h2 : en.toList.map ((fun p : Lit × DataW Unit => strOf p.1) ∘ rg (H := Unit) Tryd.prog 9 (fun _ => some (.lit (.bool true), []))) = l.map fun f => kyB f.n := by
    have h3 : (en.toList.map fun e => e.key) = l.map fun f => Value.string f.n := by
      have := congrArg (List.map Prod.fst) h
      rw [List.map_map, List.map_map] at this
      exact this
    have h4 := congrArg (List.map fun v : Value => match v with | .string n => kyB n | _ => []) h3
    simp only [List.map_map] at h4
    refine Eq.trans (List.map_congr_left fun x hx => ?_) h4
    obtain ⟨f, _, k1, k2⟩ := key x hx
    simp only [Function.comp, k1, rg, k2, Option.getD_some, strOf, kyB]
  rw [h2]
theorem ok_names {G : Nat → Option (List AV)} : POK Tryd.prog G 27 pNames := by
  intro xs C r st' cargs h hO hg hv
  unfold pNames at h
  split at h
  · rename_i id g
    split at h
    · rename_i cap m rest h1
      split at h
      · rename_i es h2
        split at h
        · rename_i l h3
          split at h
          · rename_i hq
            cases h
            simp only [VRt] at hv
            obtain ⟨c, l2, rfl, hc, rfl⟩ := hv
            obtain ⟨b, bm, en, clock, rfl, c1, c2, c3, c4, c5⟩ := store_ok hO hc h1 h2 h3
            have hml : maxLen = 9223372036854775807 := by decide
            have hlen : en.toList.length = l.length := by have := congrArg List.length c5; simpa using this
            have hsz : en.size = l.length := by rw [← hlen]; simp
            obtain ⟨k1, k2⟩ := strKeys_perm c5 fun f hf => by
              have := List.all_eq_true.1 hq.2 f hf
              simp only [decide_eq_true_eq] at this
              omega
            have hown : C.w.ownsMap Tryd.prog 9 (fun _ => some (.lit (.bool true), [])) bm en.size (.map ((en.toList.map (rg (H := Unit) Tryd.prog 9 (fun _ => some (.lit (.bool true), [])))).foldr DataW.insert [])) :=
              ⟨en, clock, c3, ⟨by omega, c4, k1⟩, Nat.le_refl _, rfl⟩
            have hD : Maps.size (H := Unit) (.map ((en.toList.map (rg (H := Unit) Tryd.prog 9 (fun _ => some (.lit (.bool true), [])))).foldr DataW.insert [])) = l.length := by
              rw [Maps.size_eq, (WideShapes.sorted_perm _).length_eq, List.length_map, hlen]
            have W := walk_names b bm en.size _ _ C.w c2 hown (by rw [hD]; omega) (by rw [hD]; omega)
            refine ⟨Tryd.call27, Calls.mono W ?_⟩
            rintro e w' ⟨v, ss, rfl, hS, hrow, hnil, hb⟩
            have hp : ss.Perm (l.map fun f => kyB f.n) := hS.trans k2
            have hsort : ss.mergeSort (fun x y => decide (x ≤ y)) = (sortN (l.map FX.n)).map kyB := by
              refine List.Perm.eq_of_pairwise (le := fun a b => a ≤ b) (fun a b _ _ h1 h2 => List.le_antisymm h1 h2) ?_ ?_ ?_
              · have := List.pairwise_mergeSort (le := fun x y : List UInt8 => decide (x ≤ y)) (fun a b c h1 h2 => by simp only [decide_eq_true_eq] at *; exact List.le_trans h1 h2) (fun a b => by simp only [Bool.or_eq_true, decide_eq_true_eq]; exact List.le_total a b) ss
                exact this.imp fun h => of_decide_eq_true h
              · exact List.pairwise_map.2 (sortN_pw _)
              · refine (List.mergeSort_perm ss _).trans (hp.trans ?_)
                have := ((sortN_perm (l.map FX.n)).map kyB).symm
                rwa [List.map_map] at this
            have hsl : ss.length = (sortN (l.map FX.n)).length := by
              rw [hp.length_eq, (sortN_perm _).length_eq]; simp
            refine ⟨C.at w', rfl, ext_below hO hb, ok_below hO hb, rfl, ?_⟩
            obtain ⟨_, ⟨rfl, hn⟩ | ⟨g', cap', cur, rfl, g1, g2, g3, _, _, g4⟩⟩ := hrow
            · have : sortN (l.map FX.n) = [] := List.eq_nil_of_length_eq_zero (by omega)
              rw [this]
              exact VR_v rfl
            · have hne : sortN (l.map FX.n) ≠ [] := fun e => by
                rw [e] at hsl
                have := hnil.2 (List.eq_nil_of_length_eq_zero hsl)
                cases this
              rw [slOf_ne hne]
              rw [hsl] at g3 ⊢
              refine VR_sl_at hO hb g1 g2 g3 ?_
              rw [Nat.mul_one, hsl, hsort] at g4
              rw [g4, List.map_map]
              refine List.map_congr_left fun n _ => ?_
              simp only [Function.comp, encStr, kyB]
          · cases h
        · cases h
      · cases h
    · cases h
  · cases h
end
end Go.Proofs.YtaodpgpepmlfbaaDoor.Ev
