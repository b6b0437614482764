/-
  Operations that turn no memory: loads, slices, lengths.
-/
import Derived.Test.YtgehbkdpodnajaaDoorEvPrimB
import Derived.Laws.Cells
set_option linter.unusedVariables false
set_option linter.unusedSimpArgs false
namespace Go.Proofs.YtgehbkdpodnajaaDoor.Ev
open Go.RowKit
theorem flat_get {α : Type} {e : Nat} : ∀ {xs : List (List α)}, (∀ c, c ∈ xs → c.length = e) → ∀ (i j : Nat) (c : List α), xs[i]? = some c → j < e → xs.flatten[i * e + j]? = c[j]?
  | [], _, i, j, c, h, _ => by simp at h
  | x :: xs, hl, 0, j, c, h, hj => by
    simp at h; subst h
    have := hl x (by simp)
    simp only [List.flatten_cons, Nat.zero_mul, Nat.zero_add]
    rw [List.getElem?_append_left (by omega)]
  | x :: xs, hl, i + 1, j, c, h, hj => by
    simp only [List.getElem?_cons_succ] at h
    have hx := hl x (by simp)
    simp only [List.flatten_cons]
    rw [List.getElem?_append_right (by rw [hx, Nat.add_mul]; omega), hx, show (i + 1) * e + j - e = i * e + j by rw [Nat.add_mul]; omega]
    exact flat_get (fun c hc => hl c (by simp [hc])) i j c h hj
theorem flat_len {α : Type} {e : Nat} : ∀ {xs : List (List α)}, (∀ c, c ∈ xs → c.length = e) → xs.flatten.length = xs.length * e
  | [], _ => by simp
  | x :: xs, h => by
    have := h x (by simp)
    simp only [List.flatten_cons, List.length_append, List.length_cons, this]
    rw [flat_len fun c hc => h c (by simp [hc]), Nat.add_mul]; omega

section
variable {P : Program} {G : Nat → Option (List AV)} {bases : List Nat} {C : Ctx} {e : Env} {a : Act}

/-- The cells of a row in the store, as the machine has them. -/
theorem row_cell {b o k g : Nat} {xs : List (List AV)} {nw : Bool} (h : ObR C b o (.row k g xs nw)) {i j : Nat} {c : List AV} {q : AV} (hi : xs[i]? = some c) (hj : c[j]? = some q) :
    ∃ v, C.w.cell? ⟨b, o + i * k + j, none⟩ = some v ∧ VR C q v ∧ v.oneCell' = true := by
  obtain ⟨ccs, t, h1, h2, h3, h4⟩ := h
  have hcl := h2 c (List.mem_of_getElem? hi)
  have hjl : j < k := by have := (List.getElem?_eq_some_iff.1 hj).1; omega
  have hil := (List.getElem?_eq_some_iff.1 hi).1
  obtain ⟨v, m1, m2, m3⟩ := VRs_get h4 (i * k + j) q (by rw [flat_get h2 i j c hi hjl]; exact hj)
  refine ⟨v, ?_, m2, m3⟩
  rw [List.getElem?_take] at m1
  split at m1
  · rw [List.getElem?_drop] at m1
    simp only [World.cell?, h1]
    simpa [Nat.add_assoc] using m1
  · cases m1
theorem ld_sound (hO : C.OK) {p : AV} {v : Value} {cs : List AV} (h : VR C p v) (hl : ldAt C.st p = some cs) :
    ∃ ad, v = .pointer (some ad) ∧ ad.spot = none ∧ ∀ i q, cs[i]? = some q → ∃ c, C.w.cell? (ad.add i) = some c ∧ VR C q c ∧ c.oneCell' = true := by
  cases p with
  | rop ds =>
    simp only [ldAt, Option.some.injEq] at hl; subst hl
    simp only [VR] at h
    obtain ⟨ad, rfl, hs, f⟩ := h
    refine ⟨ad, rfl, hs, fun i q hq => ?_⟩
    obtain ⟨c, m1, m2⟩ := VRat_get f i q hq
    rw [Nat.zero_add] at m1
    exact ⟨c, m1.1, m2⟩
  | ref id gen i off =>
    simp only [ldAt] at hl
    split at hl
    · rename_i ds hst
      split at hl
      · rename_i hgi
        simp only [Option.some.injEq] at hl; subst hl
        obtain ⟨b, o, hb, f1, ccs, t, f2, f3⟩ := hO.get hst
        simp only [VR] at h
        rcases h with ⟨cs', b', k1, k2, rfl⟩ | ⟨_, k, g, xs, nw, k1, _⟩
        · rw [hb] at k2; injection k2 with k2; injection k2 with k2 k3
          subst k2
          refine ⟨_, rfl, rfl, fun i q hq => ?_⟩
          rw [List.getElem?_drop] at hq
          obtain ⟨c, m1, m2⟩ := VRs_get f3 _ q hq
          refine ⟨c, ?_, m2⟩
          rw [add_plain]
          simp only [World.cell?, f2]
          simpa using m1
        · rw [hst] at k1; cases k1
      · cases hl
    · rename_i k g xs nw hst
      split at hl
      · rename_i hg
        subst hg
        split at hl
        · rename_i c hcc
          simp only [Option.some.injEq] at hl; subst hl
          obtain ⟨b, o, hb, f⟩ := hO.get hst
          simp only [VR] at h
          rcases h with ⟨cs', b', k1, k2, rfl⟩ | ⟨_, k', g', xs', nw', k1, k2, k3⟩
          · rw [hst] at k1; cases k1
          · rw [hst] at k1
            injection k1 with k1
            injection k1 with q1 q2 q3 q4
            subst q1; subst q2; subst q3
            obtain ⟨b', o', m1, rfl⟩ := k3 rfl
            rw [hb] at m1; injection m1 with m1; injection m1 with m1 m2
            subst m1; subst m2
            refine ⟨_, rfl, rfl, fun j q hq => ?_⟩
            rw [List.getElem?_drop] at hq
            obtain ⟨v, n1, n2⟩ := row_cell f hcc hq
            rw [add_plain, show o + i * k + off + j = o + i * k + (off + j) by omega]
            exact ⟨v, n1, n2⟩
        · cases hl
      · cases hl
    · cases hl
  | _ => simp [ldAt] at hl
theorem list_of {cs : List AV} {w : World} {ad : Addr} : (∀ i q, cs[i]? = some q → ∃ c, w.cell? (ad.add i) = some c ∧ VR C q c ∧ c.oneCell' = true) → ∀ n, n ≤ cs.length →
    ∃ vs : List Value, vs.length = n ∧ VRs C (cs.take n) vs ∧ ∀ (j : Nat) (v : Value), vs[j]? = some v → w.cell? (ad.add j) = some v := by
  intro h n
  induction n with
  | zero => intro _; exact ⟨[], rfl, by simp [VRs], by simp⟩
  | succ n ih =>
    intro hn
    obtain ⟨vs, h1, h2, h3⟩ := ih (by omega)
    have hq : cs[n]? = some cs[n] := List.getElem?_eq_getElem (by omega)
    obtain ⟨c, m1, m2, m3⟩ := h n _ hq
    refine ⟨vs ++ [c], by simp [h1], ?_, fun j v hv => ?_⟩
    · rw [List.take_add_one, hq]
      exact VRs_append h2 (by simp [VRs, m2, m3])
    · rw [List.getElem?_append] at hv
      split at hv
      · exact h3 j v hv
      · rename_i hj
        have : j - vs.length = 0 := by
          rcases Nat.eq_zero_or_pos (j - vs.length) with h0 | h0
          · exact h0
          · rw [List.getElem?_eq_none (by simp; omega)] at hv; cases hv
        rw [this] at hv
        simp at hv; subst hv
        rw [show j = n by omega]; exact m1
/-- A load, of one cell or of several. -/
theorem run_loadVar {t : TypeId} {n : Option Nat} (hn : aggN P t = some n) {ad : Addr} {cs : List AV} {r : AV} (hs : ad.spot = none) (h : ∀ i q, cs[i]? = some q → ∃ c, C.w.cell? (ad.add i) = some c ∧ VR C q c ∧ c.oneCell' = true)
    (hr : aggOf n cs = some r) : ∃ x, (loadVar t ad).run P C.w = .ok x C.w ∧ VR C r x := by
  have ag : ∀ {i : TypeInfo} {d : TypeDesc}, P.underlying t = some d → aggD d = true → P.info? t = some i → n = some i.size → ∃ x, (loadVar t ad).run P C.w = .ok x C.w ∧ VR C r x := by
    intro i d hu hd hi hni
    subst hni
    simp only [aggOf] at hr
    split at hr
    · rename_i hle
      simp only [Option.some.injEq] at hr; subst hr
      obtain ⟨vs, h1, h2, h3⟩ := list_of h _ hle
      refine ⟨.agg vs.toArray, ?_, by simp only [VR]; exact ⟨_, rfl, by simpa using h2⟩⟩
      have := run_loadCells_list (P := P) C.w ad vs h3
      rw [h1] at this
      simp [loadVar, run_isAgg hu, hd, run_sizeOf' hi, this]
    · cases hr
  unfold aggN at hn
  split at hn
  · rename_i fs hu
    simp only [Option.bind_eq_some_iff, Option.some.injEq] at hn
    obtain ⟨i, hi, hn⟩ := hn
    exact ag hu rfl hi hn.symm
  · rename_i k q hu
    simp only [Option.bind_eq_some_iff, Option.some.injEq] at hn
    obtain ⟨i, hi, hn⟩ := hn
    exact ag hu rfl hi hn.symm
  · rename_i d h1 h2 hu
    simp only [Option.some.injEq] at hn; subst hn
    cases cs with
    | nil => simp [aggOf] at hr
    | cons q qs =>
      simp only [aggOf, Option.some.injEq] at hr; subst hr
      obtain ⟨c, m1, m2, m3⟩ := h 0 q rfl
      have hd : aggD d = false := by cases d <;> first | rfl | (exact (h1 _ rfl).elim) | (exact (h2 _ _ rfl).elim)
      have m1' : C.w.cell? ad = some c := by
        rw [add_eq _ hs] at m1
        obtain ⟨b, o, s⟩ := ad
        cases hs
        exact m1
      exact ⟨c, by simp [loadVar, run_isAgg hu, hd, m1'], m2⟩
  · cases hn
theorem ps_load {t : TypeId} {n : Option Nat} {x : Operand} {p : Prim} (hn : aggN P t = some n) (hc : ((cOpd x).bind fun x => some (Prim.load n x)) = some p) : PS P G bases (.load t x) p := by
  intro C e a oo r st' hoo hO hg hE h
  simp only [Option.bind_eq_some_iff, Option.some.injEq] at hc
  obtain ⟨y, h1, rfl⟩ := hc
  simp only [Prim.ev] at h
  obtain ⟨z, k1, h⟩ := ev1 h
  split at h
  · rename_i cs k2
    split at h
    · rename_i r1 k3
      simp only [Option.some.injEq, Prod.mk.injEq] at h
      obtain ⟨rfl, rfl⟩ := h
      obtain ⟨ad, e1, hs, f⟩ := ld_sound hO (cOpd_ok h1 hg hE k1) k2
      obtain ⟨v, m1, m2⟩ := run_loadVar hn hs f k3
      exact Does.stay hO (x := v) (by simp [execOp, hoo, e1, Instr.loadAt, Instr.sureAddr, m1]) m2
    · cases h
  · cases h

theorem run_equal_nil {t el : TypeId} (hu : P.underlying t = some (.pointer el)) (b : Option Addr) (w : World) : (Op.equal t (.pointer b) (.pointer none)).run P w = .ok b.isNone w := by
  have key : ∀ d, (Op.equalIn (d + 1) t (.pointer b) (.pointer none)).run P w = .ok b.isNone w := by
    intro d
    cases b <;> simp [Op.equalIn, run_underlying hu]
  exact key 9999
theorem ps_isnil {neg : Bool} {op : BinOp} {t yt el : TypeId} {x : Operand} {p : Prim} (hu : P.underlying t = some (.pointer el)) (hop : op = (if neg then .neq else .eql)) (hc : ((cOpd x).bind fun x => some (Prim.isnil neg x)) = some p) : PS P G bases (.binOp op t x (.const (.pointer none)) yt) p := by
  intro C e a oo r st' hoo hO hg hE h
  simp only [Option.bind_eq_some_iff, Option.some.injEq] at hc
  obtain ⟨y, h1, rfl⟩ := hc
  have hrun : ∀ b, a.eval x = .pointer b → (execOp a.eval oo).run P C.w = .ok (.value (.bool (if neg then !b.isNone else b.isNone))) C.w := by
    intro b e1
    have e2 : a.eval (.const (.pointer none)) = .pointer none := rfl
    simp only [execOp, hoo, e1, e2, Sem.run_bind, run_eqGuard_one (show Value.pointer b ≠ .nilIface by simp) rfl, Result.andThen_ok]
    cases neg <;> simp at hop <;> subst hop <;> simp [binOp, run_equal_nil hu]
  simp only [Prim.ev] at h
  split at h
  · rename_i id g i o k1
    split at h
    · rename_i hl
      simp only [Option.some.injEq, Prod.mk.injEq] at h
      obtain ⟨rfl, rfl⟩ := h
      obtain ⟨b, o', k, _, e1, _⟩ := VR_ref (cOpd_ok h1 hg hE k1) hl
      refine Does.stay hO (hrun _ e1) ?_
      cases neg <;> exact VR_v rfl
    · cases h
  · rename_i k1
    simp only [Option.some.injEq, Prod.mk.injEq] at h
    obtain ⟨rfl, rfl⟩ := h
    have e1 := VR_plain (cOpd_ok h1 hg hE k1)
    refine Does.stay hO (hrun _ e1) ?_
    cases neg <;> exact VR_v rfl
  · cases h
theorem run_equal_nils {t el : TypeId} (hu : P.underlying t = some (.slice el)) (b : Option Addr) (n c : Nat) (w : World) : (Op.equal t (.slice b n c) (.slice none 0 0)).run P w = .ok b.isNone w := by
  have key : ∀ d, (Op.equalIn (d + 1) t (.slice b n c) (.slice none 0 0)).run P w = .ok b.isNone w := by
    intro d
    cases b <;> simp [Op.equalIn, run_underlying hu]
  exact key 9999
theorem ps_isnils {neg : Bool} {op : BinOp} {t yt el : TypeId} {x : Operand} {p : Prim} (hu : P.underlying t = some (.slice el)) (hop : op = (if neg then .neq else .eql)) (hc : ((cOpd x).bind fun x => some (Prim.isnils neg x)) = some p) : PS P G bases (.binOp op t x (.const (.slice none 0 0)) yt) p := by
  intro C e a oo r st' hoo hO hg hE h
  simp only [Option.bind_eq_some_iff, Option.some.injEq] at hc
  obtain ⟨y, h1, rfl⟩ := hc
  have hrun : ∀ b n c, a.eval x = .slice b n c → (execOp a.eval oo).run P C.w = .ok (.value (.bool (if neg then !b.isNone else b.isNone))) C.w := by
    intro b n c e1
    have e2 : a.eval (.const (.slice none 0 0)) = .slice none 0 0 := rfl
    simp only [execOp, hoo, e1, e2, Sem.run_bind, run_eqGuard_one (show Value.slice b n c ≠ .nilIface by simp) rfl, Result.andThen_ok]
    cases neg <;> simp at hop <;> subst hop <;> simp [binOp, run_equal_nils hu]
  simp only [Prim.ev] at h
  split at h
  · rename_i k1
    simp only [Option.some.injEq, Prod.mk.injEq] at h
    obtain ⟨rfl, rfl⟩ := h
    have e1 := VR_plain (cOpd_ok h1 hg hE k1)
    refine Does.stay hO (hrun _ _ _ e1) ?_
    cases neg <;> exact VR_v rfl
  · rename_i el' xs k1
    simp only [Option.some.injEq, Prod.mk.injEq] at h
    obtain ⟨rfl, rfl⟩ := h
    have hv := cOpd_ok h1 hg hE k1
    simp only [VR] at hv
    obtain ⟨b, cap, e1, ⟨_, hs⟩, _⟩ := hv
    cases b with
    | none => cases hs
    | some b =>
      refine Does.stay hO (hrun _ _ _ e1) ?_
      cases neg <;> exact VR_v rfl
  · rename_i id g off ln k1
    split at h
    · rename_i e' g' xs nw k2
      split at h
      · rename_i hgg
        subst hgg
        simp only [Option.some.injEq, Prod.mk.injEq] at h
        obtain ⟨rfl, rfl⟩ := h
        have hv := cOpd_ok h1 hg hE k1
        simp only [VR] at hv
        obtain ⟨_, e2, g2, xs2, nw2, h3, _, h5⟩ := hv
        rw [k2] at h3
        cases h3
        obtain ⟨b, o, cap, t', n', ad, _, ⟨e1, _⟩, _⟩ := h5 rfl
        refine Does.stay hO (hrun _ _ _ e1) ?_
        cases neg <;> exact VR_v rfl
      · cases h
    · cases h
  · cases h
theorem ps_mkf {f : FuncId} {caps : Array Operand} {p : Prim} (hc : ((cOpds caps.toList).bind fun l => some (Prim.mkf f l)) = some p) : PS P G bases (.makeFunc (.func f) #[] caps) p := by
  intro C e a oo r st' hoo hO hg hE h
  simp only [Option.bind_eq_some_iff, Option.some.injEq] at hc
  obtain ⟨l, h1, rfl⟩ := hc
  simp only [Prim.ev] at h
  split at h
  · rename_i rs k1
    simp only [Option.some.injEq, Prod.mk.injEq] at h
    obtain ⟨rfl, rfl⟩ := h
    have f1 := cOpds_ok h1 hg hE k1
    refine Does.stay hO (x := .func (.func f) #[] (caps.map a.eval)) (by simp [execOp, hoo, Instr.makeFunc]) ?_
    simp only [VR]
    exact ⟨_, rfl, by simpa using f1⟩
  · cases h

theorem intOf_v {z : AV} {n : Int} (h : intOf z = some n) : ∃ k, z = .v (.int k n) := by
  unfold intOf at h
  split at h
  · rename_i k m; simp only [Option.some.injEq] at h; subst h; exact ⟨k, rfl⟩
  · cases h
/-- The bounds of a slice expression, as the evaluator takes them. -/
theorem evo_ok {o : Option Operand} {x : Option Opd} (hc : cOpdo o = some x) (hg : GlobR C G) (hE : EnvR C e a) {r : Option AV} (h : Opd.evo G e x = some r) (hi : (r.all fun z => (intOf z).isSome) = true) :
    (o = none ∧ r = none) ∨ ∃ y k n, o = some y ∧ a.eval y = .int k n ∧ r.bind intOf = some n := by
  cases o with
  | none =>
    simp only [cOpdo, Option.some.injEq] at hc; subst hc
    simp only [Opd.evo, Option.some.injEq] at h; subst h
    exact .inl ⟨rfl, rfl⟩
  | some y =>
    simp only [cOpdo, Option.bind_eq_some_iff, Option.some.injEq] at hc
    obtain ⟨z, h1, rfl⟩ := hc
    simp only [Opd.evo] at h
    split at h
    · rename_i q k1
      simp only [Option.some.injEq] at h; subst h
      simp only [Option.all_some] at hi
      obtain ⟨n, hn⟩ := Option.isSome_iff_exists.1 hi
      obtain ⟨k, rfl⟩ := intOf_v hn
      refine .inr ⟨y, k, n, rfl, VR_plain (cOpd_ok h1 hg hE k1), by simp [hn]⟩
    · cases h
theorem run_bounds {sl : Bool} {len cap : Nat} {lo hi : Option Operand} {l h : Option AV} {n m : Int}
    (hl : (lo = none ∧ l = none) ∨ ∃ y k n, lo = some y ∧ a.eval y = .int k n ∧ l.bind intOf = some n)
    (hh : (hi = none ∧ h = none) ∨ ∃ y k n, hi = some y ∧ a.eval y = .int k n ∧ h.bind intOf = some n)
    (hb : aszI (h.bind intOf) len = n) (ha : aszI (l.bind intOf) 0 = m) (b0 : 0 ≤ n) (b1 : n ≤ len) (b2 : 0 ≤ m) (b3 : m ≤ n) (hlc : len ≤ cap) (w : World) :
    (Instr.sliceBounds sl len cap (lo.map a.eval) (hi.map a.eval) none).run P w = .ok (m.toNat, n.toNat, cap) w := by
  have hq : ∀ (k : IntKind) (i : Int) (y : Nat) (code : BoundsCode), 0 ≤ i → i ≤ y → (Instr.sliceBound (.int k i) y code).run P w = .ok i.toNat w := by
    intro k i y code h0 h1
    simp [Instr.sliceBound, asIntOf, h0, h1]
  unfold Instr.sliceBounds
  rcases hh with ⟨rfl, rfl⟩ | ⟨y, k, n', rfl, e1, e2⟩ <;> rcases hl with ⟨rfl, rfl⟩ | ⟨z, k', m', rfl, f1, f2⟩
  · simp [aszI] at hb ha
    subst hb; subst ha
    simp
  · simp [aszI] at hb
    subst hb
    rw [f2] at ha
    simp [aszI] at ha
    subst ha
    simp [f1, hq _ _ _ _ b2 b3]
  · simp [aszI] at ha
    subst ha
    rw [e2] at hb
    simp [aszI] at hb
    subst hb
    simp [e1, hq _ _ _ _ b0 (show n' ≤ (cap : Int) by omega)]
  · rw [e2] at hb
    rw [f2] at ha
    simp [aszI] at ha hb
    subst ha; subst hb
    simp [e1, f1, hq _ _ _ _ b0 (show n' ≤ (cap : Int) by omega), hq _ _ _ _ b2 (show m' ≤ (n'.toNat : Int) by omega)]
theorem ps_sls {t : TypeId} {x : Operand} {lo hi : Option Operand} {p : Prim} (hu : P.underlying t = some .string)
    (hc : ((cOpd x).bind fun x => (cOpdo lo).bind fun lo => (cOpdo hi).bind fun hi => some (Prim.sls x lo hi)) = some p) : PS P G bases (.slice t x lo hi none) p := by
  intro C e a oo r st' hoo hO hg hE h
  simp only [Option.bind_eq_some_iff, Option.some.injEq] at hc
  obtain ⟨y, h1, lo', h2, hi', h3, rfl⟩ := hc
  simp only [Prim.ev] at h
  split at h
  · rename_i s k1
    split at h
    · rename_i l k2
      split at h
      · rename_i hh k3
        split at h
        · rename_i hq
          obtain ⟨q1, q2, q3, q4, q5, q6⟩ := hq
          simp only [Option.some.injEq, Prod.mk.injEq] at h
          obtain ⟨rfl, rfl⟩ := h
          have e1 := VR_plain (cOpd_ok h1 hg hE k1)
          have r1 := run_bounds (P := P) (sl := false) (cap := s.size) (evo_ok h2 hg hE k2 q1) (evo_ok h3 hg hE k3 q2) rfl rfl q3 q4 q5 q6 (Nat.le_refl _) C.w
          refine Does.stay hO (x := .string _) ?_ (VR_v rfl)
          simp [execOp, hoo, e1, Instr.sliceAt, run_underlying hu, Instr.slice, r1]
        · cases h
      · cases h
    · cases h
  · cases h
theorem ps_slx {t el : TypeId} {j : TypeInfo} {x : Operand} {lo hi : Option Operand} {p : Prim} (hu : P.underlying t = some (.slice el)) (hj : P.info? el = some j)
    (hc : ((cOpd x).bind fun x => (cOpdo lo).bind fun lo => (cOpdo hi).bind fun hi => some (Prim.slx j.size x lo hi)) = some p) : PS P G bases (.slice t x lo hi none) p := by
  intro C e a oo r st' hoo hO hg hE h
  simp only [Option.bind_eq_some_iff, Option.some.injEq] at hc
  obtain ⟨y, h1, lo', h2, hi', h3, rfl⟩ := hc
  simp only [Prim.ev] at h
  split at h
  · rename_i z k1
    split at h
    · rename_i l k2
      split at h
      · rename_i hh k3
        split at h
        · rename_i n k4
          split at h
          · rename_i hq
            obtain ⟨q1, q2, q3, q4, q5, q6⟩ := hq
            have e1 := cOpd_ok h1 hg hE k1
            have b1 := evo_ok h2 hg hE k2 q1
            have b2 := evo_ok h3 hg hE k3 q2
            have hrun : ∀ ao cap, a.eval x = .slice ao n cap → n ≤ cap → (execOp a.eval oo).run P C.w = .ok (.value (.slice (if cap = (aszI (l.bind intOf) 0).toNat then ao else ao.map (·.add ((aszI (l.bind intOf) 0).toNat * j.size))) ((aszI (hh.bind intOf) n).toNat - (aszI (l.bind intOf) 0).toNat) (cap - (aszI (l.bind intOf) 0).toNat))) C.w := by
              intro ao cap e2 hle
              have r1 := run_bounds (P := P) (sl := true) (cap := cap) b1 b2 rfl rfl q3 q4 q5 q6 hle C.w
              simp [execOp, hoo, e2, Instr.sliceAt, run_underlying hu, Instr.slice, r1, run_sizeOf' hj]
            split at h
            · rename_i k' xs
              split at h
              · rename_i hk
                subst hk
                simp only [Option.some.injEq, Prod.mk.injEq] at h
                obtain ⟨rfl, rfl⟩ := h
                simp only [lenAV, Option.some.injEq] at k4; subst k4
                simp only [VR] at e1
                obtain ⟨ao, cap, e1, ⟨hle, hsome⟩, f1⟩ := e1
                refine Does.stay hO (hrun ao cap e1 hle) ?_
                generalize hL : (aszI (l.bind intOf) 0).toNat = L
                generalize hH : (aszI (hh.bind intOf) xs.length).toNat = H
                have hlen : ((xs.drop L).take (H - L)).length = H - L := by simp; omega
                simp only [VR]
                refine ⟨_, _, by rw [hlen], ⟨by rw [hlen]; omega, by split <;> simpa using hsome⟩, VRrow_mk fun i c hcc => ?_⟩
                rw [List.getElem?_take] at hcc
                split at hcc
                · rename_i hi
                  rw [List.getElem?_drop] at hcc
                  obtain ⟨m1, ad, rfl, hs, m2⟩ := VRrow_get f1 _ c hcc
                  refine ⟨m1, _, by rw [if_neg (by omega)]; rfl, by show (ad.add _).spot = none; rw [add_eq _ hs], ?_⟩
                  refine VRat_mk fun k q hk => ?_
                  obtain ⟨v, n1, n2⟩ := VRat_get m2 k q hk
                  rw [add_add _ hs]
                  refine ⟨v, ?_, n2⟩
                  rw [show L * j.size + ((0 + i) * j.size + k) = (0 + (L + i)) * j.size + k by rw [Nat.zero_add, Nat.zero_add, Nat.add_mul]; omega]
                  exact n1
                · cases hcc
              · cases h
            · rename_i id gen off ln
              split at h
              · rename_i k' g xs nw hst
                split at h
                · rename_i hkg
                  obtain ⟨rfl, rfl⟩ := hkg
                  simp only [Option.some.injEq, Prod.mk.injEq] at h
                  obtain ⟨rfl, rfl⟩ := h
                  simp only [lenAV, hst, if_true, Option.some.injEq] at k4; subst k4
                  obtain ⟨b, o, cap, t', n, ad, p1, ⟨p2, pa⟩, p3, p4, p5, p6⟩ := VR_own e1 hst
                  refine Does.stay hO (hrun _ cap p2 p3) ?_
                  generalize hL : (aszI (l.bind intOf) 0).toNat = L
                  generalize hH : (aszI (hh.bind intOf) ln).toNat = H
                  have hLH : L ≤ H ∧ H ≤ ln := by omega
                  by_cases hcl : cap = L
                  · rw [if_pos hcl]
                    simp only [VR]
                    refine ⟨rfl, j.size, g, xs, nw, hst, Nat.le_refl _, fun _ => ⟨b, o, cap - L, t', n, ad, p1, ⟨rfl, fun h0 => by omega⟩, by omega, p4, ?_, by omega⟩⟩
                    rw [show off + L + (cap - L) = off + cap by omega]; exact p5
                  · rw [if_neg hcl]
                    obtain rfl := pa (by omega)
                    simp only [Option.map_some, VR]
                    refine ⟨rfl, j.size, g, xs, nw, hst, Nat.le_refl _, fun _ => ⟨b, o, cap - L, t', n, _, p1, ⟨rfl, fun h0 => ?_⟩, by omega, p4, ?_, by omega⟩⟩
                    · rw [add_plain, Nat.add_mul]; congr 1; omega
                    · rw [show off + L + (cap - L) = off + cap by omega]; exact p5
                · cases h
              · cases h
            · rename_i k1'
              simp only [Option.some.injEq, Prod.mk.injEq] at h
              obtain ⟨rfl, rfl⟩ := h
              simp only [lenAV, Option.some.injEq] at k4; subst k4
              have e2 := VR_plain e1
              have hz := hrun none 0 e2 (Nat.le_refl _)
              rw [show (aszI (l.bind intOf) 0).toNat = 0 by omega, show (aszI (hh.bind intOf) ((0 : Nat) : Int)).toNat = 0 by omega, if_pos rfl] at hz
              exact Does.stay hO hz (VR_v rfl)
            · cases h
          · cases h
        · cases h
      · cases h
    · cases h
  · cases h
theorem ps_lens {t : TypeId} {x : Operand} {p : Prim} (hu : P.underlying t = some .string)
    (hc : ((cOpd x).bind fun x => some (Prim.lens x)) = some p) : PS P G bases (.call { callee := .builtin .len, args := #[x], argTypes := #[t] }) p := by
  intro C e a oo r st' hoo hO hg hE h
  simp only [Option.bind_eq_some_iff, Option.some.injEq] at hc
  obtain ⟨y, h1, rfl⟩ := hc
  simp only [Prim.ev] at h
  split at h
  · rename_i s k1
    simp only [Option.some.injEq, Prod.mk.injEq] at h
    obtain ⟨rfl, rfl⟩ := h
    have e1 := VR_plain (cOpd_ok h1 hg hE k1)
    exact Does.stay hO (x := .int .i64 s.size) (by simp [execOp, hoo, resolve, e1, invoke, builtin, Builtin.len_, run_underlying hu, goInt]) (VR_v rfl)
  · cases h
theorem ps_len {t el : TypeId} {x : Operand} {p : Prim} (hu : P.underlying t = some (.slice el))
    (hc : ((cOpd x).bind fun x => some (Prim.len x)) = some p) : PS P G bases (.call { callee := .builtin .len, args := #[x], argTypes := #[t] }) p := by
  intro C e a oo r st' hoo hO hg hE h
  simp only [Option.bind_eq_some_iff, Option.some.injEq] at hc
  obtain ⟨y, h1, rfl⟩ := hc
  have hrun : ∀ ao n cap, a.eval x = .slice ao n cap → (execOp a.eval oo).run P C.w = .ok (.value (.int .i64 n)) C.w := by
    intro ao n cap e1
    simp [execOp, hoo, resolve, e1, invoke, builtin, Builtin.len_, run_underlying hu, goInt]
  simp only [Prim.ev] at h
  obtain ⟨z, k1, h⟩ := ev1 h
  have e1 := cOpd_ok h1 hg hE k1
  split at h
  · rename_i n k2
    simp only [Option.some.injEq, Prod.mk.injEq] at h
    obtain ⟨rfl, rfl⟩ := h
    unfold lenAV at k2
    split at k2
    · simp only [Option.some.injEq] at k2; subst k2
      simp only [VR] at e1
      obtain ⟨ao, cap, e1, _⟩ := e1
      exact Does.stay hO (hrun _ _ _ e1) (VR_v rfl)
    · rename_i id gen off ln
      split at k2
      · rename_i k g xs nw hst
        split at k2
        · rename_i hg
          subst hg
          simp only [Option.some.injEq] at k2; subst k2
          obtain ⟨b, o, cap, t', n, ad, p1, ⟨p2, pa⟩, _⟩ := VR_own e1 hst
          exact Does.stay hO (hrun _ _ _ p2) (VR_v rfl)
        · cases k2
      · cases k2
    · simp only [Option.some.injEq] at k2; subst k2
      exact Does.stay hO (hrun _ _ _ (VR_plain e1)) (VR_v rfl)
    · rename_i id
      simp only [VR] at e1
      obtain ⟨es, b, o, q1, q2, _⟩ := e1
      obtain ⟨b', o', _, q3⟩ := hO.get q1
      exact q3.elim
    · cases k2
  · cases h

theorem vals_ok : ∀ {rs : List AV} {cs : List Value} {vs : List Value}, VRt C rs cs → vals rs = some vs → cs = vs
  | [], cs, vs, h, k => by
    simp only [VRt] at h
    simp only [vals, Option.some.injEq] at k
    rw [h, ← k]
  | r :: rs, cs, vs, h, k => by
    simp only [VRt] at h
    obtain ⟨c, q, rfl, h1, h2⟩ := h
    cases r <;> simp only [vals, reduceCtorEq] at k
    split at k
    · rename_i l hl
      simp only [Option.some.injEq] at k; subst k
      rw [VR_plain h1, vals_ok h2 hl]
    · cases k
theorem minF_run {k : IntKind} (w : World) : ∀ {x : Int} {l : List Value} {r : Value}, minF k x l = some r → (l.foldlM Builtin.min2 (Value.int k x)).run P w = .ok r w ∧ r.oneCell' = true
  | x, [], r, h => by simp only [minF, Option.some.injEq] at h; subst h; exact ⟨rfl, rfl⟩
  | x, v :: l, r, h => by
    cases v <;> simp only [minF, reduceCtorEq] at h
    have := minF_run w h
    simp only [List.foldlM_cons, Builtin.min2, Sem.run_bind, Sem.run_pure, Result.andThen_ok]
    exact this
theorem maxF_run {k : IntKind} (w : World) : ∀ {x : Int} {l : List Value} {r : Value}, maxF k x l = some r → (l.foldlM Builtin.max2 (Value.int k x)).run P w = .ok r w ∧ r.oneCell' = true
  | x, [], r, h => by simp only [maxF, Option.some.injEq] at h; subst h; exact ⟨rfl, rfl⟩
  | x, v :: l, r, h => by
    cases v <;> simp only [maxF, reduceCtorEq] at h
    have := maxF_run w h
    simp only [List.foldlM_cons, Builtin.max2, Sem.run_bind, Sem.run_pure, Result.andThen_ok]
    exact this
theorem ps_mn {xs : Array Operand} {ts : Array TypeId} {p : Prim} (hc : ((cOpds xs.toList).bind fun l => some (Prim.mn l)) = some p) : PS P G bases (.call { callee := .builtin .min, args := xs, argTypes := ts }) p := by
  intro C e a oo r st' hoo hO hg hE h
  simp only [Option.bind_eq_some_iff, Option.some.injEq] at hc
  obtain ⟨l, h1, rfl⟩ := hc
  simp only [Prim.ev] at h
  split at h
  · rename_i rs k1
    split at h
    · rename_i vs k2
      split at h
      · rename_i z k3
        simp only [Option.some.injEq, Prod.mk.injEq] at h
        obtain ⟨rfl, rfl⟩ := h
        have e1 := vals_ok (cOpds_ok h1 hg hE k1) k2
        have e2 : (xs.map a.eval).toList = vs := by simpa using e1
        unfold minV at k3
        split at k3
        · rename_i k x q
          obtain ⟨m1, m2⟩ := minF_run (P := P) C.w k3
          refine Does.stay hO (x := z) ?_ (VR_v m2)
          simp [execOp, hoo, resolve, invoke, builtin, Builtin.min_, e1, m1]
        · cases k3
      · cases h
    · cases h
  · cases h
theorem ps_mx {xs : Array Operand} {ts : Array TypeId} {p : Prim} (hc : ((cOpds xs.toList).bind fun l => some (Prim.mx l)) = some p) : PS P G bases (.call { callee := .builtin .max, args := xs, argTypes := ts }) p := by
  intro C e a oo r st' hoo hO hg hE h
  simp only [Option.bind_eq_some_iff, Option.some.injEq] at hc
  obtain ⟨l, h1, rfl⟩ := hc
  simp only [Prim.ev] at h
  split at h
  · rename_i rs k1
    split at h
    · rename_i vs k2
      split at h
      · rename_i z k3
        simp only [Option.some.injEq, Prod.mk.injEq] at h
        obtain ⟨rfl, rfl⟩ := h
        have e1 := vals_ok (cOpds_ok h1 hg hE k1) k2
        have e2 : (xs.map a.eval).toList = vs := by simpa using e1
        unfold maxV at k3
        split at k3
        · rename_i k x q
          obtain ⟨m1, m2⟩ := maxF_run (P := P) C.w k3
          refine Does.stay hO (x := z) ?_ (VR_v m2)
          simp [execOp, hoo, resolve, invoke, builtin, Builtin.max_, e1, m1]
        · cases k3
      · cases h
    · cases h
  · cases h
end
end Go.Proofs.YtgehbkdpodnajaaDoor.Ev
