/-
  Operations that make memory: variables, literals.
-/
import Derived.Test.YtgehbkdpodnajaaDoorEvPrimC
import Derived.Laws.Append
set_option linter.unusedVariables false
set_option linter.unusedSimpArgs false
namespace Go.Proofs.YtgehbkdpodnajaaDoor.Ev
open Go.RowKit
section
variable {P : Program} {G : Nat → Option (List AV)} {bases : List Nat} {C : Ctx} {e : Env} {a : Act}

theorem heap_push_at (w : World) (o : Obj) : (w.alloc o).heap[w.heap.size]? = some o := by
  show (w.heap.push o)[w.heap.size]? = some o
  simp
theorem below_alloc (w : World) (o : Obj) : Below w.heap.size w (w.alloc o) := (Below.refl _ _).alloc (Nat.le_refl _) o
theorem zero_run {t : TypeId} {z : List AV} (h : zeroC P t = some z) : ∃ x, (∀ w, (zeroValue t).run P w = .ok x w) ∧ z = (ofVal x).cells ∧ okC x = true := by
  unfold zeroC at h
  simp only [Option.bind_eq_some_iff] at h
  obtain ⟨i, hi, x, hx, h⟩ := h
  split at h
  · rename_i hq
    simp only [Option.some.injEq] at h
    refine ⟨x, fun w => ?_, h.symm, hq⟩
    simp [zeroValue, run_typeInfo w hi, hx]
  · cases h
theorem ofVal_tuple {x : Value} (h : okC x = true) : (ofVal x).tuple = false := by
  cases x <;> first | rfl | cases h
/-- A new variable. -/
theorem does_box {oo : Oper} (hO : C.OK) {cs : List AV} {ccs : Array Value} {t : TypeId} (hv : VRs C cs ccs.toList)
    (hr : (execOp a.eval oo).run P C.w = .ok (.value (.pointer (some ⟨C.w.heap.size, 0, none⟩))) (C.w.alloc (.cells ccs t))) : Does P a oo C (.ref C.st.length 0 0 0) (C.st ++ [.box cs]) := by
  have hx := ext_push hO (below_alloc C.w (.cells ccs t)) (o := 0) (.box cs) (Nat.le_refl C.w.heap.size)
  refine ⟨C.push (C.w.alloc (.cells ccs t)) C.w.heap.size 0 (.box cs), _, _, hr, .inl rfl, hx, ?_, rfl, ?_⟩
  · refine ok_push hO (below_alloc C.w _) (Nat.le_refl _) ?_
    exact ⟨rfl, ccs, t, heap_push_at C.w _, VRs_ext hx hv⟩
  · simp only [VR]
    exact .inl ⟨cs, C.w.heap.size, push_st, push_B hO, rfl⟩
theorem ps_alloc {t : TypeId} {p : Prim} (hc : ((zeroC P t).bind fun z => some (Prim.alloc z)) = some p) : PS P G bases (.alloc t) p := by
  intro C e a oo r st' hoo hO hg hE h
  simp only [Option.bind_eq_some_iff, Option.some.injEq] at hc
  obtain ⟨z, h1, rfl⟩ := hc
  simp only [Prim.ev, Option.some.injEq, Prod.mk.injEq] at h
  obtain ⟨rfl, rfl⟩ := h
  obtain ⟨x, hx, rfl, hq⟩ := zero_run h1
  refine does_box hO (VR_cells (VR_ofVal hq) (ofVal_tuple hq)) (t := t) ?_
  simp only [execOp, hoo, Instr.alloc, Sem.run_bind, hx, Result.andThen_ok, newVar, newRow, run_newObj, Sem.run_pure]
  rfl
theorem ps_box {t : TypeId} {x : Operand} {p : Prim} (hc : ((cOpd x).bind fun x => some (Prim.box x)) = some p) : PS P G bases (.box t x) p := by
  intro C e a oo r st' hoo hO hg hE h
  simp only [Option.bind_eq_some_iff, Option.some.injEq] at hc
  obtain ⟨y, h1, rfl⟩ := hc
  simp only [Prim.ev] at h
  obtain ⟨z, k1, h⟩ := ev1 h
  split at h
  · cases h
  · rename_i ht
    simp only [Option.some.injEq, Prod.mk.injEq] at h
    obtain ⟨rfl, rfl⟩ := h
    refine does_box hO (VR_cells (cOpd_ok h1 hg hE k1) (by simpa using ht)) (t := t) ?_
    simp only [execOp, hoo, Instr.box, Sem.run_bind, Result.andThen_ok, newVar, newRow, run_newObj, Sem.run_pure]
    rfl

/-! literals -/
theorem foldl_put (off : Nat) : ∀ (vs : List Value) (k : Nat) (cs : Array Value), off + k + vs.length ≤ cs.size →
    ((vs.zipIdx k).foldl (fun (cs : Array Value) (p : Value × Nat) => cs.setIfInBounds (off + p.2) p.1) cs).toList = cs.toList.take (off + k) ++ vs ++ cs.toList.drop (off + k + vs.length)
  | [], k, cs, h => by simp
  | v :: vs, k, cs, h => by
    simp only [List.length_cons] at h
    rw [List.zipIdx_cons, List.foldl_cons, foldl_put off vs (k + 1) _ (by simp; omega)]
    simp only [Array.toList_setIfInBounds, List.length_cons]
    have hl : off + k < cs.toList.length := by simp; omega
    rw [List.drop_set_of_lt (by omega)]
    rw [show off + (k + 1) = off + k + 1 by omega]
    rw [List.take_set]
    rw [show off + k + (vs.length + 1) = off + k + 1 + vs.length by omega]
    congr 1
    rw [List.append_cons]
    congr 1
    rw [List.take_add_one, List.getElem?_eq_getElem hl]
    have hm : (cs.toList.take (off + k)).length = off + k := by rw [List.length_take]; omega
    rw [List.set_append_right _ _ (by omega), hm]
    simp
theorem fold_cells (off : Nat) (v : Value) (cs : Array Value) (h : off + v.cells.size ≤ cs.size) :
    (v.cells.zipIdx.foldl (fun (cs : Array Value) (p : Value × Nat) => cs.setIfInBounds (off + p.2) p.1) cs).toList = cs.toList.take off ++ v.cells.toList ++ cs.toList.drop (off + v.cells.size) := by
  rw [← Array.foldl_toList, Array.toList_zipIdx]
  have := foldl_put off v.cells.toList 0 cs (by simpa using h)
  simpa using this
theorem fill_cons (place : Nat → Option (Nat × Nat)) (cs : Array Value) (i : Nat) (v : Value) (rest : List (Nat × Value)) (off size : Nat) (hp : place i = some (off, size)) (hs : v.cells.size = size) (hl : off + v.cells.size ≤ cs.size) :
    ∃ cs' : Array Value, cs'.toList = cs.toList.take off ++ v.cells.toList ++ cs.toList.drop (off + v.cells.size) ∧ Instr.fill place cs ((i, v) :: rest) = Instr.fill place cs' rest := by
  refine ⟨_, fold_cells off v cs hl, ?_⟩
  rw [Instr.fill, hp]
  have : (decide (v.cells.size ≠ size) || decide (off + v.cells.size > cs.size)) = false := by simp [hs]; omega
  simp only [this, Bool.false_eq_true, if_false]
theorem VR_csize {x : AV} {c : Value} (h : VR C x c) (h2 : x.tuple = false) : c.cells.size = x.cells.length := by
  have := VRs_length (VR_cells h h2)
  simpa using this.symm
/-- The cells of a literal's parts, one behind the other. -/
theorem fill_row (size : Nat) : ∀ {l : List (Nat × Operand)} {xs : List Opd} {rs : List AV} {n : Nat} {cs : Array Value}, cRow n l = some xs → GlobR C G → EnvR C e a → Opd.evs G e xs = some rs →
    (∀ r, r ∈ rs → r.cells.length = size ∧ r.tuple = false) → (n + rs.length) * size ≤ cs.size →
    ∃ cs', Instr.fill (fun i => some (i * size, size)) cs (l.map fun p => (p.1, a.eval p.2)) = some cs' ∧ ∃ mid, cs'.toList = cs.toList.take (n * size) ++ mid ++ cs.toList.drop ((n + rs.length) * size) ∧ VRs C (rs.map AV.cells).flatten mid
  | [], xs, rs, n, cs, hc, hg, hE, h, hr, hl => by
    simp only [cRow, Option.some.injEq] at hc; subst hc
    simp only [Opd.evs, Option.some.injEq] at h; subst h
    exact ⟨cs, by simp [Instr.fill], [], by simp, by simp [VRs]⟩
  | (i, x) :: l, xs, rs, n, cs, hc, hg, hE, h, hr, hl => by
    simp only [cRow] at hc
    split at hc
    · rename_i hi
      subst hi
      simp only [Option.bind_eq_some_iff, Option.some.injEq] at hc
      obtain ⟨y, h1, ys, h2, rfl⟩ := hc
      simp only [Opd.evs] at h
      cases k1 : y.ev G e with
      | none => rw [k1] at h; cases h
      | some r =>
        rw [k1] at h
        dsimp only at h
        cases k2 : Opd.evs G e ys with
        | none => rw [k2] at h; cases h
        | some rs' =>
          rw [k2] at h
          simp only [Option.some.injEq] at h; subst h
          obtain ⟨hs, ht⟩ := hr r (by simp)
          have hv := cOpd_ok h1 hg hE k1
          have hcs := VR_csize hv ht
          simp only [List.length_cons, Nat.add_mul] at hl
          obtain ⟨cs1, q1, q2⟩ := fill_cons (fun i => some (i * size, size)) cs i (a.eval x) (l.map fun p => (p.1, a.eval p.2)) (i * size) size rfl (by omega) (by omega)
          have hcs1 : cs1.size = cs.size := by
            rw [← Array.length_toList, q1]; simp; omega
          obtain ⟨cs', m1, mid, m2, m3⟩ := fill_row size (cs := cs1) h2 hg hE k2 (fun r hr' => hr r (by simp [hr'])) (by rw [hcs1]; simp only [Nat.add_mul]; omega)
          refine ⟨cs', by simp only [List.map_cons]; rw [q2]; exact m1, (a.eval x).cells.toList ++ mid, ?_, ?_⟩
          · rw [m2, q1]
            have e1 : (i + 1) * size = i * size + (a.eval x).cells.size := by rw [Nat.add_mul]; omega
            rw [e1]
            have l1 : (cs.toList.take (i * size)).length = i * size := by simp; omega
            rw [List.take_append_of_le_length (by simp; omega)]
            rw [List.take_of_length_le (by simp; omega)]
            rw [List.drop_append]
            have l2 : (cs.toList.take (i * size) ++ (a.eval x).cells.toList).length = i * size + (a.eval x).cells.size := by simp; omega
            rw [l2, List.drop_of_length_le (by rw [l2]; simp only [Nat.add_mul]; omega), List.drop_drop, List.nil_append, List.append_assoc, List.append_assoc, List.append_assoc]
            have e2 : i * size + (a.eval x).cells.size + ((i + 1 + rs'.length) * size - (i * size + (a.eval x).cells.size)) = (i + (rs'.length + 1)) * size := by
              have : (i + 1 + rs'.length) * size = (i + (rs'.length + 1)) * size := by congr 1; omega
              rw [this]
              have : i * size + (a.eval x).cells.size ≤ (i + (rs'.length + 1)) * size := by rw [hcs, hs, Nat.add_mul, Nat.add_mul]; omega
              omega
            rw [e2]; simp
          · simp only [List.map_cons, List.flatten_cons]
            exact VRs_append (VR_cells hv ht) m3
    · cases hc
/-- Cells of a new block are stable where no object of the store lies there. -/
theorem stable_new (hO : C.OK) {ccs : Array Value} {t : TypeId} {fr : Nat × Nat} {w : World} (hb : Below C.w.heap.size C.w w) (hw : w.heap[C.w.heap.size]? = some (.cells ccs t fr)) {j : Nat} {c : Value} (h : ccs[j]? = some c) :
    (C.at w).stable ⟨C.w.heap.size, j, none⟩ c := by
  refine ⟨by simp only [Ctx.at, World.cell?, hw]; simpa using h, ?_, fun hX => ?_⟩
  · rintro ⟨i, o, ob, k1, k2, _⟩
    have := hO.lt k1
    simp at this
  · have := hO.xlt _ _ hX
    simp at this
/-- Elements that lie one behind the other in a new block, as an immutable slice. -/
theorem VR_sl_new (hO : C.OK) {w : World} (hb : Below C.w.heap.size C.w w) {xs : List (List AV)} {k : Nat} (hx : ∀ c, c ∈ xs → c.length = k) {ccs : Array Value} {t : TypeId} {fr : Nat × Nat} {cap : Nat}
    (hw : w.heap[C.w.heap.size]? = some (.cells ccs t fr)) (hc : xs.length ≤ cap) (hv : VRs C xs.flatten (ccs.toList.take (xs.length * k))) : VR (C.at w) (.sl k xs) (.slice (some ⟨C.w.heap.size, 0, none⟩) xs.length cap) := by
  simp only [VR]
  refine ⟨_, _, rfl, ⟨hc, rfl⟩, VRrow_mk fun i c hi => ⟨hx c (List.mem_of_getElem? hi), _, rfl, rfl, VRat_mk fun j q hj => ?_⟩⟩
  have hcl := hx c (List.mem_of_getElem? hi)
  have hjl : j < k := by have := (List.getElem?_eq_some_iff.1 hj).1; omega
  obtain ⟨v, m1, m2, m3⟩ := VRs_get hv (i * k + j) q (by rw [flat_get hx i j c hi hjl]; exact hj)
  rw [List.getElem?_take] at m1
  split at m1
  · rw [add_plain]
    refine ⟨v, stable_new hO hb hw ?_, VR_ext (ext_below hO hb) m2, m3⟩
    simpa using m1
  · cases m1
theorem does_row {oo : Oper} (hO : C.OK) {xs : List (List AV)} {k : Nat} (hx : ∀ c, c ∈ xs → c.length = k) {ccs : Array Value} {t : TypeId} {cap : Nat} (hc : xs.length ≤ cap) (hs : cap * k ≤ ccs.size) (hv : VRs C xs.flatten (ccs.toList.take (xs.length * k)))
    (hr : (execOp a.eval oo).run P C.w = .ok (.value (.slice (some ⟨C.w.heap.size, 0, none⟩) xs.length cap)) (C.w.alloc (.cells ccs t))) : Does P a oo C (.own C.st.length 0 0 xs.length) (C.st ++ [.row k 0 xs false]) := by
  have hbl := below_alloc C.w (.cells ccs t)
  have hx' := ext_push hO hbl (o := 0) (.row k 0 xs false) (Nat.le_refl C.w.heap.size)
  refine ⟨C.push (C.w.alloc (.cells ccs t)) C.w.heap.size 0 (.row k 0 xs false), _, _, hr, .inl rfl, hx', ?_, rfl, ?_⟩
  · refine ok_push hO hbl (Nat.le_refl _) ?_
    refine ⟨ccs, t, heap_push_at C.w _, hx, ?_, by rw [List.drop_zero]; exact VRs_ext hx' hv⟩
    have := Nat.mul_le_mul_right k hc
    omega
  · simp only [VR]
    refine ⟨rfl, k, 0, xs, false, push_st, Nat.le_refl _, fun _ => ⟨C.w.heap.size, 0, cap, t, ccs.size, ⟨C.w.heap.size, 0, none⟩, push_B hO, ⟨rfl, fun _ => by simp⟩, hc, ?_, by simpa using hs, by omega⟩⟩
    show (C.w.alloc (.cells ccs t)).shape? C.w.heap.size = _
    unfold World.shape?
    rw [heap_push_at]
theorem does_sl {oo : Oper} (hO : C.OK) {xs : List (List AV)} {k : Nat} (hx : ∀ c, c ∈ xs → c.length = k) {ccs : Array Value} {t : TypeId} {cap : Nat} (hc : xs.length ≤ cap) (hv : VRs C xs.flatten (ccs.toList.take (xs.length * k)))
    (hr : (execOp a.eval oo).run P C.w = .ok (.value (.slice (some ⟨C.w.heap.size, 0, none⟩) xs.length cap)) (C.w.alloc (.cells ccs t))) : Does P a oo C (.sl k xs) C.st := by
  have hbl := below_alloc C.w (.cells ccs t)
  exact ⟨C.at (C.w.alloc (.cells ccs t)), _, _, hr, .inl rfl, ext_below hO hbl, ok_below hO hbl, rfl, VR_sl_new hO hbl hx (heap_push_at C.w _) hc hv⟩
theorem cRow_length : ∀ {l : List (Nat × Operand)} {n : Nat} {xs : List Opd}, cRow n l = some xs → l.length = xs.length
  | [], n, xs, h => by simp only [cRow, Option.some.injEq] at h; subst h; rfl
  | (i, x) :: l, n, xs, h => by
    simp only [cRow] at h
    split at h
    · simp only [Option.bind_eq_some_iff, Option.some.injEq] at h
      obtain ⟨y, _, ys, h2, rfl⟩ := h
      simp [cRow_length h2]
    · cases h
theorem evs_length : ∀ {xs : List Opd} {rs : List AV}, Opd.evs G e xs = some rs → xs.length = rs.length
  | [], rs, h => by simp only [Opd.evs, Option.some.injEq] at h; subst h; rfl
  | x :: xs, rs, h => by
    simp only [Opd.evs] at h
    cases k1 : x.ev G e with
    | none => rw [k1] at h; cases h
    | some r =>
      rw [k1] at h
      dsimp only at h
      cases k2 : Opd.evs G e xs with
      | none => rw [k2] at h; cases h
      | some rs' => rw [k2] at h; simp only [Option.some.injEq] at h; subst h; simp [evs_length k2]
theorem ps_bsl {t el : TypeId} {i : TypeInfo} {len : Nat} {parts : Array (Nat × Operand)} {l : List Opd} {own : Bool} (hu : P.underlying t = some (.slice el)) (hi : P.info? el = some i) (hr : cRow 0 parts.toList = some l)
    (hq : l.length = len ∧ len * i.size ≤ 16777216 ∧ i.zero.isSome = true ∧ 0 < i.size) : PS P G bases (.buildSlice t len parts) (.bsl own i.size l) := by
  intro C e a oo r st' hoo hO hg hE h
  obtain ⟨q1, q2, q3, q4⟩ := hq
  obtain ⟨z, hz⟩ := Option.isSome_iff_exists.1 q3
  simp only [Prim.ev] at h
  split at h
  · rename_i rs k1
    split at h
    · rename_i hall
      have hall' : ∀ r, r ∈ rs → r.cells.length = i.size ∧ r.tuple = false := by
        intro r hr'
        have := List.all_eq_true.1 hall r hr'
        simpa using this
      have hlen := evs_length k1
      have hxs : ∀ c, c ∈ rs.map AV.cells → c.length = i.size := by
        intro c hc
        obtain ⟨r, hr', rfl⟩ := List.mem_map.1 hc
        exact (hall' r hr').1
      -- the machine's side
      have hrun : ∃ ccs : Array Value, ccs.size = len * i.size ∧ VRs C (rs.map AV.cells).flatten ccs.toList ∧ (execOp a.eval oo).run P C.w = .ok (.value (.slice (some ⟨C.w.heap.size, 0, none⟩) len len)) (C.w.alloc (.cells ccs el)) := by
        have key : ∀ Z : Array Value, Z.size = len * i.size → ∃ ccs : Array Value, Instr.fill (fun j => some (j * i.size, i.size)) Z (parts.map fun p => (p.1, a.eval p.2)).toList = some ccs ∧ ccs.size = len * i.size ∧ VRs C (rs.map AV.cells).flatten ccs.toList := by
          intro Z hZ
          obtain ⟨ccs, m1, mid, m2, m3⟩ := fill_row i.size (cs := Z) hr hg hE k1 hall' (by rw [Nat.zero_add, ← hlen, q1, hZ]; exact Nat.le_refl _)
          have hZl : Z.toList.length = len * i.size := by simpa using hZ
          rw [Nat.zero_mul, List.take_zero, List.nil_append, Nat.zero_add, ← hlen, q1, List.drop_of_length_le (by omega), List.append_nil] at m2
          refine ⟨ccs, by simpa using m1, ?_, by rw [m2]; exact m3⟩
          have hrl : rs.length = len := by omega
          rw [← Array.length_toList, m2, ← VRs_length m3, flat_len hxs]
          simp [hrl]
        by_cases h0 : len * i.size = 0
        · obtain ⟨ccs, m1, m2, m3⟩ := key ((Array.range (len * i.size)).map (#[][· % (#[] : Array Value).size]!)) (by simp)
          refine ⟨ccs, m2, m3, ?_⟩
          simp only [execOp, hoo, Instr.buildSlice, Sem.run_bind, run_underlying hu, Result.andThen_ok, run_sizeOf' hi]
          rw [if_neg (by omega)]
          rw [if_pos h0]
          simp only [Sem.run_pure, Sem.run_bind, Result.andThen_ok]
          rw [m1]
          simp only [newRow, Sem.run_bind, run_newObj, Result.andThen_ok, Sem.run_pure]
          rfl
        · obtain ⟨ccs, m1, m2, m3⟩ := key ((Array.range (len * i.size)).map (z.cells[· % z.cells.size]!)) (by simp)
          refine ⟨ccs, m2, m3, ?_⟩
          have hzr : (zeroValue el).run P C.w = .ok z C.w := by simp [zeroValue, run_typeInfo C.w hi, hz]
          simp only [execOp, hoo, Instr.buildSlice, Sem.run_bind, run_underlying hu, Result.andThen_ok, run_sizeOf' hi]
          rw [if_neg (by omega)]
          rw [if_neg h0]
          simp only [Sem.run_pure, Sem.run_bind, Result.andThen_ok, hzr]
          rw [m1]
          simp only [newRow, Sem.run_bind, run_newObj, Result.andThen_ok, Sem.run_pure]
          rfl
      obtain ⟨ccs, m1, m2, m3⟩ := hrun
      have hl2 : (rs.map AV.cells).length = len := by simp; omega
      have hv : VRs C (rs.map AV.cells).flatten (ccs.toList.take ((rs.map AV.cells).length * i.size)) := by
        rw [hl2, ← m1, ← Array.length_toList, List.take_length]; exact m2
      split at h
      · simp only [Option.some.injEq, Prod.mk.injEq] at h
        obtain ⟨rfl, rfl⟩ := h
        have := does_row hO hxs (cap := len) (t := el) (a := a) (P := P) (oo := oo) (by omega) (by omega) hv (by rw [hl2]; exact m3)
        rw [List.length_map] at this
        exact this
      · simp only [Option.some.injEq, Prod.mk.injEq] at h
        obtain ⟨rfl, rfl⟩ := h
        exact does_sl hO hxs (cap := len) (t := el) (by omega) hv (by rw [hl2]; exact m3)
    · cases h
  · cases h
end
end Go.Proofs.YtgehbkdpodnajaaDoor.Ev
