import Derived.Test.YtoobogpbejdocaaGreatDoorEvLib
import Derived.Test.YtoobogpbejdocaaGreatDoorEvSl
import Derived.Shelf.Spec.SlicesInsertGrow
set_option linter.unusedVariables false
set_option linter.unusedSectionVars false
set_option linter.unusedSimpArgs false
namespace Go.Proofs.YtoobogpbejdocaaGreatDoor.Ev
open Go.RowKit Go.Lib
section
variable {P : Program}
theorem run_copy_k (w : World) (dT sT ty elem : TypeId) (b o dLen dCap : Nat) (a : Addr) (sLen sCap k : Nat) (cs : List Value)
    (hu : P.underlying dT = some (.slice elem)) (hs : (P.info? elem).map (·.size) = some k) (hn : cs.length = Nat.min sLen dLen * k)
    (hsrc : ∀ j v, cs[j]? = some v → w.cell? (a.add j) = some v) (hc : ∀ j, j < cs.length → (w.cell? ⟨b, o + j, none⟩).isSome = true) (hf : ∀ j, j < cs.length → w.frozen? ⟨b, o + j, none⟩ = false) (h1 : ∀ v ∈ cs, v.oneCell' = true) :
    (Builtin.copy_ #[dT, sT] ty #[.slice (some ⟨b, o, none⟩) dLen dCap, .slice (some a) sLen sCap]).run P w = .ok (goInt (Nat.min sLen dLen)) (w.setCells b o cs) := by
  have hl := run_loadCells_list (P := P) w a cs hsrc
  have hst := run_storeCells_cells (P := P) b o cs 0 w (by simpa using hc) (by simpa using hf) h1
  cases hq : P.info? elem with
  | none => simp [hq] at hs
  | some i =>
    have hi : i.size = k := by simpa [hq] using hs
    rw [hn] at hl
    simp [Builtin.copy_, run_underlying hu, Builtin.lenOf, Builtin.firstCells, sizeOf, typeInfo, hq, hi, hl, hst]
theorem run_clear_k (w : World) (t e : TypeId) (z : Value) (k : Nat) (ht : P.underlying t = some (.slice e)) (hv : ∀ w, (zeroValue e).run P w = .ok z w) (hz : z.cells.size = k) (h1 : ∀ v ∈ z.cells.toList, v.oneCell' = true) (b o n : Nat) (hn : 0 < n)
    (hc : ∀ j, j < n * k → (w.cell? ⟨b, o + j, none⟩).isSome = true) (hf : ∀ j, j < n * k → w.frozen? ⟨b, o + j, none⟩ = false) :
    ∃ zs : List Value, zs.length = n * k ∧ ∀ ty c, (Builtin.clear_ #[t] ty #[.slice (some ⟨b, o, none⟩) n c]).run P w = .ok (.tuple #[]) (w.setCells b o zs) := by
  have hl : (Builtin.zeroCells z.cells n).toList.length = n * k := by rw [Array.length_toList, size_zeroCells, hz]
  refine ⟨(Builtin.zeroCells z.cells n).toList, hl, fun ty c => ?_⟩
  have hst := run_storeCells_cells (P := P) b o (Builtin.zeroCells z.cells n).toList 0 w (by rw [hl]; simpa using hc) (by rw [hl]; simpa using hf) (fun v hv' => by
    unfold Builtin.zeroCells at hv'
    rw [Array.mem_toList_iff, Array.mem_map] at hv'
    obtain ⟨i, hi, rfl⟩ := hv'
    rw [Array.mem_range] at hi
    have hp : 0 < z.cells.size := Nat.pos_of_ne_zero fun e0 => by rw [e0] at hi; simp at hi
    have hm : i % z.cells.size < z.cells.size := Nat.mod_lt _ hp
    rw [getElem!_pos z.cells _ hm]
    exact h1 _ (by rw [Array.mem_toList_iff]; exact Array.getElem_mem hm))
  simp only [Nat.add_zero] at hst
  obtain ⟨m, rfl⟩ : ∃ m, n = m + 1 := ⟨n - 1, by omega⟩
  simp [Builtin.clear_, run_underlying ht, hv, hst]
theorem run_overlaps_row (w : World) (tS tR e : TypeId) (ht : P.underlying tS = some (.slice e)) (size : Nat) (hz : ∀ w, (Go.sizeOf e).run P w = .ok size w)
    (a b : Addr) (la ca lb cb : Nat) (hne : a.block ≠ b.block) (tA : TypeId) (kA : Nat) (hsa : w.shape? a.block = some (tA, kA)) (hkA : kA ≠ 0) {ccs : Array Value} {t : TypeId} (hb : w.heap[b.block]? = some (.cells ccs t (0, 0))) (hk : ccs.size ≠ 0) :
    (Extern.SlicesOverlaps.overlaps #[tS, tS] #[tR] #[.slice (some a) la ca, .slice (some b) lb cb]).run P w = .ok (.bool false) w := by
  have hnb : (a.block != b.block) = true := by simpa using hne
  have hnb' : (a.block == b.block) = false := by simpa using hne
  have hsb : w.shape? b.block = some (t, ccs.size) := by simp [World.shape?, hb]
  have hfb : w.frozen? b = false := by simp [World.frozen?, hb]
  have hfe : w.frozen? { block := b.block, off := ccs.size } = false := by simp [World.frozen?, hb]
  change Sem.run P (α := Value) (do
    let some t := (#[tS, tS] : Array TypeId)[0]? | stuck "slices.overlaps: no parameter types"
    let .slice elem ← underlying t | stuck "slices.overlaps: slice type expected"
    let size ← sizeOf elem
    match (some a : Option Addr), (some b : Option Addr) with
    | some a, some b =>
      if la = 0 ∨ lb = 0 ∨ size = 0 then pure (Value.bool false)
      else if a.block != b.block && (← frozen a) && (← frozen b) then unsupported .addressObserved
      else do
        if a.block != b.block then do
          noView a; noView b
          if ← mayBeOne a b then return Value.bool ((← choose (.extern "sameAddr.stringBytes" 2)) == 1)
        pure (Value.bool (a.block == b.block && a.off < b.off + lb * size && b.off < a.off + la * size))
    | _, _ => pure (Value.bool false)) w = _
  by_cases h0 : la = 0 ∨ lb = 0 ∨ size = 0
  · simp [run_underlying ht, hz, h0]
  · cases kB : ccs.size with
    | zero => exact absurd kB hk
    | succ k =>
      rw [kB] at hsb hfe
      obtain ⟨kA, rfl⟩ := Nat.exists_eq_succ_of_ne_zero hkA
      by_cases f1 : w.frozen? a = true
      · simp [run_underlying ht, hz, h0, hnb, hnb', frozen, noView, viewAt, mayBeOne, stringish, shape, Sem.run, hsa, hsb, hfb, hfe, f1]
      · by_cases f2 : w.frozen? { block := a.block, off := kA.succ } = true
        · simp [run_underlying ht, hz, h0, hnb, hnb', frozen, noView, viewAt, mayBeOne, stringish, shape, Sem.run, hsa, hsb, hfb, hfe, f1, f2]
        · simp [run_underlying ht, hz, h0, hnb, hnb', frozen, noView, viewAt, mayBeOne, stringish, shape, Sem.run, hsa, hsb, hfb, hfe, f1, f2]
theorem upd_setCells : ∀ (vs : List Value) (w : World) (ccs : Array Value) (t : TypeId) (b o : Nat), w.heap[b]? = some (.cells ccs t (0, 0)) → o + vs.length ≤ ccs.size →
    ∃ ccs', Upd w (w.setCells b o vs) b (.cells ccs' t (0, 0)) ∧ ccs'.toList = ccs.toList.take o ++ vs ++ ccs.toList.drop (o + vs.length)
  | [], w, ccs, t, b, o, h, hl => ⟨ccs, ⟨rfl, rfl, rfl, rfl, fun _ _ => rfl, h⟩, by simp⟩
  | v :: vs, w, ccs, t, b, o, h, hl => by
    simp only [List.length_cons] at hl
    have h1 : (w.setCell ⟨b, o, none⟩ v).heap[b]? = some (.cells (ccs.setIfInBounds o v) t (0, 0)) := by
      simp only [World.setCell, Array.getElem?_modify, if_true, h]
      simp
    obtain ⟨ccs', hu, hcs⟩ := upd_setCells vs (w.setCell ⟨b, o, none⟩ v) (ccs.setIfInBounds o v) t b (o + 1) h1 (by simp; omega)
    refine ⟨ccs', ⟨hu.os, hu.tape, hu.out, by rw [World.setCells, hu.size]; simp [World.setCell], fun k hk => ?_, hu.at_⟩, ?_⟩
    · rw [World.setCells, hu.other k hk]; simp only [World.setCell, Array.getElem?_modify]; try rw [if_neg (by omega)]
    · rw [hcs]
      simp only [Array.toList_setIfInBounds, List.length_cons]
      have hlen : o < ccs.toList.length := by simpa using (by omega : o < ccs.size)
      apply List.ext_getElem?
      intro k
      simp only [List.getElem?_append, List.getElem?_take, List.getElem?_drop, List.length_append, List.length_take, List.length_set, List.getElem?_set, List.length_cons, List.getElem?_cons]
      have h2 : min (o + 1) ccs.toList.length = o + 1 := by omega
      have h3 : min o ccs.toList.length = o := by omega
      simp only [h2, h3]
      by_cases e1 : k < o
      · simp only [show k < o + 1 by omega, show k < o + 1 + vs.length by omega, show k < o + (vs.length + 1) by omega, e1, if_true]
        rw [if_neg (by omega)]
      · by_cases e2 : k = o
        · subst e2
          have hlen' : k < ccs.size := by simpa using hlen
          simp [show k < k + 1 by omega, show k < k + 1 + vs.length by omega, hlen']
        · by_cases e3 : k < o + 1 + vs.length
          · simp only [e3, show k < o + (vs.length + 1) by omega, if_true, e1, if_false]
            rw [if_neg (by omega), if_neg (by omega)]
            congr 1
          · simp only [e3, show ¬ k < o + (vs.length + 1) by omega, if_false]
            rw [if_neg (by omega)]
            congr 1
            omega
theorem frozen_of {w : World} {b : Nat} {ccs : Array Value} {t : TypeId} (h : w.heap[b]? = some (.cells ccs t (0, 0))) (j : Nat) : w.frozen? ⟨b, j, none⟩ = false := by simp [World.frozen?, h]
theorem cell_of {w : World} {b : Nat} {ccs : Array Value} {t : TypeId} (h : w.heap[b]? = some (.cells ccs t (0, 0))) (j : Nat) : w.cell? ⟨b, j, none⟩ = ccs[j]? := by simp [World.cell?, h]
theorem app_run {C : Ctx} (hO : C.OK) {t el : TypeId} {j : TypeInfo} (hu : P.underlying t = some (.slice el)) (hj : P.info? el = some j) (hq : 0 < j.size ∧ 0 < j.bytes ∧ (j.zero.map fun z => z.cells.size) = some j.size)
    {x y : AV} {cx cy : Value} (hx : VR C x cx) (hy : VR C y cy) {r : AV} {st' : Store} (h : (Prim.app j.size j.bytes (.t 0) (.t 1)).ev (fun _ => none) [] [(0, x), (1, y)] C.st = some (r, st')) (ty : TypeId) :
    ∃ (D : Ctx) (v : Value), (Builtin.append_ #[t, t] ty #[cx, cy]).run P C.w = .ok v D.w ∧ Ext C D ∧ D.OK ∧ D.st = st' ∧ VR D r v := by
  have hps := ps_app (P := P) (G := fun _ => none) (bases := []) (x := .tmp 0) (y := .tmp 1) hu hj (.inl ⟨el, hu⟩) hq ⟨.t 0, rfl, .t 1, rfl, rfl⟩
  obtain ⟨D, n, v, h1, h2, h3, h4, h5, h6⟩ := hps C [(0, x), (1, y)] ⟨#[cx, cy], []⟩ { dst := none, op := .call { callee := .builtin .append, args := #[.tmp 0, .tmp 1], argTypes := #[t, t] }, type := ty, pos := "", after := #[], guard := none } r st' rfl hO (fun _ _ hg => by cases hg) (fun i a hi => by
    simp only [Env.get] at hi
    split at hi
    · rename_i e; subst e; cases hi; exact ⟨cx, rfl, hx⟩
    · split at hi
      · rename_i e; subst e; cases hi; exact ⟨cy, rfl, hy⟩
      · cases hi) h
  have h7 : (execOp (Act.eval ⟨#[cx, cy], []⟩) { dst := none, op := .call { callee := .builtin .append, args := #[.tmp 0, .tmp 1], argTypes := #[t, t] }, type := ty, pos := "", after := #[], guard := none }).run P C.w = ((Builtin.append_ #[t, t] ty #[cx, cy]).run P C.w).andThen fun v w => .ok (.value v) w := by
    simp [execOp, resolve, invoke, builtin, Act.eval]
  rw [h7] at h1
  cases hr : (Builtin.append_ #[t, t] ty #[cx, cy]).run P C.w with
  | ok v' w' =>
    rw [hr] at h1
    simp only [Result.andThen_ok, Result.ok.injEq] at h1
    obtain ⟨rfl, e2⟩ := h1
    rcases h2 with h2 | ⟨h2, _⟩
    · injection h2 with h2
      subst h2
      exact ⟨D, v', by rw [e2], h3, h4, h5, h6⟩
    · cases h2
  | _ => rw [hr] at h1; cases h1
def pInsert (k bytes : Nat) (xs : List AV) (st : Store) : Option (AV × Store) :=
  match xs with
  | [.own id gen off ln, .v (.int .i64 i), .sl k2 ys] => match st[id]? with
    | some (.row k' g xs nw) => if k' = k ∧ k2 = k ∧ g = gen ∧ off + ln ≤ xs.length ∧ nw = false ∧ 0 ≤ i ∧ i ≤ ln ∧ 0 < ys.length ∧ (ys.all fun c => c.length == k) = true ∧ (ln + ys.length) * bytes ≤ 140737488355328 ∧ ross ys = true then
        some (.own id (gen + 1) 0 (ln + ys.length), st.set id (.row k (gen + 1) (((xs.drop off).take ln).take i.toNat ++ (ys ++ ((xs.drop off).take ln).drop i.toNat)) false)) else none
    | _ => none
  | [.v (.slice none 0 0), .v (.int .i64 0), .sl k2 ys] => if k2 = k ∧ 0 < ys.length ∧ (ys.all fun c => c.length == k) = true ∧ ys.length * bytes ≤ 140737488355328 ∧ ross ys = true then some (.own st.length 0 0 ys.length, st ++ [.row k 0 ys false]) else none
  | _ => none
theorem ross_le {n : Nat} {ys : List (List AV)} (h : ross ys = true) : belowss n ys = true := belowss_of _ (by
  cases hi : idsss ys with
  | nil => rfl
  | cons i l => have := idsss_lt ys h i (by rw [hi]; exact List.mem_cons_self); omega)
theorem ins_grows {k bytes : Nat} {xs : List AV} {st st' : Store} {r : AV} {bases : List Nat} (h : pInsert k bytes xs st = some (r, st')) : Grows bases st st' := by
  unfold pInsert at h
  split at h
  · split at h
    · rename_i id gen off ln i k2 ys k' g xs nw hst
      split at h
      · rename_i hq
        simp only [Option.some.injEq, Prod.mk.injEq] at h
        obtain ⟨_, rfl⟩ := h
        refine ⟨by simp, fun b hb hs => hs.set fun hi => ?_⟩
        have := hs.2 _ _ hi hst
        simp only [Ob.under, belowss_all, List.all_eq_true] at this ⊢
        have h2 := ross_le (n := b) hq.2.2.2.2.2.2.2.2.2.2
        rw [belowss_all, List.all_eq_true] at h2
        intro x hx
        rcases List.mem_append.1 hx with hx | hx
        · exact this x (List.mem_of_mem_drop (List.mem_of_mem_take (List.mem_of_mem_take hx)))
        · rcases List.mem_append.1 hx with hx | hx
          · exact h2 x hx
          · exact this x (List.mem_of_mem_drop (List.mem_of_mem_take (List.mem_of_mem_drop hx)))
      · cases h
    · cases h
  · split at h
    · simp only [Option.some.injEq, Prod.mk.injEq] at h
      obtain ⟨_, rfl⟩ := h
      exact ⟨by simp, fun b hb hs => hs.app⟩
    · cases h
  · cases h
def pDelete (k : Nat) (xs : List AV) (st : Store) : Option (AV × Store) :=
  match xs with
  | [.own id gen off ln, .v (.int .i64 i), .v (.int .i64 j)] => match st[id]? with
    | some (.row k' g xs nw) => if k' = k ∧ g = gen ∧ off + ln ≤ xs.length ∧ nw = false ∧ 0 ≤ i ∧ i < j ∧ j ≤ ln ∧ ln ≤ 140737488355328 then
        some (.own id (gen + 1) 0 (i.toNat + (ln - j.toNat)), st.set id (.row k (gen + 1) (((xs.drop off).take ln).take i.toNat ++ ((xs.drop off).take ln).drop j.toNat) false)) else none
    | _ => none
  | _ => none
theorem del_grows {k : Nat} {xs : List AV} {st st' : Store} {r : AV} {bases : List Nat} (h : pDelete k xs st = some (r, st')) : Grows bases st st' := by
  unfold pDelete at h
  split at h
  · split at h
    · rename_i id gen off ln i j k' g xs nw hst
      split at h
      · rename_i hq
        simp only [Option.some.injEq, Prod.mk.injEq] at h
        obtain ⟨_, rfl⟩ := h
        refine ⟨by simp, fun b hb hs => hs.set fun hi => ?_⟩
        have := hs.2 _ _ hi hst
        simp only [Ob.under, belowss_all, List.all_eq_true] at this ⊢
        intro x hx
        rcases List.mem_append.1 hx with hx | hx
        · exact this x (List.mem_of_mem_drop (List.mem_of_mem_take (List.mem_of_mem_take hx)))
        · exact this x (List.mem_of_mem_drop (List.mem_of_mem_take (List.mem_of_mem_drop hx)))
      · cases h
    · cases h
  · cases h
theorem rets_row {C : Ctx} (hO : C.OK) {id b o k gen : Nat} {xs : List (List AV)} (hst : C.st[id]? = some (.row k gen xs false)) (p1 : C.B[id]? = some (b, o)) {w' : World} {b' o' : Nat} {ccs' : Array Value} {t' : TypeId} {news : List (List AV)} {cap : Nat}
    (h : (b' = b ∧ Upd C.w w' b (.cells ccs' t' (0, 0)) ∧ C.w.shape? b = some (t', ccs'.size)) ∨ (C.w.heap.size ≤ b' ∧ Below C.w.heap.size C.w w' ∧ w'.heap[b']? = some (.cells ccs' t' (0, 0))))
    (hl : ∀ c, c ∈ news → c.length = k) (hc : news.length ≤ cap) (hs : o' + cap * k ≤ ccs'.size) (hv : VRs C news.flatten ((ccs'.toList.drop o').take (news.length * k))) :
    Rets C (.own id (gen + 1) 0 news.length) (C.st.set id (.row k (gen + 1) news false)) (.returned (.slice (some ⟨b', o', none⟩) news.length cap)) w' := by
  have hat : w'.heap[b']? = some (.cells ccs' t' (0, 0)) := by
    rcases h with ⟨rfl, u, _⟩ | ⟨_, _, h⟩
    · exact u.at_
    · exact h
  obtain ⟨b1, o1, hB, ccs, t'', ⟨fr, f1, ff⟩, f2, f3, f4⟩ := hO.get hst
  rw [p1] at hB; injection hB with hB; injection hB with e1 e2; subst e1; subst e2
  have T : Turn C w' id b o b' o' (.row k gen xs false) (.row k (gen + 1) news false) := by
    rcases h with ⟨rfl, u, hsh⟩ | ⟨hn, hb, _⟩
    · refine ⟨hst, p1, by simp [Ob.next], .inr (by simp [Ob.moved]), u.os, u.tape, u.out, by rw [u.size]; exact Nat.le_refl _, fun k _ hk => u.other k hk, ?_, fun ad' c hb' hs' => ?_, fun off' hwr => .inl ⟨rfl, fun hnw => by cases hnw⟩, .inl rfl⟩
      · rw [hsh]; simp [World.shape?, u.at_]
      · exact absurd ⟨id, o, _, by rw [hb']; exact p1, hst, fun hnw => by cases hnw⟩ hs'.2.1
    · have hlt := heap_lt f1
      exact ⟨hst, p1, by simp [Ob.next], .inr (by simp [Ob.moved]), hb.os, hb.tape, hb.output, hb.size, fun k hk _ => hb.block k hk, shape_of_heap (hb.block b hlt), fun ad' c hb' hs' => (cell_of_heap (hb.block _ (Ctx.stable_lt hs'))).trans hs'.1, fun _ _ => .inr hn, .inr hn⟩
  have hx := ext_set hO T
  have hi := (List.getElem?_eq_some_iff.1 hst).1
  refine ⟨_, rfl, hx, ok_set hO T ⟨ccs', t', ⟨_, hat, .inl rfl⟩, hl, ?_, VRs_ext hx hv⟩, rfl, ?_⟩
  · have := Nat.mul_le_mul_right k hc
    omega
  · simp only [VR]
    refine ⟨rfl, k, gen + 1, news, false, by simp [Ctx.set, hi], Nat.le_refl _, fun _ => ⟨b', o', cap, t', ccs'.size, ⟨b', o', none⟩, ?_, ⟨rfl, fun _ => by simp⟩, hc, ?_, by rw [Nat.zero_add]; exact hs, by omega⟩⟩
    · have hi' : id < C.B.length := by rw [hO.len]; exact hi
      simp [Ctx.set, hi']
    · show w'.shape? b' = _
      simp [World.shape?, hat]
theorem flat_take {α : Type} {k : Nat} {xs : List (List α)} (h : ∀ c, c ∈ xs → c.length = k) (n : Nat) : (xs.take n).flatten = xs.flatten.take (n * k) := by
  have := seg_flat h 0 n
  simpa using this
theorem flat_drop {α : Type} {k : Nat} {xs : List (List α)} (h : ∀ c, c ∈ xs → c.length = k) (n : Nat) : (xs.drop n).flatten = xs.flatten.drop (n * k) := by
  have h1 := seg_flat h n xs.length
  rw [List.take_of_length_le (by simp)] at h1
  rw [h1]
  rw [List.take_of_length_le]
  rw [List.length_drop, flat_len h]; omega
theorem sl_cells {C : Ctx} {k : Nat} {ys : List (List AV)} {c : Value} (hk : 0 < k) (h0 : 0 < ys.length) (hy : ∀ c, c ∈ ys → c.length = k) (h : VR C (.sl k ys) c) :
    ∃ vb voff cap vs, c = .slice (some ⟨vb, voff, none⟩) ys.length cap ∧ vs.length = ys.length * k ∧ VRs C ys.flatten vs ∧ (∀ j v, vs[j]? = some v → C.w.cell? ⟨vb, voff + j, none⟩ = some v) ∧ C.stable ⟨vb, voff, none⟩ (vs.getD 0 undef) := by
  simp only [VR] at h
  obtain ⟨a, cap, rfl, ⟨hle, hs⟩, f⟩ := h
  cases a with
  | none => cases hs
  | some ad =>
    have hget : ∀ (i : Nat) (q : AV), ys.flatten[i]? = some q → ∃ c, C.stable (ad.add i) c ∧ VR C q c ∧ c.oneCell' = true := fun i q hq => by
      obtain ⟨c, k1, k2⟩ := flat_div hk hy hq
      obtain ⟨g1, ad', g2, g3, g4⟩ := VRrow_get f _ c k1
      cases g2
      obtain ⟨v, n1, n2⟩ := VRat_get g4 _ q k2
      rw [Nat.zero_add, Nat.mul_comm, Nat.div_add_mod] at n1
      exact ⟨v, n1, n2⟩
    have hsp : ad.spot = none := by
      obtain ⟨g1, ad', g2, g3, g4⟩ := VRrow_get f 0 _ (List.getElem?_eq_getElem h0)
      cases g2; exact g3
    obtain ⟨vb, voff, sp⟩ := ad
    simp only at hsp
    subst hsp
    obtain ⟨vs, h1, h2, h3⟩ := list_of (cs := ys.flatten) (ad := ⟨vb, voff, none⟩) (w := C.w) (fun i q hq => let ⟨c, k1, k2⟩ := hget i q hq; ⟨c, k1.1, k2⟩) ys.flatten.length (Nat.le_refl _)
    rw [List.take_length] at h2
    rw [flat_len hy] at h1
    refine ⟨vb, voff, cap, vs, rfl, h1, h2, fun j v hj => by have := h3 j v hj; rwa [add_plain] at this, ?_⟩
    have hpos : 0 < ys.flatten.length := by rw [flat_len hy]; exact Nat.mul_pos h0 hk
    obtain ⟨c, k1, k2⟩ := hget 0 _ (List.getElem?_eq_getElem hpos)
    have hv0 : 0 < vs.length := by rw [h1]; exact Nat.mul_pos h0 hk
    have h4 := h3 0 _ (List.getElem?_eq_getElem hv0)
    rw [k1.1] at h4
    cases h4
    rw [add_plain] at k1
    rw [List.getD_eq_getElem?_getD, List.getElem?_eq_getElem hv0]
    exact k1
end
end Go.Proofs.YtoobogpbejdocaaGreatDoor.Ev
