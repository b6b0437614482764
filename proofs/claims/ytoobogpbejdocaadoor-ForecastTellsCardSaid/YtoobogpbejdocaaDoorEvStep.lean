import Derived.Test.YtoobogpbejdocaaDoorEvRel
import Derived.Laws.Cells
import Derived.Laws.World
set_option linter.unusedVariables false
set_option linter.unusedSectionVars false
set_option linter.unusedSimpArgs false
namespace Go.Proofs.YtoobogpbejdocaaDoor.Ev
open Go.RowKit
theorem cell_of_heap {w w' : World} {ad : Addr} (h : w'.heap[ad.block]? = w.heap[ad.block]?) : w'.cell? ad = w.cell? ad := by unfold World.cell?; rw [h]
theorem shape_of_heap {w w' : World} {b : Nat} (h : w'.heap[b]? = w.heap[b]?) : w'.shape? b = w.shape? b := by unfold World.shape?; rw [h]
theorem heap_lt {w : World} {b : Nat} {o : Obj} (h : w.heap[b]? = some o) : b < w.heap.size := (Array.getElem?_eq_some_iff.1 h).1
theorem ObR_lt {C : Ctx} {b o : Nat} {ob : Ob} (h : ObR C b o ob) : b < C.w.heap.size := by
  cases ob with
  | box cs => obtain ⟨_, ccs, t, h, _⟩ := h; exact heap_lt h
  | row e g xs nw => obtain ⟨ccs, t, ⟨fr, h, _⟩, _⟩ := h; exact heap_lt h
  | map es => obtain ⟨en, cl, h, _⟩ := h; exact heap_lt h
  | sit s p => exact heap_lt h
  | loop k env s => obtain ⟨r, cs, h, _⟩ := h; exact heap_lt h
theorem MapR_ext {C D : Ctx} (hx : Ext C D) {es : List (Value × AV)} {en : List MapEntry} (h : MapR C es en) : MapR D es en :=
  ⟨h.1, fun i p m h1 h2 => let ⟨k1, k2, k3⟩ := h.2 i p m h1 h2; ⟨k1, k2, VR_ext hx k3⟩⟩
theorem ObR_ext {C D : Ctx} (hx : Ext C D) {b o : Nat} {ob : Ob} (hb : D.w.heap[b]? = C.w.heap[b]?) (h : ObR C b o ob) : ObR D b o ob := by
  cases ob with
  | box cs => obtain ⟨h0, ccs, t, h, h2⟩ := h; exact ⟨h0, ccs, t, hb.trans h, VRs_ext hx h2⟩
  | row e g xs nw => obtain ⟨ccs, t, ⟨fr, h, hf⟩, h2, h3, h4⟩ := h; exact ⟨ccs, t, ⟨fr, hb.trans h, hf⟩, h2, h3, VRs_ext hx h4⟩
  | map es => obtain ⟨en, cl, h, h0, h2⟩ := h; exact ⟨en, cl, hb.trans h, h0, MapR_ext hx h2⟩
  | sit s p => exact hb.trans h
  | loop k env s => obtain ⟨r, cs, h, h2, h3⟩ := h; exact ⟨r, cs, hb.trans h, h2, VRt_ext hx h3⟩
theorem ObR_ex3 {C D : Ctx} (hx : Ex3 C D) {b o : Nat} {ob : Ob} (hb : D.w.heap[b]? = C.w.heap[b]?) (h : ObR C b o ob) : ObR D b o ob := by
  cases ob with
  | box cs => obtain ⟨h0, ccs, t, h, h2⟩ := h; exact ⟨h0, ccs, t, hb.trans h, VRs_ex3 hx h2⟩
  | row e g xs nw => obtain ⟨ccs, t, ⟨fr, h, hf⟩, h2, h3, h4⟩ := h; exact ⟨ccs, t, ⟨fr, hb.trans h, hf⟩, h2, h3, VRs_ex3 hx h4⟩
  | map es =>
    obtain ⟨en, cl, h, h0, h2⟩ := h
    exact ⟨en, cl, hb.trans h, h0, h2.1, fun i p m h1 h3 => let ⟨k1, k2, k3⟩ := h2.2 i p m h1 h3; ⟨k1, k2, VR_ex3 hx k3⟩⟩
  | sit s p => exact hb.trans h
  | loop k env s => obtain ⟨r, cs, h, h2, h3⟩ := h; exact ⟨r, cs, hb.trans h, h2, VRt_ex3 hx h3⟩
theorem Ctx.OK.lt {C : Ctx} (h : C.OK) {i b o : Nat} (hi : C.B[i]? = some (b, o)) : b < C.w.heap.size := by
  have hl : i < C.st.length := by rw [← h.len]; exact (List.getElem?_eq_some_iff.1 hi).1
  exact ObR_lt (h.obs i _ b o (List.getElem?_eq_getElem hl) hi)
theorem Ctx.OK.get {C : Ctx} (h : C.OK) {i : Nat} {ob : Ob} (hi : C.st[i]? = some ob) : ∃ b o, C.B[i]? = some (b, o) ∧ ObR C b o ob := by
  have hl : i < C.B.length := by rw [h.len]; exact (List.getElem?_eq_some_iff.1 hi).1
  have hb := List.getElem?_eq_getElem hl
  exact ⟨C.B[i].1, C.B[i].2, hb, h.obs i ob _ _ hi hb⟩
theorem Ctx.stable_lt {C : Ctx} {ad : Addr} {c : Value} (h : C.stable ad c) : ad.block < C.w.heap.size := World.block_lt_of_cell? C.w ad h.1
def Ctx.at (C : Ctx) (w : World) : Ctx := { C with w := w }
theorem ext_below {C : Ctx} (hO : C.OK) {w : World} (hb : Below C.w.heap.size C.w w) : Ext C (C.at w) where
  X := rfl
  os := hb.os
  tape := hb.tape
  out := hb.output
  size := hb.size
  keep := fun ad c h => ⟨(cell_of_heap (hb.block _ (Ctx.stable_lt h))).trans h.1, h.2⟩
  ids := fun i ob h => ⟨ob, h, Ob.next_refl ob, .inl ⟨by cases ob <;> simp [Ob.still], rfl⟩⟩
  shape := fun b h => shape_of_heap (hb.block _ h)
  frame := fun b h _ => hb.block _ h
  fresh := fun i b o h => .inl ⟨i, o, h⟩
theorem ok_below {C : Ctx} (hO : C.OK) {w : World} (hb : Below C.w.heap.size C.w w) : (C.at w).OK where
  len := hO.len
  inj := hO.inj
  dis := hO.dis
  xlt := fun b off h => Nat.lt_of_lt_of_le (hO.xlt b off h) hb.size
  obs := fun i ob b o h1 h2 => ObR_ext (ext_below hO hb) (hb.block _ (hO.lt h2)) (hO.obs i ob b o h1 h2)
def Ctx.push (C : Ctx) (w : World) (b o : Nat) (ob : Ob) : Ctx := ⟨w, C.B ++ [(b, o)], C.st ++ [ob], C.X⟩
theorem push_B {C : Ctx} {w : World} {b o : Nat} {ob : Ob} (hO : C.OK) : (C.push w b o ob).B[C.st.length]? = some (b, o) := by
  simp [Ctx.push, ← hO.len]
theorem push_st {C : Ctx} {w : World} {b o : Nat} {ob : Ob} : (C.push w b o ob).st[C.st.length]? = some ob := by simp [Ctx.push]
theorem app_get {α : Type} {l : List α} {x : α} {i : Nat} {y : α} (h : (l ++ [x])[i]? = some y) : l[i]? = some y ∨ (i = l.length ∧ y = x) := by
  rw [List.getElem?_append] at h
  split at h
  · exact .inl h
  · rename_i hi
    have : i - l.length = 0 := by
      rcases Nat.eq_zero_or_pos (i - l.length) with h0 | h0
      · exact h0
      · rw [List.getElem?_eq_none (by simp; omega)] at h; cases h
    rw [this] at h
    simp at h
    exact .inr ⟨by omega, h.symm⟩
theorem ext_push {C : Ctx} (hO : C.OK) {w : World} (hb : Below C.w.heap.size C.w w) {b o : Nat} (ob : Ob) (hn : C.w.heap.size ≤ b) : Ext C (C.push w b o ob) where
  X := rfl
  os := hb.os
  tape := hb.tape
  out := hb.output
  size := hb.size
  keep := fun ad c h => by
    refine ⟨(cell_of_heap (hb.block _ (Ctx.stable_lt h))).trans h.1, ?_, h.2.2⟩
    rintro ⟨i, o', ob', k1, k2, k3⟩
    rcases app_get k1 with k1 | ⟨_, q1⟩
    · rcases app_get k2 with k2 | ⟨q2, _⟩
      · exact h.2.1 ⟨i, o', ob', k1, k2, k3⟩
      · have := (List.getElem?_eq_some_iff.1 k1).1
        rw [hO.len] at this
        omega
    · have := Ctx.stable_lt h
      injection q1 with q1 _
      omega
  ids := fun i ob' h => by
    have hl := (List.getElem?_eq_some_iff.1 h).1
    exact ⟨ob', by rw [Ctx.push, List.getElem?_append_left hl]; exact h, Ob.next_refl _, .inl ⟨by cases ob' <;> simp [Ob.still], by rw [Ctx.push, List.getElem?_append_left (by rw [hO.len]; exact hl)]⟩⟩
  shape := fun b h => shape_of_heap (hb.block _ h)
  frame := fun b h _ => hb.block _ h
  fresh := fun i b' o' h => by
    rcases app_get h with h | ⟨_, h⟩
    · exact .inl ⟨i, o', h⟩
    · injection h with h _; exact .inr (by omega)
theorem ok_push {C : Ctx} (hO : C.OK) {w : World} (hb : Below C.w.heap.size C.w w) {b o : Nat} {ob : Ob} (hn : C.w.heap.size ≤ b) (hR : ObR (C.push w b o ob) b o ob) : (C.push w b o ob).OK where
  len := by simp [Ctx.push, hO.len]
  inj := fun i j b' o1 o2 h1 h2 => by
    rcases app_get h1 with h1 | ⟨e1, q1⟩ <;> rcases app_get h2 with h2 | ⟨e2, q2⟩
    · exact hO.inj i j b' o1 o2 h1 h2
    · have := hO.lt h1; injection q2 with q2 _; omega
    · have := hO.lt h2; injection q1 with q1 _; omega
    · omega
  dis := fun i b' o' off h hX => by
    rcases app_get h with h | ⟨_, h⟩
    · exact hO.dis i b' o' off h hX
    · have := hO.xlt b' off hX; injection h with h _; omega
  xlt := fun b' off h => Nat.lt_of_lt_of_le (hO.xlt b' off h) hb.size
  obs := fun i ob' b' o' h1 h2 => by
    rcases app_get h1 with h1 | ⟨h1, rfl⟩
    · have hl := (List.getElem?_eq_some_iff.1 h1).1
      rcases app_get h2 with h2 | ⟨h2, _⟩
      · exact ObR_ext (ext_push hO hb ob hn) (hb.block _ (hO.lt h2)) (hO.obs i ob' b' o' h1 h2)
      · rw [hO.len] at h2; omega
    · rcases app_get h2 with h2 | ⟨_, h2⟩
      · have := (List.getElem?_eq_some_iff.1 h2).1
        rw [hO.len] at this
        omega
      · injection h2 with e1 e2; subst e1; subst e2; exact hR
def Ctx.set (C : Ctx) (w : World) (i b o : Nat) (ob : Ob) : Ctx := ⟨w, C.B.set i (b, o), C.st.set i ob, C.X⟩
structure Turn (C : Ctx) (w : World) (i b o b' o' : Nat) (ob ob' : Ob) : Prop where
  st : C.st[i]? = some ob
  B : C.B[i]? = some (b, o)
  next : Ob.next ob ob'
  place : (Ob.still ob ob' ∧ b' = b ∧ o' = o) ∨ Ob.moved ob ob'
  os : w.os = C.w.os
  tape : w.tape = C.w.tape
  out : w.output = C.w.output
  size : C.w.heap.size ≤ w.heap.size
  other : ∀ k, k < C.w.heap.size → k ≠ b → w.heap[k]? = C.w.heap[k]?
  shape : w.shape? b = C.w.shape? b
  cell : ∀ ad c, ad.block = b → C.stable ad c → w.cell? ad = some c
  wr : ∀ off, ob'.wr o' off → (b' = b ∧ ob.wr o off) ∨ C.w.heap.size ≤ b'
  new : b' = b ∨ C.w.heap.size ≤ b'
theorem set_get {α : Type} {l : List α} {x : α} {i j : Nat} {y : α} (h : (l.set i x)[j]? = some y) : (i ≠ j ∧ l[j]? = some y) ∨ (i = j ∧ y = x) := by
  rw [List.getElem?_set] at h
  split at h
  · rename_i e
    split at h
    · simp at h; exact .inr ⟨e, h.symm⟩
    · cases h
  · rename_i e; exact .inl ⟨e, h⟩
theorem ext_set {C : Ctx} (hO : C.OK) {w : World} {i b o b' o' : Nat} {ob ob' : Ob} (T : Turn C w i b o b' o' ob ob') : Ext C (C.set w i b' o' ob') where
  X := rfl
  os := T.os
  tape := T.tape
  out := T.out
  size := T.size
  keep := fun ad c h => by
    refine ⟨?_, ?_, h.2.2⟩
    · by_cases e : ad.block = b
      · exact T.cell ad c e h
      · exact (cell_of_heap (T.other _ (Ctx.stable_lt h) e)).trans h.1
    · rintro ⟨j, o1, ob1, k1, k2, k3⟩
      rcases set_get k1 with ⟨e1, k1⟩ | ⟨e1, q1⟩
      · rcases set_get k2 with ⟨_, k2⟩ | ⟨e2, _⟩
        · exact h.2.1 ⟨j, o1, ob1, k1, k2, k3⟩
        · exact e1 e2
      · rcases set_get k2 with ⟨e2, _⟩ | ⟨_, q2⟩
        · exact e2 e1
        · injection q1 with e3 e4
          subst e4
          subst q2
          rcases T.wr _ k3 with ⟨e5, k4⟩ | hle
          · exact h.2.1 ⟨i, o, ob, by rw [T.B, e3, e5], T.st, k4⟩
          · have := Ctx.stable_lt h
            omega
  ids := fun j ob1 h => by
    by_cases e : i = j
    · subst e
      rw [T.st] at h
      cases h
      have hl := (List.getElem?_eq_some_iff.1 T.st).1
      refine ⟨ob', by simp [Ctx.set, hl], T.next, ?_⟩
      rcases T.place with ⟨p1, p2, p3⟩ | p
      · refine .inl ⟨p1, ?_⟩
        have hl' := (List.getElem?_eq_some_iff.1 T.B).1
        have hq := T.B
        rw [List.getElem?_eq_getElem hl'] at hq
        injection hq with hq
        simp [Ctx.set, hl', p2, p3, hq]
      · exact .inr p
    · exact ⟨ob1, by simp [Ctx.set, List.getElem?_set, e, h], Ob.next_refl _, .inl ⟨by cases ob1 <;> simp [Ob.still], by simp [Ctx.set, List.getElem?_set, e]⟩⟩
  shape := fun k h => by
    by_cases e : k = b
    · subst e; exact T.shape
    · exact shape_of_heap (T.other _ h e)
  frame := fun k h hn => T.other _ h fun e => hn i o (by rw [T.B, e])
  fresh := fun j k o1 h => by
    rcases set_get h with ⟨_, h⟩ | ⟨_, h⟩
    · exact .inl ⟨j, o1, h⟩
    · injection h with e1 e2
      rcases T.new with e3 | e3
      · exact .inl ⟨i, o, by rw [T.B, e1, e3]⟩
      · exact .inr (by omega)
theorem ok_set {C : Ctx} (hO : C.OK) {w : World} {i b o b' o' : Nat} {ob ob' : Ob} (T : Turn C w i b o b' o' ob ob') (hR : ObR (C.set w i b' o' ob') b' o' ob') : (C.set w i b' o' ob').OK where
  len := by simp [Ctx.set, hO.len]
  inj := fun j k b1 o1 o2 h1 h2 => by
    rcases set_get h1 with ⟨e1, h1⟩ | ⟨e1, h1⟩ <;> rcases set_get h2 with ⟨e2, h2⟩ | ⟨e2, h2⟩
    · exact hO.inj j k b1 o1 o2 h1 h2
    · injection h2 with h2 _
      rcases T.new with e3 | e3
      · have := hO.inj j i b1 o1 o h1 (by rw [T.B, h2, e3]); omega
      · have := hO.lt h1; omega
    · injection h1 with h1 _
      rcases T.new with e3 | e3
      · have := hO.inj k i b1 o2 o h2 (by rw [T.B, h1, e3]); omega
      · have := hO.lt h2; omega
    · omega
  dis := fun j b1 o1 off h hX => by
    rcases set_get h with ⟨_, h⟩ | ⟨_, h⟩
    · exact hO.dis j b1 o1 off h hX
    · injection h with h _
      rcases T.new with e3 | e3
      · exact hO.dis i b1 o off (by rw [T.B, h, e3]) hX
      · have := hO.xlt b1 off hX; omega
  xlt := fun b1 off h => Nat.lt_of_lt_of_le (hO.xlt b1 off h) T.size
  obs := fun j ob1 b1 o1 h1 h2 => by
    rcases set_get h1 with ⟨e1, h1⟩ | ⟨e1, rfl⟩
    · rcases set_get h2 with ⟨_, h2⟩ | ⟨e2, _⟩
      · refine ObR_ext (ext_set hO T) (T.other _ (hO.lt h2) fun e => ?_) (hO.obs j ob1 b1 o1 h1 h2)
        subst e
        exact e1 (hO.inj i j b1 o o1 T.B h2)
      · exact absurd e2 e1
    · rcases set_get h2 with ⟨e2, _⟩ | ⟨_, h2⟩
      · exact absurd e1 e2
      · injection h2 with e3 e4; subst e3; subst e4; exact hR
structure Upd (w w' : World) (b : Nat) (o : Obj) : Prop where
  os : w'.os = w.os
  tape : w'.tape = w.tape
  out : w'.output = w.output
  size : w'.heap.size = w.heap.size
  other : ∀ k, k ≠ b → w'.heap[k]? = w.heap[k]?
  at_ : w'.heap[b]? = some o
theorem add_plain (b o j : Nat) : (⟨b, o, none⟩ : Addr).add j = ⟨b, o + j, none⟩ := by unfold Addr.add; split <;> simp_all
theorem run_storeCells (P : Program) : ∀ (vs : List Value) (i : Nat) (w : World) (ccs : Array Value) (t : TypeId) (b off : Nat) {fr : Nat × Nat} (hfr : fr = (0, 0) ∨ ccs.size ≤ fr.1),
    w.heap[b]? = some (.cells ccs t fr) → off + i + vs.length ≤ ccs.size → (∀ v, v ∈ vs → v.oneCell' = true) →
    ∃ w' ccs', (storeCells ⟨b, off, none⟩ vs i).run P w = .ok () w' ∧ Upd w w' b (.cells ccs' t fr) ∧ ccs'.toList = ccs.toList.take (off + i) ++ vs ++ ccs.toList.drop (off + i + vs.length)
  | [], i, w, ccs, t, b, off, fr, hfr, h, hl, ho => ⟨w, ccs, by simp [storeCells], ⟨rfl, rfl, rfl, rfl, fun _ _ => rfl, h⟩, by simp⟩
  | v :: vs, i, w, ccs, t, b, off, fr, hfr, h, hl, ho => by
    simp only [List.length_cons] at hl
    have hc : w.cell? ⟨b, off + i, none⟩ = some ccs[off + i] := by simp [World.cell?, h]
    have hf : w.frozen? ⟨b, off + i, none⟩ = false := by
      rcases hfr with rfl | hfr
      · simp [World.frozen?, h]
      · obtain ⟨lo, hi⟩ := fr
        have hfr' : ccs.size ≤ lo := hfr
        simp only [World.frozen?, h, Bool.and_eq_false_iff, decide_eq_false_iff_not]
        exact .inl (by omega)
    have hb := heap_lt h
    have h1 : (w.setCell ⟨b, off + i, none⟩ v).heap[b]? = some (.cells (ccs.setIfInBounds (off + i) v) t fr) := by
      simp only [World.setCell, Array.getElem?_modify, if_true, h]
      simp
    obtain ⟨w', ccs', hr, hu, hcs⟩ := run_storeCells P vs (i + 1) (w.setCell ⟨b, off + i, none⟩ v) (ccs.setIfInBounds (off + i) v) t b off (by simpa using hfr) h1 (by simp; omega) (fun x hx => ho x (by simp [hx]))
    refine ⟨w', ccs', ?_, ⟨hu.os, hu.tape, hu.out, ?_, fun k hk => ?_, hu.at_⟩, ?_⟩
    · simp only [storeCells, Sem.run_bind, add_plain]
      rw [run_store P w _ v .plain (ho v (by simp))]
      simp only [hc, hf, Bool.false_eq_true, if_false, Result.andThen_ok]
      exact hr
    · rw [hu.size]; simp [World.setCell]
    · rw [hu.other k hk]; simp only [World.setCell, Array.getElem?_modify]; try rw [if_neg (by omega)]
    · rw [hcs]
      simp only [Array.toList_setIfInBounds, List.length_cons]
      have hlen : off + i < ccs.toList.length := by simpa using (by omega : off + i < ccs.size)
      apply List.ext_getElem?
      intro k
      simp only [List.getElem?_append, List.getElem?_take, List.getElem?_drop, List.length_append, List.length_take, List.length_set, List.getElem?_set, List.length_cons, List.getElem?_cons]
      have h2 : min (off + (i + 1)) ccs.toList.length = off + i + 1 := by omega
      have h3 : min (off + i) ccs.toList.length = off + i := by omega
      simp only [h2, h3]
      by_cases e1 : k < off + i
      · simp only [show k < off + i + 1 by omega, show k < off + i + 1 + vs.length by omega, show k < off + i + (vs.length + 1) by omega, show k < off + (i + 1) by omega, e1, if_true]
        rw [if_neg (by omega)]
      · by_cases e2 : k = off + i
        · subst e2
          simp [show off + i < off + (i + 1) by omega, hlen]
          rw [if_pos (by omega), if_pos (by omega)]
        · by_cases e3 : k < off + i + 1 + vs.length
          · simp only [e3, show k < off + i + (vs.length + 1) by omega, if_true, e1, if_false]
            rw [if_neg (by omega), if_neg (by omega)]
            congr 1
          · simp only [e3, show ¬ k < off + i + (vs.length + 1) by omega, if_false]
            rw [if_neg (by omega)]
            congr 1
            omega
end Go.Proofs.YtoobogpbejdocaaDoor.Ev
