import Derived.Test.YtoobogpbejdocaaDoorEvScope
import Derived.Test.YtoobogpbejdocaaDoorEvStep
set_option linter.unusedVariables false
set_option linter.unusedSectionVars false
set_option linter.unusedSimpArgs false
namespace Go.Proofs.YtoobogpbejdocaaDoor.Ev
mutual
theorem ids_lt {n : Nat} : ∀ (a : AV), a.under n = true → ∀ i, i ∈ a.ids → i < n
  | .v x, _, i, hi => by simp [AV.ids] at hi
  | .agg cs, h, i, hi => by simp only [AV.under] at h; simp only [AV.ids] at hi; exact idss_lt cs h i hi
  | .tup cs, h, i, hi => by simp only [AV.under] at h; simp only [AV.ids] at hi; exact idss_lt cs h i hi
  | .sl _ xs, h, i, hi => by simp only [AV.under] at h; simp only [AV.ids] at hi; exact idsss_lt xs h i hi
  | .rop cs, h, i, hi => by simp only [AV.under] at h; simp only [AV.ids] at hi; exact idss_lt cs h i hi
  | .own id _ _ _, h, i, hi => by simp only [AV.under, decide_eq_true_eq] at h; simp only [AV.ids, List.mem_singleton] at hi; omega
  | .ref id _ _ _, h, i, hi => by simp only [AV.under, decide_eq_true_eq] at h; simp only [AV.ids, List.mem_singleton] at hi; omega
  | .fn _ cs, h, i, hi => by simp only [AV.under] at h; simp only [AV.ids] at hi; exact idss_lt cs h i hi
  | .mp id, h, i, hi => by simp only [AV.under, decide_eq_true_eq] at h; simp only [AV.ids, List.mem_singleton] at hi; omega
  | .ifc, h, i, hi => by simp [AV.ids] at hi
  | .it id, h, i, hi => by simp only [AV.under, decide_eq_true_eq] at h; simp only [AV.ids, List.mem_singleton] at hi; omega
  | .yl id, h, i, hi => by simp only [AV.under, decide_eq_true_eq] at h; simp only [AV.ids, List.mem_singleton] at hi; omega
theorem idss_lt {n : Nat} : ∀ (l : List AV), belows n l = true → ∀ i, i ∈ idss l → i < n
  | [], _, i, hi => by simp [idss] at hi
  | a :: l, h, i, hi => by
    simp only [belows, Bool.and_eq_true] at h
    simp only [idss, List.mem_append] at hi
    exact hi.elim (ids_lt a h.1 i) (idss_lt l h.2 i)
theorem idsss_lt {n : Nat} : ∀ (l : List (List AV)), belowss n l = true → ∀ i, i ∈ idsss l → i < n
  | [], _, i, hi => by simp [idsss] at hi
  | a :: l, h, i, hi => by
    simp only [belowss, Bool.and_eq_true] at h
    simp only [idsss, List.mem_append] at hi
    exact hi.elim (idss_lt a h.1 i) (idsss_lt l h.2 i)
end
theorem ob_ids_lt {n : Nat} {ob : Ob} (h : ob.under n = true) : ∀ i, i ∈ ob.ids → i < n := by
  cases ob with
  | box cs => exact idss_lt cs h
  | row e g xs nw => exact idsss_lt xs h
  | map es =>
    intro i hi
    simp only [Ob.ids, List.mem_flatten, List.mem_map] at hi
    obtain ⟨l, ⟨p, hp, rfl⟩, hi⟩ := hi
    simp only [Ob.under, List.all_eq_true] at h
    exact ids_lt _ (h p hp) i hi
  | sit s p => intro i hi; simp [Ob.ids] at hi
  | loop k env s => exact idss_lt env h
structure Ren (ρ : Nat → Nat) (p : Nat → Prop) (C D : Ctx) : Prop where
  keep : ∀ ad c, C.stable ad c → D.stable ad c
  ids : ∀ i ob, p i → C.st[i]? = some ob → D.st[ρ i]? = some (ob.ren ρ) ∧ D.B[ρ i]? = C.B[i]?
  shape : ∀ b, D.w.shape? b = C.w.shape? b
theorem VR_ren_all {ρ : Nat → Nat} {p : Nat → Prop} {C D : Ctx} (hx : Ren ρ p C D) : ∀ m,
    (∀ (a : AV) (c : Value), SizeOf.sizeOf a < m → (∀ i, i ∈ a.ids → p i) → VR C a c → VR D (a.ren ρ) c) ∧
    (∀ (az : List AV) (cs : List Value), SizeOf.sizeOf az < m → (∀ i, i ∈ idss az → p i) → VRs C az cs → VRs D (rens ρ az) cs) ∧
    (∀ (az : List AV) (ad : Addr) (k : Nat), SizeOf.sizeOf az < m → (∀ i, i ∈ idss az → p i) → VRat C ad az k → VRat D ad (rens ρ az) k) ∧
    (∀ (xs : List (List AV)) (a : Option Addr) (e k : Nat), SizeOf.sizeOf xs < m → (∀ i, i ∈ idsss xs → p i) → VRrow C a e xs k → VRrow D a e (renss ρ xs) k) ∧
    (∀ (az : List AV) (cs : List Value), SizeOf.sizeOf az < m → (∀ i, i ∈ idss az → p i) → VRt C az cs → VRt D (rens ρ az) cs) := by
  intro m
  induction m with
  | zero => exact ⟨fun _ _ h => absurd h (by omega), fun _ _ h => absurd h (by omega), fun _ _ _ h => absurd h (by omega), fun _ _ _ _ h => absurd h (by omega), fun _ _ h => absurd h (by omega)⟩
  | succ m ih =>
    obtain ⟨i1, i2, i3, i4, i5⟩ := ih
    refine ⟨?_, ?_, ?_, ?_, ?_⟩
    · intro a c hs hu h
      cases a with
      | v x => simp only [AV.ren]; simpa only [VR] using h
      | agg cs => simp only [AV.ren, VR] at h ⊢; simp only [AV.ids] at hu; obtain ⟨ccs, e, h⟩ := h; exact ⟨ccs, e, i2 _ _ (by simp at hs; omega) hu h⟩
      | tup cs => simp only [AV.ren, VR] at h ⊢; simp only [AV.ids] at hu; obtain ⟨ccs, e, h⟩ := h; exact ⟨ccs, e, i5 _ _ (by simp at hs; omega) hu h⟩
      | sl e xs => simp only [AV.ren, VR, renss_length] at h ⊢; simp only [AV.ids] at hu; obtain ⟨a, cap, he, hle, h⟩ := h; exact ⟨a, cap, he, hle, i4 _ _ _ _ (by simp at hs; omega) hu h⟩
      | rop cs => simp only [AV.ren, VR] at h ⊢; simp only [AV.ids] at hu; obtain ⟨a, he, hsp, h⟩ := h; exact ⟨a, he, hsp, i3 _ _ _ (by simp at hs; omega) hu h⟩
      | own id gen off len =>
        simp only [AV.ren, VR] at h ⊢
        obtain ⟨hone, e, g, xs, nw, h1, h2, h3⟩ := h
        obtain ⟨k1, k2⟩ := hx.ids id _ (hu id (by simp [AV.ids])) h1
        refine ⟨hone, e, g, renss ρ xs, nw, k1, h2, fun hg => ?_⟩
        obtain ⟨b, o, cap, t, q, ad, p1, p2, p3, p4, p5, p6⟩ := h3 hg
        exact ⟨b, o, cap, t, q, ad, k2.trans p1, p2, p3, (hx.shape b).trans p4, p5, by rw [renss_length]; exact p6⟩
      | ref id gen i off =>
        simp only [AV.ren, VR] at h ⊢
        have hp := hu id (by simp [AV.ids])
        rcases h with ⟨cs, b, h1, h2, h3⟩ | ⟨hone, e, g, xs, nw, h1, h2, h3⟩
        · obtain ⟨k1, k2⟩ := hx.ids id _ hp h1
          exact .inl ⟨rens ρ cs, b, k1, k2.trans h2, h3⟩
        · obtain ⟨k1, k2⟩ := hx.ids id _ hp h1
          refine .inr ⟨hone, e, g, renss ρ xs, nw, k1, h2, fun hg => ?_⟩
          obtain ⟨b, o, p1, p2⟩ := h3 hg
          exact ⟨b, o, k2.trans p1, p2⟩
      | fn f caps => simp only [AV.ren, VR] at h ⊢; simp only [AV.ids] at hu; obtain ⟨ccs, e, h⟩ := h; exact ⟨ccs, e, i5 _ _ (by simp at hs; omega) hu h⟩
      | mp id =>
        simp only [AV.ren, VR] at h ⊢
        obtain ⟨es, b, o, h1, h2, h3⟩ := h
        obtain ⟨k1, k2⟩ := hx.ids id _ (hu id (by simp [AV.ids])) h1
        exact ⟨_, b, o, k1, k2.trans h2, h3⟩
      | ifc => simp only [AV.ren, VR] at h ⊢; exact h
      | it id =>
        simp only [AV.ren, VR] at h ⊢
        obtain ⟨s, p, b, o, h1, h2, h3⟩ := h
        obtain ⟨k1, k2⟩ := hx.ids id _ (hu id (by simp [AV.ids])) h1
        exact ⟨s, p, b, o, k1, k2.trans h2, h3⟩
      | yl id =>
        simp only [AV.ren, VR] at h ⊢
        obtain ⟨kk, env, s, b, o, h1, h2, h3⟩ := h
        obtain ⟨k1, k2⟩ := hx.ids id _ (hu id (by simp [AV.ids])) h1
        exact ⟨kk, _, s, b, o, k1, k2.trans h2, h3⟩
    · intro az cs hs hu h
      cases az with
      | nil => simpa only [rens, VRs] using h
      | cons a az =>
        simp only [rens, VRs] at h ⊢
        simp only [idss, List.mem_append] at hu
        obtain ⟨c, r, e, h1, h2⟩ := h
        simp at hs
        exact ⟨c, r, e, ⟨i1 _ _ (by omega) (fun i hi => hu i (.inl hi)) h1.1, h1.2⟩, i2 _ _ (by omega) (fun i hi => hu i (.inr hi)) h2⟩
    · intro az ad k hs hu h
      cases az with
      | nil => simp only [rens, VRat]
      | cons a az =>
        simp only [rens, VRat] at h ⊢
        simp only [idss, List.mem_append] at hu
        obtain ⟨⟨c, h1, h2⟩, h3⟩ := h
        simp at hs
        exact ⟨⟨c, hx.keep _ _ h1, i1 _ _ (by omega) (fun i hi => hu i (.inl hi)) h2.1, h2.2⟩, i3 _ _ _ (by omega) (fun i hi => hu i (.inr hi)) h3⟩
    · intro xs a e k hs hu h
      cases xs with
      | nil => simp only [renss, VRrow]
      | cons c cs =>
        simp only [renss, VRrow, rens_length] at h ⊢
        simp only [idsss, List.mem_append] at hu
        obtain ⟨⟨h1, ad, h2, hsp, h3⟩, h4⟩ := h
        simp at hs
        exact ⟨⟨h1, ad, h2, hsp, i3 _ _ _ (by omega) (fun i hi => hu i (.inl hi)) h3⟩, i4 _ _ _ _ (by omega) (fun i hi => hu i (.inr hi)) h4⟩
    · intro az cs hs hu h
      cases az with
      | nil => simpa only [rens, VRt] using h
      | cons a az =>
        simp only [rens, VRt] at h ⊢
        simp only [idss, List.mem_append] at hu
        obtain ⟨c, r, e, h1, h2⟩ := h
        simp at hs
        exact ⟨c, r, e, i1 _ _ (by omega) (fun i hi => hu i (.inl hi)) h1, i5 _ _ (by omega) (fun i hi => hu i (.inr hi)) h2⟩
theorem VR_ren {ρ : Nat → Nat} {p : Nat → Prop} {C D : Ctx} (hx : Ren ρ p C D) {a : AV} {c : Value} (hu : ∀ i, i ∈ a.ids → p i) (h : VR C a c) : VR D (a.ren ρ) c := (VR_ren_all hx (SizeOf.sizeOf a + 1)).1 a c (by omega) hu h
theorem VRs_ren {ρ : Nat → Nat} {p : Nat → Prop} {C D : Ctx} (hx : Ren ρ p C D) {a : List AV} {c : List Value} (hu : ∀ i, i ∈ idss a → p i) (h : VRs C a c) : VRs D (rens ρ a) c := (VR_ren_all hx (SizeOf.sizeOf a + 1)).2.1 a c (by omega) hu h
theorem VRt_ren {ρ : Nat → Nat} {p : Nat → Prop} {C D : Ctx} (hx : Ren ρ p C D) {a : List AV} {c : List Value} (hu : ∀ i, i ∈ idss a → p i) (h : VRt C a c) : VRt D (rens ρ a) c := (VR_ren_all hx (SizeOf.sizeOf a + 1)).2.2.2.2 a c (by omega) hu h
theorem ObR_ren {ρ : Nat → Nat} {p : Nat → Prop} {C D : Ctx} (hx : Ren ρ p C D) (hh : ∀ b : Nat, D.w.heap[b]? = C.w.heap[b]?) {b o : Nat} {ob : Ob} (hu : ∀ i, i ∈ ob.ids → p i) (h : ObR C b o ob) : ObR D b o (ob.ren ρ) := by
  cases ob with
  | box cs =>
    simp only [Ob.ren, ObR, hh] at h ⊢
    obtain ⟨h0, ccs, t, h3, h4⟩ := h
    exact ⟨h0, ccs, t, h3, VRs_ren hx hu h4⟩
  | row e g xs nw =>
    simp only [Ob.ren, ObR, RowAt, hh, renss_length, renss_flat] at h ⊢
    obtain ⟨ccs, t, h3, h4, h5, h6⟩ := h
    refine ⟨ccs, t, h3, ?_, h5, VRs_ren hx (fun i hi => hu i (idsss_flat.2 hi)) h6⟩
    intro c hc
    rw [renss_map] at hc
    obtain ⟨d, hd, rfl⟩ := List.mem_map.1 hc
    rw [rens_length]
    exact h4 d hd
  | map es =>
    simp only [Ob.ren, ObR, hh] at h ⊢
    obtain ⟨en, cl, h1, h0, h2, h3⟩ := h
    refine ⟨en, cl, h1, h0, by rw [List.length_map]; exact h2, fun i p m k1 k2 => ?_⟩
    simp only [List.getElem?_map, Option.map_eq_some_iff] at k1
    obtain ⟨q, k1, rfl⟩ := k1
    obtain ⟨g1, g2, g3⟩ := h3 i q m k1 k2
    refine ⟨g1, by rw [show (q.2.ren ρ).tuple = q.2.tuple from by cases q.2 <;> simp only [AV.ren, AV.tuple]]; exact g2, VR_ren hx (fun j hj => hu j ?_) g3⟩
    simp only [Ob.ids, List.mem_flatten, List.mem_map]
    exact ⟨_, ⟨q, List.mem_of_getElem? k1, rfl⟩, hj⟩
  | sit s p => simp only [Ob.ren, ObR, hh] at h ⊢; exact h
  | loop k env s =>
    simp only [Ob.ren, ObR, hh] at h ⊢
    obtain ⟨r, cs, h1, h2, h3⟩ := h
    exact ⟨r, cs, h1, h2, VRt_ren hx hu h3⟩
theorem wr_ren {ρ : Nat → Nat} {o off : Nat} {ob : Ob} : (ob.ren ρ).wr o off ↔ ob.wr o off := by
  cases ob <;> simp only [Ob.ren, Ob.wr, renss_length]
theorem next_ren {ρ : Nat → Nat} {a b : Ob} : Ob.next a (b.ren ρ) ↔ Ob.next a b := by
  cases a <;> cases b <;> simp only [Ob.ren, Ob.next]
theorem still_ren {ρ : Nat → Nat} {a b : Ob} : Ob.still a (b.ren ρ) ↔ Ob.still a b := by
  cases a <;> cases b <;> simp only [Ob.ren, Ob.still, renss_length]
theorem moved_ren {ρ : Nat → Nat} {a b : Ob} : Ob.moved a (b.ren ρ) ↔ Ob.moved a b := by
  cases a <;> cases b <;> simp only [Ob.ren, Ob.moved]
theorem next_ren' {ρ : Nat → Nat} {a b : Ob} : Ob.next (a.ren ρ) b ↔ Ob.next a b := by
  cases a <;> cases b <;> simp only [Ob.ren, Ob.next]
theorem still_ren' {ρ : Nat → Nat} {a b : Ob} : Ob.still (a.ren ρ) b ↔ Ob.still a b := by
  cases a <;> cases b <;> simp only [Ob.ren, Ob.still, renss_length]
theorem moved_ren' {ρ : Nat → Nat} {a b : Ob} : Ob.moved (a.ren ρ) b ↔ Ob.moved a b := by
  cases a <;> cases b <;> simp only [Ob.ren, Ob.moved]
def Ctx.sel (C : Ctx) (l : List Nat) (X : Nat → Nat → Prop) : Ctx := ⟨C.w, l.map fun i => C.B.getD i (0, 0), Ev.sel C.st (pos l) l, X⟩
theorem getD_of {B : List (Nat × Nat)} {i : Nat} {x : Nat × Nat} (h : B[i]? = some x) : B.getD i (0, 0) = x := by simp [List.getD, h]
section
variable {C : Ctx} {l : List Nat} {X : Nat → Nat → Prop}
theorem selB (hO : C.OK) (hc : closedB C.st l l = true) {k b o : Nat} (h : (C.sel l X).B[k]? = some (b, o)) : ∃ i, l[k]? = some i ∧ C.B[i]? = some (b, o) := by
  simp only [Ctx.sel, List.getElem?_map, Option.map_eq_some_iff] at h
  obtain ⟨i, h1, h2⟩ := h
  obtain ⟨ob, h3, _⟩ := closedB_ok hc i (List.mem_of_getElem? h1)
  obtain ⟨b', o', h4, _⟩ := hO.get h3
  rw [getD_of h4] at h2
  cases h2
  exact ⟨i, h1, h4⟩
theorem selB' (hO : C.OK) (hc : closedB C.st l l = true) {k i : Nat} (h : l[k]? = some i) : (C.sel l X).B[k]? = C.B[i]? := by
  obtain ⟨ob, h3, _⟩ := closedB_ok hc i (List.mem_of_getElem? h)
  obtain ⟨b', o', h4, _⟩ := hO.get h3
  simp only [Ctx.sel, List.getElem?_map, h, Option.map_some, getD_of h4, h4]
theorem selS (hc : closedB C.st l l = true) {k : Nat} {ob : Ob} (h : (C.sel l X).st[k]? = some ob) : ∃ i ob', l[k]? = some i ∧ C.st[i]? = some ob' ∧ ob = ob'.ren (pos l) := by
  simp only [Ctx.sel] at h
  rw [sel_get (fun i hi => (closedB_ok hc i hi).imp fun _ q => q.1)] at h
  simp only [Option.bind_eq_some_iff, Option.map_eq_some_iff] at h
  obtain ⟨i, h1, ob', h2, h3⟩ := h
  exact ⟨i, ob', h1, h2, h3.symm⟩
theorem selS' (hc : closedB C.st l l = true) {k i : Nat} {ob : Ob} (h : l[k]? = some i) (h2 : C.st[i]? = some ob) : (C.sel l X).st[k]? = some (ob.ren (pos l)) := by
  simp only [Ctx.sel]
  rw [sel_get (fun i hi => (closedB_ok hc i hi).imp fun _ q => q.1), h]
  simp [h2]
theorem sel_Wr (hO : C.OK) (hc : closedB C.st l l = true) {b o : Nat} (h : (C.sel l X).Wr b o) : C.Wr b o := by
  obtain ⟨k, o', ob, h1, h2, h3⟩ := h
  obtain ⟨i, q1, q2⟩ := selB hO hc h1
  obtain ⟨i', ob', q3, q4, rfl⟩ := selS hc h2
  rw [q1] at q3
  cases q3
  exact ⟨i, o', ob', q2, q4, wr_ren.1 h3⟩
theorem sel_ren (hO : C.OK) (hc : closedB C.st l l = true) (hX : ∀ b o, X b o → C.Wr b o ∨ C.X b o) : Ren (pos l) (· ∈ l) C (C.sel l X) where
  keep := fun ad c h => ⟨h.1, fun hw => h.2.1 (sel_Wr hO hc hw), fun hx => (hX _ _ hx).elim h.2.1 h.2.2⟩
  ids := fun i ob hi h => ⟨selS' hc (pos_get hi) h, selB' hO hc (pos_get hi)⟩
  shape := fun b => rfl
theorem sel_ok (hO : C.OK) (hc : closedB C.st l l = true) (hn : nodupB l = true) (hX : ∀ b o, X b o → C.Wr b o ∨ C.X b o) (hD : ∀ k b o off : Nat, (C.sel l X).B[k]? = some (b, o) → ¬ X b off) (hlt : ∀ b o, X b o → b < C.w.heap.size) : (C.sel l X).OK where
  len := by
    simp only [Ctx.sel, List.length_map]
    rw [sel_length fun i hi => (closedB_ok hc i hi).imp fun _ q => q.1]
  inj := fun i j b o o' h1 h2 => by
    obtain ⟨x, q1, q2⟩ := selB hO hc h1
    obtain ⟨y, q3, q4⟩ := selB hO hc h2
    have := hO.inj x y b o o' q2 q4
    subst this
    exact nodupB_ok hn i j x q1 q3
  dis := hD
  xlt := hlt
  obs := fun k ob b o h1 h2 => by
    obtain ⟨i, q1, q2⟩ := selB hO hc h2
    obtain ⟨i', ob', q3, q4, rfl⟩ := selS hc h1
    rw [q1] at q3
    cases q3
    obtain ⟨ob2, q5, q6⟩ := closedB_ok hc i (List.mem_of_getElem? q1)
    rw [q4] at q5
    cases q5
    exact ObR_ren (sel_ren hO hc hX) (fun b => rfl) q6 (hO.obs i ob' b o q4 q2)
end
theorem sel_ext {C D : Ctx} (hx : Ext C D) (hO : D.OK) {o : List Nat} (hc : closedB D.st (upto C.st.length 0 ++ o) (upto C.st.length 0 ++ o) = true) : Ext C (D.sel (upto C.st.length 0 ++ o) D.X) where
  X := hx.X
  os := hx.os
  tape := hx.tape
  out := hx.out
  size := hx.size
  keep := fun ad c h => (sel_ren hO hc fun b o h => .inr h).keep ad c (hx.keep ad c h)
  ids := fun i ob h => by
    have hi : i < C.st.length := (List.getElem?_eq_some_iff.1 h).1
    obtain ⟨ob', h1, h2, h3⟩ := hx.ids i ob h
    have hl : (upto C.st.length 0 ++ o)[i]? = some i := by
      rw [List.getElem?_append_left (by rw [upto_length]; exact hi), upto_get, if_pos hi, Nat.zero_add]
    refine ⟨_, selS' hc hl h1, next_ren.2 h2, ?_⟩
    rw [selB' hO hc hl]
    rcases h3 with ⟨h3, h4⟩ | h3
    · exact .inl ⟨still_ren.2 h3, h4⟩
    · exact .inr (moved_ren.2 h3)
  shape := hx.shape
  frame := hx.frame
  fresh := fun i b o h => by
    obtain ⟨x, _, h2⟩ := selB hO hc h
    exact hx.fresh x b o h2
theorem renEnv_get {ρ : Nat → Nat} : ∀ {e : Env} {t : Nat} {v : AV}, (renEnv ρ e).get t = some v → ∃ v0, e.get t = some v0 ∧ v = v0.ren ρ
  | [], t, v, h => by simp [renEnv, Env.get] at h
  | (k, a) :: r, t, v, h => by
    simp only [renEnv, Env.get] at h ⊢
    by_cases e : k = t
    · rw [if_pos e] at h ⊢; cases h; exact ⟨a, rfl, rfl⟩
    · rw [if_neg e] at h ⊢; exact renEnv_get h
theorem envIds_get : ∀ {e : Env} {t : Nat} {v : AV}, e.get t = some v → ∀ i, i ∈ v.ids → i ∈ envIds e
  | [], t, v, h, i, hi => by simp [Env.get] at h
  | (k, a) :: r, t, v, h, i, hi => by
    simp only [Env.get] at h
    simp only [envIds, List.mem_append]
    by_cases e : k = t
    · rw [if_pos e] at h; cases h; exact .inl hi
    · rw [if_neg e] at h; exact .inr (envIds_get h i hi)
theorem keep_sub : ∀ {live : List Nat} {e : Env} {t : Nat} {v : AV}, (Env.keep e live).get t = some v → e.get t = some v ∧ t ∈ live
  | [], e, t, v, h => by cases h
  | i :: l, e, t, v, h => by
    simp only [Env.keep] at h
    cases hi : e.get i with
    | none => rw [hi] at h; obtain ⟨h1, h2⟩ := keep_sub h; exact ⟨h1, List.mem_cons_of_mem _ h2⟩
    | some a =>
      rw [hi] at h
      simp only [Env.get] at h
      split at h
      · rename_i e1
        cases h
        subst e1
        exact ⟨hi, List.mem_cons_self⟩
      · obtain ⟨h1, h2⟩ := keep_sub h
        exact ⟨h1, List.mem_cons_of_mem _ h2⟩
theorem compact_get {bases live : List Nat} {n0 : Nat} {e : Env} {st : Store} {t : Nat} {v : AV} (h : (compact bases n0 live e st).1.get t = some v) : t ∈ live := by
  unfold compact at h
  split at h
  · dsimp only at h
    split at h
    · obtain ⟨v0, h1, _⟩ := renEnv_get h
      exact (keep_sub h1).2
    · exact (keep_sub h).2
  · exact (keep_sub h).2
theorem compact_ok2 {C D : Ctx} {bases live : List Nat} {e e' : Env} {st' : Store} (hx : Ext C D) (hO : D.OK) (h : compact bases C.st.length live e D.st = (e', st')) :
    ∃ D', D'.w = D.w ∧ Ext C D' ∧ D'.OK ∧ D'.st = st' ∧ (∀ (t : Nat) (v : AV), e'.get t = some v → ∃ v0, e.get t = some v0 ∧ ∀ c, VR D v0 c → VR D' v c) ∧ ∀ i b o : Nat, D'.B[i]? = some (b, o) → ∃ j : Nat, D.B[j]? = some (b, o) := by
  unfold compact at h
  split at h
  · dsimp only at h
    split at h
    · rename_i hc
      simp only [Bool.and_eq_true] at hc
      obtain ⟨⟨c1, c2⟩, c3⟩ := hc
      cases h
      refine ⟨D.sel _ D.X, rfl, sel_ext hx hO c1, sel_ok hO c1 c2 (fun b o h => .inr h) ?_ hO.xlt, rfl, ?_, fun k b o hk => let ⟨i, _, h2⟩ := selB hO c1 hk; ⟨i, h2⟩⟩
      · intro k b o off hk
        obtain ⟨i, _, h2⟩ := selB hO c1 hk
        exact hO.dis i b o off h2
      · intro t v ht
        obtain ⟨v0, h1, rfl⟩ := renEnv_get ht
        refine ⟨v0, (keep_sub h1).1, fun c hc => VR_ren (sel_ren hO c1 fun b o h => .inr h) (fun i hi => ?_) hc⟩
        have := List.all_eq_true.1 c3 i (envIds_get h1 i hi)
        simpa using this
    · cases h
      exact ⟨D, rfl, hx, hO, rfl, fun t v ht => ⟨v, (keep_sub ht).1, fun c hc => hc⟩, fun i b o h => ⟨i, h⟩⟩
  · cases h
    exact ⟨D, rfl, hx, hO, rfl, fun t v ht => ⟨v, (keep_sub ht).1, fun c hc => hc⟩, fun i b o h => ⟨i, h⟩⟩
theorem compact_ok {C D : Ctx} {bases live : List Nat} {e e' : Env} {st' : Store} (hx : Ext C D) (hO : D.OK) (h : compact bases C.st.length live e D.st = (e', st')) :
    ∃ D', D'.w = D.w ∧ Ext C D' ∧ D'.OK ∧ D'.st = st' ∧ ∀ (t : Nat) (v : AV), e'.get t = some v → ∃ v0, e.get t = some v0 ∧ ∀ c, VR D v0 c → VR D' v c :=
  let ⟨D', h1, h2, h3, h4, h5, _⟩ := compact_ok2 hx hO h
  ⟨D', h1, h2, h3, h4, h5⟩
end Go.Proofs.YtoobogpbejdocaaDoor.Ev
