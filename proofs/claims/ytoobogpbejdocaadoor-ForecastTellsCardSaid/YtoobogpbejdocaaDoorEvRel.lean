import Derived.Test.YtoobogpbejdocaaDoorEvLc
import Derived.Below
import Derived.MapKept
set_option linter.unusedVariables false
set_option linter.unusedSectionVars false
set_option linter.unusedSimpArgs false
namespace Go.Proofs.YtoobogpbejdocaaDoor.Ev
structure Ctx where
  w : World
  B : List (Nat × Nat)
  st : Store
  X : Nat → Nat → Prop
def Ob.wr (o : Nat) : Ob → Nat → Prop
  | .row e _ xs nw, off => nw = true → o + xs.length * e ≤ off
  | _, _ => True
def Ctx.Wr (C : Ctx) (b off : Nat) : Prop := ∃ (i o : Nat) (ob : Ob), C.B[i]? = some (b, o) ∧ C.st[i]? = some ob ∧ ob.wr o off
def Ctx.stable (C : Ctx) (ad : Addr) (c : Value) : Prop := C.w.cell? ad = some c ∧ ¬ C.Wr ad.block ad.off ∧ ¬ C.X ad.block ad.off
mutual
def VR (C : Ctx) : AV → Value → Prop
  | .v x, c => c = x ∧ x.oneCell' = true
  | .agg cs, c => ∃ ccs : Array Value, c = .agg ccs ∧ VRs C cs ccs.toList
  | .tup cs, c => ∃ ccs : Array Value, c = .tuple ccs ∧ VRt C cs ccs.toList
  | .sl e xs, c => ∃ a cap, c = .slice a xs.length cap ∧ (xs.length ≤ cap ∧ a.isSome = true) ∧ VRrow C a e xs 0
  | .rop cs, c => ∃ a, c = .pointer (some a) ∧ a.spot = none ∧ VRat C a cs 0
  | .own id gen off len, c => c.oneCell' = true ∧ ∃ e g xs nw, C.st[id]? = some (.row e g xs nw) ∧ gen ≤ g ∧ (g = gen → ∃ b o cap t n ad, C.B[id]? = some (b, o) ∧ (c = .slice (some ad) len cap ∧ (0 < cap → ad = ⟨b, o + off * e, none⟩)) ∧
      len ≤ cap ∧ C.w.shape? b = some (t, n) ∧ o + (off + cap) * e ≤ n ∧ off + len ≤ xs.length)
  | .ref id gen i off, c => (∃ cs b, C.st[id]? = some (.box cs) ∧ C.B[id]? = some (b, 0) ∧ c = .pointer (some ⟨b, off, none⟩)) ∨
      (c.oneCell' = true ∧ ∃ e g xs nw, C.st[id]? = some (.row e g xs nw) ∧ gen ≤ g ∧ (g = gen → ∃ b o, C.B[id]? = some (b, o) ∧ c = .pointer (some ⟨b, o + i * e + off, none⟩)))
  | .fn f caps, c => ∃ ccs : Array Value, (c = .func (.func f) #[] ccs ∧ f < yB) ∧ VRt C caps ccs.toList
  | .mp id, c => ∃ es b o, C.st[id]? = some (.map es) ∧ C.B[id]? = some (b, o) ∧ c = .map (some b)
  | .it id, c => ∃ s p b o, C.st[id]? = some (.sit s p) ∧ C.B[id]? = some (b, o) ∧ c = .pointer (some ⟨b, 0, none⟩)
  | .yl id, c => ∃ k env s b o, C.st[id]? = some (.loop k env s) ∧ C.B[id]? = some (b, o) ∧ c = .func (.yield b) #[] #[]
  | .ifc, c => ∃ t p, c = .iface t p
def VRs (C : Ctx) : List AV → List Value → Prop
  | [], cs => cs = []
  | a :: az, cs => ∃ c r, cs = c :: r ∧ (VR C a c ∧ c.oneCell' = true) ∧ VRs C az r
def VRt (C : Ctx) : List AV → List Value → Prop
  | [], cs => cs = []
  | a :: az, cs => ∃ c r, cs = c :: r ∧ VR C a c ∧ VRt C az r
def VRat (C : Ctx) (ad : Addr) : List AV → Nat → Prop
  | [], _ => True
  | a :: az, k => (∃ c, C.stable (ad.add k) c ∧ VR C a c ∧ c.oneCell' = true) ∧ VRat C ad az (k + 1)
def VRrow (C : Ctx) (a : Option Addr) (e : Nat) : List (List AV) → Nat → Prop
  | [], _ => True
  | c :: cs, n => (c.length = e ∧ ∃ ad, a = some ad ∧ ad.spot = none ∧ VRat C ad c (n * e)) ∧ VRrow C a e cs (n + 1)
end
def MapR (C : Ctx) (es : List (Value × AV)) (en : List MapEntry) : Prop :=
  es.length = en.length ∧ ∀ (i : Nat) (p : Value × AV) (m : MapEntry), es[i]? = some p → en[i]? = some m → m.key = p.1 ∧ p.2.tuple = false ∧ VR C p.2 m.val
def RowAt (w : World) (b : Nat) (ccs : Array Value) (t : TypeId) (nw : Bool) : Prop := ∃ fr : Nat × Nat, w.heap[b]? = some (.cells ccs t fr) ∧ (fr = (0, 0) ∨ (nw = true ∧ ccs.size ≤ fr.1))
def jumpC : Nat → Code
  | 0 => .skip
  | 1 => .ret
  | n + 2 => .exit n
def LS.is : LS → Loop → Prop
  | .rdy, r => r.state = .ready ∧ r.pending = none
  | .busy, r => r.state = .busy
  | .done n, r => r.state = .done ∧ r.pending = some (jumpC n)
  | .over, _ => True
structure LoopAt (k : Nat) (s : LS) (r : Loop) (cs : List Value) : Prop where
  big : yB ≤ k
  ps : r.params = (LC k).ps
  asg : r.assign = (LC k).asg
  body : r.body = (LC k).body
  n : r.tmps.size = (LC k).n
  s : s.is r
  len : cs.length = (LC k).vars.length
  at_ : ∀ j t : Nat, (LC k).vars[j]? = some t → r.tmps[t]? = cs[j]?
def ObR (C : Ctx) (b o : Nat) : Ob → Prop
  | .box cs => o = 0 ∧ ∃ ccs t, C.w.heap[b]? = some (.cells ccs t (0, 0)) ∧ VRs C cs ccs.toList
  | .row e g xs nw => ∃ ccs t, RowAt C.w b ccs t nw ∧ (∀ c, c ∈ xs → c.length = e) ∧ o + xs.length * e ≤ ccs.size ∧ VRs C xs.flatten ((ccs.toList.drop o).take (xs.length * e))
  | .map es => ∃ en clock, C.w.heap[b]? = some (.map en clock) ∧ MapKept.Stamped en clock ∧ MapR C es en.toList
  | .sit s p => C.w.heap[b]? = some (.stringIter s p)
  | .loop k env s => ∃ r cs, C.w.heap[b]? = some (.loop r) ∧ LoopAt k s r cs ∧ VRt C env cs
structure Ctx.OK (C : Ctx) : Prop where
  len : C.B.length = C.st.length
  inj : ∀ i j b o o' : Nat, C.B[i]? = some (b, o) → C.B[j]? = some (b, o') → i = j
  dis : ∀ i b o off : Nat, C.B[i]? = some (b, o) → ¬ C.X b off
  xlt : ∀ b off, C.X b off → b < C.w.heap.size
  obs : ∀ (i : Nat) (ob : Ob) (b o : Nat), C.st[i]? = some ob → C.B[i]? = some (b, o) → ObR C b o ob
def Ob.next : Ob → Ob → Prop
  | .box _, .box _ => True
  | .row e g _ _, .row e' g' _ _ => e' = e ∧ g ≤ g'
  | .map _, .map _ => True
  | .sit _ _, .sit _ _ => True
  | .loop k _ _, .loop k' _ _ => k' = k
  | _, _ => False
def Ob.still : Ob → Ob → Prop
  | .row _ g xs _, .row _ g' xs' _ => g = g' ∧ xs.length = xs'.length
  | _, _ => True
def Ob.moved : Ob → Ob → Prop
  | .row _ g _ _, .row _ g' _ _ => g < g'
  | _, _ => False
theorem Ob.next_refl (o : Ob) : Ob.next o o := by cases o <;> simp [Ob.next]
theorem Ob.next_trans {a b c : Ob} (h : Ob.next a b) (k : Ob.next b c) : Ob.next a c := by
  cases a <;> cases b <;> cases c <;> simp_all [Ob.next]
  omega
structure Ext (C D : Ctx) : Prop where
  X : D.X = C.X
  os : D.w.os = C.w.os
  tape : D.w.tape = C.w.tape
  out : D.w.output = C.w.output
  size : C.w.heap.size ≤ D.w.heap.size
  keep : ∀ ad c, C.stable ad c → D.stable ad c
  ids : ∀ (i : Nat) (ob : Ob), C.st[i]? = some ob → ∃ ob', D.st[i]? = some ob' ∧ Ob.next ob ob' ∧ ((Ob.still ob ob' ∧ D.B[i]? = C.B[i]?) ∨ Ob.moved ob ob')
  shape : ∀ b, b < C.w.heap.size → D.w.shape? b = C.w.shape? b
  frame : ∀ b, b < C.w.heap.size → (∀ (i o : Nat), C.B[i]? ≠ some (b, o)) → D.w.heap[b]? = C.w.heap[b]?
  fresh : ∀ i b o : Nat, D.B[i]? = some (b, o) → (∃ j o' : Nat, C.B[j]? = some (b, o')) ∨ C.w.heap.size ≤ b
theorem Ext.refl (C : Ctx) : Ext C C :=
  ⟨rfl, rfl, rfl, rfl, Nat.le_refl _, fun _ _ h => h, fun i ob h => ⟨ob, h, Ob.next_refl ob, .inl ⟨by cases ob <;> simp [Ob.still], rfl⟩⟩, fun _ _ => rfl, fun _ _ _ => rfl, fun i b o h => .inl ⟨i, o, h⟩⟩
theorem Ext.trans {C D E : Ctx} (h : Ext C D) (k : Ext D E) : Ext C E where
  X := k.X.trans h.X
  os := k.os.trans h.os
  tape := k.tape.trans h.tape
  out := k.out.trans h.out
  size := Nat.le_trans h.size k.size
  keep := fun ad c hc => k.keep ad c (h.keep ad c hc)
  ids := fun i ob ho => by
    obtain ⟨o1, h1, n1, s1⟩ := h.ids i ob ho
    obtain ⟨o2, h2, n2, s2⟩ := k.ids i o1 h1
    refine ⟨o2, h2, Ob.next_trans n1 n2, ?_⟩
    rcases s1 with ⟨t1, b1⟩ | m1
    · rcases s2 with ⟨t2, b2⟩ | m2
      · refine .inl ⟨?_, b2.trans b1⟩
        cases ob <;> cases o1 <;> cases o2 <;> simp_all [Ob.still, Ob.next]
      · refine .inr ?_
        cases ob <;> cases o1 <;> cases o2 <;> simp_all [Ob.still, Ob.next, Ob.moved]
    · refine .inr ?_
      cases ob <;> cases o1 <;> cases o2 <;> simp_all [Ob.still, Ob.next, Ob.moved]
      omega
  shape := fun b hb => (k.shape b (Nat.lt_of_lt_of_le hb h.size)).trans (h.shape b hb)
  frame := fun b hb hn => by
    rw [k.frame b (Nat.lt_of_lt_of_le hb h.size) (fun i o hi => ?_), h.frame b hb hn]
    rcases h.fresh i b o hi with ⟨j, o', hj⟩ | hle
    · exact hn j o' hj
    · omega
  fresh := fun i b o hi => by
    rcases k.fresh i b o hi with ⟨j, o', hj⟩ | hle
    · exact h.fresh j b o' hj
    · exact .inr (Nat.le_trans h.size hle)
theorem shape_lt {w : World} {b t n : Nat} (h : w.shape? b = some (t, n)) : b < w.heap.size := by
  unfold World.shape? at h
  cases hb : w.heap[b]? with
  | none => rw [hb] at h; cases h
  | some o => exact (Array.getElem?_eq_some_iff.1 hb).1
structure Ex3 (C D : Ctx) : Prop where
  keep : ∀ ad c, C.stable ad c → D.stable ad c
  ids : ∀ (i : Nat) (ob : Ob), C.st[i]? = some ob → ∃ ob', D.st[i]? = some ob' ∧ Ob.next ob ob' ∧ ((Ob.still ob ob' ∧ D.B[i]? = C.B[i]?) ∨ Ob.moved ob ob')
  shape : ∀ b, b < C.w.heap.size → D.w.shape? b = C.w.shape? b
theorem Ext.e3 {C D : Ctx} (h : Ext C D) : Ex3 C D := ⟨h.keep, h.ids, h.shape⟩
theorem VR_ext_all {C D : Ctx} (hx : Ex3 C D) : ∀ n,
    (∀ (a : AV) (c : Value), SizeOf.sizeOf a < n → VR C a c → VR D a c) ∧
    (∀ (az : List AV) (cs : List Value), SizeOf.sizeOf az < n → VRs C az cs → VRs D az cs) ∧
    (∀ (az : List AV) (ad : Addr) (k : Nat), SizeOf.sizeOf az < n → VRat C ad az k → VRat D ad az k) ∧
    (∀ (xs : List (List AV)) (a : Option Addr) (e k : Nat), SizeOf.sizeOf xs < n → VRrow C a e xs k → VRrow D a e xs k) ∧
    (∀ (az : List AV) (cs : List Value), SizeOf.sizeOf az < n → VRt C az cs → VRt D az cs) := by
  intro n
  induction n with
  | zero => exact ⟨fun _ _ h => absurd h (by omega), fun _ _ h => absurd h (by omega), fun _ _ _ h => absurd h (by omega), fun _ _ _ _ h => absurd h (by omega), fun _ _ h => absurd h (by omega)⟩
  | succ n ih =>
    obtain ⟨i1, i2, i3, i4, i5⟩ := ih
    refine ⟨?_, ?_, ?_, ?_, ?_⟩
    · intro a c hs h
      cases a with
      | v x => simpa only [VR] using h
      | agg cs => simp only [VR] at h ⊢; obtain ⟨ccs, e, h⟩ := h; exact ⟨ccs, e, i2 _ _ (by simp at hs; omega) h⟩
      | tup cs => simp only [VR] at h ⊢; obtain ⟨ccs, e, h⟩ := h; exact ⟨ccs, e, i5 _ _ (by simp at hs; omega) h⟩
      | sl e xs => simp only [VR] at h ⊢; obtain ⟨a, cap, he, hle, h⟩ := h; exact ⟨a, cap, he, hle, i4 _ _ _ _ (by simp at hs; omega) h⟩
      | rop cs => simp only [VR] at h ⊢; obtain ⟨a, he, hsp, h⟩ := h; exact ⟨a, he, hsp, i3 _ _ _ (by simp at hs; omega) h⟩
      | own id gen off len =>
        simp only [VR] at h ⊢
        obtain ⟨hone, e, g, xs, nw, h1, h2, h3⟩ := h
        obtain ⟨ob', k1, k2, k3⟩ := hx.ids id _ h1
        cases ob' with
        | row e' g' xs' nw' =>
          obtain ⟨rfl, hg⟩ := k2
          refine ⟨hone, e', g', xs', nw', k1, by omega, fun hgg => ?_⟩
          rcases k3 with ⟨⟨k3, k5⟩, k4⟩ | k3
          · obtain ⟨b, o, cap, t, m, ad, p1, p2, p3, p4, p5, p6⟩ := h3 (by omega)
            exact ⟨b, o, cap, t, m, ad, k4.trans p1, p2, p3, (hx.shape b (shape_lt p4)).trans p4, p5, by omega⟩
          · have : g < g' := k3
            omega
        | box _ => exact absurd k2 (by simp [Ob.next])
        | map _ => exact absurd k2 (by simp [Ob.next])
        | sit _ _ => exact absurd k2 (by simp [Ob.next])
        | loop _ _ _ => exact absurd k2 (by simp [Ob.next])
      | ref id gen i off =>
        simp only [VR] at h ⊢
        rcases h with ⟨cs, b, h1, h2, h3⟩ | ⟨hone, e, g, xs, nw, h1, h2, h3⟩
        · obtain ⟨ob', k1, k2, k3⟩ := hx.ids id _ h1
          cases ob' with
          | box cs' =>
            rcases k3 with ⟨_, k4⟩ | k3
            · exact .inl ⟨cs', b, k1, k4.trans h2, h3⟩
            · exact absurd k3 (by simp [Ob.moved])
          | row _ _ _ _ => exact absurd k2 (by simp [Ob.next])
          | map _ => exact absurd k2 (by simp [Ob.next])
          | sit _ _ => exact absurd k2 (by simp [Ob.next])
          | loop _ _ _ => exact absurd k2 (by simp [Ob.next])
        · obtain ⟨ob', k1, k2, k3⟩ := hx.ids id _ h1
          cases ob' with
          | row e' g' xs' nw' =>
            obtain ⟨rfl, hg⟩ := k2
            refine .inr ⟨hone, e', g', xs', nw', k1, by omega, fun hgg => ?_⟩
            rcases k3 with ⟨⟨k3, _⟩, k4⟩ | k3
            · obtain ⟨b, o, p1, p2⟩ := h3 (by omega)
              exact ⟨b, o, k4.trans p1, p2⟩
            · have : g < g' := k3
              omega
          | box _ => exact absurd k2 (by simp [Ob.next])
          | map _ => exact absurd k2 (by simp [Ob.next])
          | sit _ _ => exact absurd k2 (by simp [Ob.next])
          | loop _ _ _ => exact absurd k2 (by simp [Ob.next])
      | fn f caps => simp only [VR] at h ⊢; obtain ⟨ccs, e, h⟩ := h; exact ⟨ccs, e, i5 _ _ (by simp at hs; omega) h⟩
      | mp id =>
        simp only [VR] at h ⊢
        obtain ⟨es, b, o, h1, h2, h3⟩ := h
        obtain ⟨ob', k1, k2, k3⟩ := hx.ids id _ h1
        cases ob' with
        | map es' =>
          rcases k3 with ⟨_, k4⟩ | k3
          · exact ⟨es', b, o, k1, k4.trans h2, h3⟩
          · exact absurd k3 (by simp [Ob.moved])
        | row _ _ _ _ => exact absurd k2 (by simp [Ob.next])
        | box _ => exact absurd k2 (by simp [Ob.next])
        | sit _ _ => exact absurd k2 (by simp [Ob.next])
        | loop _ _ _ => exact absurd k2 (by simp [Ob.next])
      | ifc => simp only [VR] at h ⊢; exact h
      | it id =>
        simp only [VR] at h ⊢
        obtain ⟨s, p, b, o, h1, h2, h3⟩ := h
        obtain ⟨ob', k1, k2, k3⟩ := hx.ids id _ h1
        cases ob' with
        | sit s' p' =>
          rcases k3 with ⟨_, k4⟩ | k3
          · exact ⟨s', p', b, o, k1, k4.trans h2, h3⟩
          · exact absurd k3 (by simp [Ob.moved])
        | row _ _ _ _ => exact absurd k2 (by simp [Ob.next])
        | box _ => exact absurd k2 (by simp [Ob.next])
        | map _ => exact absurd k2 (by simp [Ob.next])
        | loop _ _ _ => exact absurd k2 (by simp [Ob.next])
      | yl id =>
        simp only [VR] at h ⊢
        obtain ⟨kk, env, s, b, o, h1, h2, h3⟩ := h
        obtain ⟨ob', k1, k2, k3⟩ := hx.ids id _ h1
        cases ob' with
        | loop k' env' s' =>
          rcases k3 with ⟨_, k4⟩ | k3
          · exact ⟨k', env', s', b, o, k1, k4.trans h2, h3⟩
          · exact absurd k3 (by simp [Ob.moved])
        | row _ _ _ _ => exact absurd k2 (by simp [Ob.next])
        | box _ => exact absurd k2 (by simp [Ob.next])
        | map _ => exact absurd k2 (by simp [Ob.next])
        | sit _ _ => exact absurd k2 (by simp [Ob.next])
    · intro az cs hs h
      cases az with
      | nil => simpa only [VRs] using h
      | cons a az =>
        simp only [VRs] at h ⊢
        obtain ⟨c, r, e, ⟨h1, hone⟩, h2⟩ := h
        simp at hs
        exact ⟨c, r, e, ⟨i1 _ _ (by omega) h1, hone⟩, i2 _ _ (by omega) h2⟩
    · intro az ad k hs h
      cases az with
      | nil => simp only [VRat]
      | cons a az =>
        simp only [VRat] at h ⊢
        obtain ⟨⟨c, h1, h2, hone⟩, h3⟩ := h
        simp at hs
        exact ⟨⟨c, hx.keep _ _ h1, i1 _ _ (by omega) h2, hone⟩, i3 _ _ _ (by omega) h3⟩
    · intro xs a e k hs h
      cases xs with
      | nil => simp only [VRrow]
      | cons c cs =>
        simp only [VRrow] at h ⊢
        obtain ⟨⟨h1, ad, h2, hsp, h3⟩, h4⟩ := h
        simp at hs
        exact ⟨⟨h1, ad, h2, hsp, i3 _ _ _ (by omega) h3⟩, i4 _ _ _ _ (by omega) h4⟩
    · intro az cs hs h
      cases az with
      | nil => simpa only [VRt] using h
      | cons a az =>
        simp only [VRt] at h ⊢
        obtain ⟨c, r, e, h1, h2⟩ := h
        simp at hs
        exact ⟨c, r, e, i1 _ _ (by omega) h1, i5 _ _ (by omega) h2⟩
theorem VR_ext {C D : Ctx} (hx : Ext C D) {a : AV} {c : Value} (h : VR C a c) : VR D a c := (VR_ext_all hx.e3 (SizeOf.sizeOf a + 1)).1 a c (by omega) h
theorem VRs_ext {C D : Ctx} (hx : Ext C D) {a : List AV} {c : List Value} (h : VRs C a c) : VRs D a c := (VR_ext_all hx.e3 (SizeOf.sizeOf a + 1)).2.1 a c (by omega) h
theorem VRt_ext {C D : Ctx} (hx : Ext C D) {a : List AV} {c : List Value} (h : VRt C a c) : VRt D a c := (VR_ext_all hx.e3 (SizeOf.sizeOf a + 1)).2.2.2.2 a c (by omega) h
theorem VRat_ext {C D : Ctx} (hx : Ext C D) {a : List AV} {ad : Addr} {k : Nat} (h : VRat C ad a k) : VRat D ad a k := (VR_ext_all hx.e3 (SizeOf.sizeOf a + 1)).2.2.1 a ad k (by omega) h
theorem VR_ex3 {C D : Ctx} (hx : Ex3 C D) {a : AV} {c : Value} (h : VR C a c) : VR D a c := (VR_ext_all hx (SizeOf.sizeOf a + 1)).1 a c (by omega) h
theorem VRs_ex3 {C D : Ctx} (hx : Ex3 C D) {a : List AV} {c : List Value} (h : VRs C a c) : VRs D a c := (VR_ext_all hx (SizeOf.sizeOf a + 1)).2.1 a c (by omega) h
theorem VRt_ex3 {C D : Ctx} (hx : Ex3 C D) {a : List AV} {c : List Value} (h : VRt C a c) : VRt D a c := (VR_ext_all hx (SizeOf.sizeOf a + 1)).2.2.2.2 a c (by omega) h
theorem VRat_ex3 {C D : Ctx} (hx : Ex3 C D) {a : List AV} {ad : Addr} {k : Nat} (h : VRat C ad a k) : VRat D ad a k := (VR_ext_all hx (SizeOf.sizeOf a + 1)).2.2.1 a ad k (by omega) h
theorem VRs_length {C : Ctx} : ∀ {az : List AV} {cs : List Value}, VRs C az cs → az.length = cs.length
  | [], cs, h => by simp only [VRs] at h; subst h; rfl
  | a :: az, cs, h => by simp only [VRs] at h; obtain ⟨c, r, rfl, _, h2⟩ := h; simp [VRs_length h2]
theorem VRs_get {C : Ctx} : ∀ {az : List AV} {cs : List Value}, VRs C az cs → ∀ (i : Nat) (a : AV), az[i]? = some a → ∃ c, cs[i]? = some c ∧ VR C a c ∧ c.oneCell' = true
  | [], cs, h, i, a, hi => by simp at hi
  | x :: az, cs, h, i, a, hi => by
    simp only [VRs] at h
    obtain ⟨c, r, rfl, h1, h2⟩ := h
    cases i with
    | zero => simp at hi; subst hi; exact ⟨c, rfl, h1⟩
    | succ i => simp at hi; obtain ⟨c', k1, k2⟩ := VRs_get h2 i a hi; exact ⟨c', by simpa using k1, k2⟩
theorem VRs_mk {C : Ctx} : ∀ {az : List AV} {cs : List Value}, az.length = cs.length → (∀ (i : Nat) (a : AV) (c : Value), az[i]? = some a → cs[i]? = some c → VR C a c ∧ c.oneCell' = true) → VRs C az cs
  | [], cs, hl, h => by simp only [VRs]; exact List.eq_nil_of_length_eq_zero hl.symm
  | x :: az, [], hl, h => by simp at hl
  | x :: az, c :: cs, hl, h => by
    simp only [VRs]
    exact ⟨c, cs, rfl, h 0 x c rfl rfl, VRs_mk (by simpa using hl) fun i a c' h1 h2 => h (i + 1) a c' (by simpa using h1) (by simpa using h2)⟩
theorem VRs_one {C : Ctx} {az : List AV} {cs : List Value} (h : VRs C az cs) : ∀ v, v ∈ cs → v.oneCell' = true := by
  intro v hv
  obtain ⟨i, hi⟩ := List.getElem?_of_mem hv
  have hl := VRs_length h
  have : i < az.length := by rw [hl]; exact (List.getElem?_eq_some_iff.1 hi).1
  obtain ⟨c, k1, _, k3⟩ := VRs_get h i _ (List.getElem?_eq_getElem this)
  rw [hi] at k1; cases k1; exact k3
theorem VRs_drop {C : Ctx} {az : List AV} {cs : List Value} (h : VRs C az cs) (n : Nat) : VRs C (az.drop n) (cs.drop n) :=
  VRs_mk (by simp [VRs_length h]) fun i a c h1 h2 => by
    rw [List.getElem?_drop] at h1 h2
    obtain ⟨c', k1, k2⟩ := VRs_get h _ _ h1
    rw [h2] at k1; cases k1; exact k2
theorem VRs_take {C : Ctx} {az : List AV} {cs : List Value} (h : VRs C az cs) (n : Nat) : VRs C (az.take n) (cs.take n) :=
  VRs_mk (by simp [VRs_length h]) fun i a c h1 h2 => by
    rw [List.getElem?_take] at h1 h2
    split at h1
    · rename_i hi
      rw [if_pos hi] at h2
      obtain ⟨c', k1, k2⟩ := VRs_get h _ _ h1
      rw [h2] at k1; cases k1; exact k2
    · cases h1
theorem VRs_append {C : Ctx} : ∀ {az bs : List AV} {cs ds : List Value}, VRs C az cs → VRs C bs ds → VRs C (az ++ bs) (cs ++ ds)
  | [], bs, cs, ds, h, k => by simp only [VRs] at h; subst h; simpa using k
  | a :: az, bs, cs, ds, h, k => by
    simp only [VRs] at h
    obtain ⟨c, r, rfl, h1, h2⟩ := h
    simp only [List.cons_append, VRs]
    exact ⟨c, r ++ ds, rfl, h1, VRs_append h2 k⟩
theorem VRt_length {C : Ctx} : ∀ {az : List AV} {cs : List Value}, VRt C az cs → az.length = cs.length
  | [], cs, h => by simp only [VRt] at h; subst h; rfl
  | a :: az, cs, h => by simp only [VRt] at h; obtain ⟨c, r, rfl, _, h2⟩ := h; simp [VRt_length h2]
theorem VRt_get {C : Ctx} : ∀ {az : List AV} {cs : List Value}, VRt C az cs → ∀ (i : Nat) (a : AV), az[i]? = some a → ∃ c, cs[i]? = some c ∧ VR C a c
  | [], cs, h, i, a, hi => by simp at hi
  | x :: az, cs, h, i, a, hi => by
    simp only [VRt] at h
    obtain ⟨c, r, rfl, h1, h2⟩ := h
    cases i with
    | zero => simp at hi; subst hi; exact ⟨c, rfl, h1⟩
    | succ i => simp at hi; obtain ⟨c', k1, k2⟩ := VRt_get h2 i a hi; exact ⟨c', by simpa using k1, k2⟩
theorem VRt_of_VRs {C : Ctx} : ∀ {az : List AV} {cs : List Value}, VRs C az cs → VRt C az cs
  | [], cs, h => by simp only [VRs] at h; simp only [VRt]; exact h
  | a :: az, cs, h => by
    simp only [VRs] at h
    obtain ⟨c, r, rfl, h1, h2⟩ := h
    simp only [VRt]
    exact ⟨c, r, rfl, h1.1, VRt_of_VRs h2⟩
theorem VRat_get {C : Ctx} {ad : Addr} : ∀ {az : List AV} {k : Nat}, VRat C ad az k → ∀ (i : Nat) (a : AV), az[i]? = some a → ∃ c, C.stable (ad.add (k + i)) c ∧ VR C a c ∧ c.oneCell' = true
  | [], k, h, i, a, hi => by simp at hi
  | x :: az, k, h, i, a, hi => by
    simp only [VRat] at h
    obtain ⟨⟨c, h1, h2⟩, h3⟩ := h
    cases i with
    | zero => simp at hi; subst hi; exact ⟨c, h1, h2⟩
    | succ i => simp at hi; have := VRat_get h3 i a hi; rwa [show k + 1 + i = k + (i + 1) by omega] at this
theorem VRat_mk {C : Ctx} {ad : Addr} : ∀ {az : List AV} {k : Nat}, (∀ (i : Nat) (a : AV), az[i]? = some a → ∃ c, C.stable (ad.add (k + i)) c ∧ VR C a c ∧ c.oneCell' = true) → VRat C ad az k
  | [], k, h => by simp only [VRat]
  | x :: az, k, h => by
    simp only [VRat]
    exact ⟨h 0 x rfl, VRat_mk fun i a hi => by have := h (i + 1) a (by simpa using hi); rwa [show k + (i + 1) = k + 1 + i by omega] at this⟩
theorem VRrow_get {C : Ctx} {a : Option Addr} {e : Nat} : ∀ {xs : List (List AV)} {k : Nat}, VRrow C a e xs k → ∀ (i : Nat) (c : List AV), xs[i]? = some c → c.length = e ∧ ∃ ad, a = some ad ∧ ad.spot = none ∧ VRat C ad c ((k + i) * e)
  | [], k, h, i, c, hi => by simp at hi
  | x :: xs, k, h, i, c, hi => by
    simp only [VRrow] at h
    cases i with
    | zero => simp at hi; subst hi; exact h.1
    | succ i => simp at hi; have := VRrow_get h.2 i c hi; rwa [show k + 1 + i = k + (i + 1) by omega] at this
theorem VRrow_mk {C : Ctx} {a : Option Addr} {e : Nat} : ∀ {xs : List (List AV)} {k : Nat}, (∀ (i : Nat) (c : List AV), xs[i]? = some c → c.length = e ∧ ∃ ad, a = some ad ∧ ad.spot = none ∧ VRat C ad c ((k + i) * e)) → VRrow C a e xs k
  | [], k, h => by simp only [VRrow]
  | x :: xs, k, h => by
    simp only [VRrow]
    exact ⟨h 0 x rfl, VRrow_mk fun i a hi => by have := h (i + 1) a (by simpa using hi); rwa [show k + (i + 1) = k + 1 + i by omega] at this⟩
theorem VR_under_all {C : Ctx} : ∀ n, (∀ (a : AV) (c : Value), SizeOf.sizeOf a < n → VR C a c → a.under C.st.length = true) ∧
    (∀ (az : List AV) (cs : List Value), SizeOf.sizeOf az < n → VRs C az cs → belows C.st.length az = true) ∧
    (∀ (az : List AV) (ad : Addr) (k : Nat), SizeOf.sizeOf az < n → VRat C ad az k → belows C.st.length az = true) ∧
    (∀ (xs : List (List AV)) (a : Option Addr) (e k : Nat), SizeOf.sizeOf xs < n → VRrow C a e xs k → belowss C.st.length xs = true) ∧
    (∀ (az : List AV) (cs : List Value), SizeOf.sizeOf az < n → VRt C az cs → belows C.st.length az = true) := by
  have lt : ∀ {id : Nat} {ob : Ob}, C.st[id]? = some ob → id < C.st.length := fun h => (List.getElem?_eq_some_iff.1 h).1
  intro n
  induction n with
  | zero => exact ⟨fun _ _ h => absurd h (by omega), fun _ _ h => absurd h (by omega), fun _ _ _ h => absurd h (by omega), fun _ _ _ _ h => absurd h (by omega), fun _ _ h => absurd h (by omega)⟩
  | succ n ih =>
    obtain ⟨i1, i2, i3, i4, i5⟩ := ih
    refine ⟨?_, ?_, ?_, ?_, ?_⟩
    · intro a c hs h
      cases a with
      | v x => rfl
      | agg cs => simp only [VR] at h; obtain ⟨ccs, e, h⟩ := h; simp only [AV.under]; exact i2 _ _ (by simp at hs; omega) h
      | tup cs => simp only [VR] at h; obtain ⟨ccs, e, h⟩ := h; simp only [AV.under]; exact i5 _ _ (by simp at hs; omega) h
      | sl e xs => simp only [VR] at h; obtain ⟨a, cap, he, hle, h⟩ := h; simp only [AV.under]; exact i4 _ _ _ _ (by simp at hs; omega) h
      | rop cs => simp only [VR] at h; obtain ⟨a, he, hsp, h⟩ := h; simp only [AV.under]; exact i3 _ _ _ (by simp at hs; omega) h
      | own id gen off len => simp only [VR] at h; obtain ⟨_, e, g, xs, nw, h1, h2, h3⟩ := h; simp [AV.under, lt h1]
      | ref id gen i off => simp only [VR] at h; rcases h with ⟨cs, b, h1, h2, h3⟩ | ⟨hone, e, g, xs, nw, h1, h2, h3⟩ <;> simp [AV.under, lt h1]
      | fn f caps => simp only [VR] at h; obtain ⟨ccs, e, h⟩ := h; simp only [AV.under]; exact i5 _ _ (by simp at hs; omega) h
      | mp id => simp only [VR] at h; obtain ⟨es, b, o, h1, h2, h3⟩ := h; simp [AV.under, lt h1]
      | ifc => rfl
      | it id => simp only [VR] at h; obtain ⟨s, p, b, o, h1, h2, h3⟩ := h; simp [AV.under, lt h1]
      | yl id => simp only [VR] at h; obtain ⟨kk, env, s, b, o, h1, h2, h3⟩ := h; simp [AV.under, lt h1]
    · intro az cs hs h
      cases az with
      | nil => rfl
      | cons a az =>
        simp only [VRs] at h
        obtain ⟨c, r, e, h1, h2⟩ := h
        simp at hs
        simp [belows, i1 _ _ (by omega) h1.1, i2 _ _ (by omega) h2]
    · intro az ad k hs h
      cases az with
      | nil => rfl
      | cons a az =>
        simp only [VRat] at h
        obtain ⟨⟨c, h1, h2⟩, h3⟩ := h
        simp at hs
        simp [belows, i1 _ _ (by omega) h2.1, i3 _ _ _ (by omega) h3]
    · intro xs a e k hs h
      cases xs with
      | nil => rfl
      | cons c cs =>
        simp only [VRrow] at h
        obtain ⟨⟨h1, ad, h2, hsp, h3⟩, h4⟩ := h
        simp at hs
        simp [belowss, i3 _ _ _ (by omega) h3, i4 _ _ _ _ (by omega) h4]
    · intro az cs hs h
      cases az with
      | nil => rfl
      | cons a az =>
        simp only [VRt] at h
        obtain ⟨c, r, e, h1, h2⟩ := h
        simp at hs
        simp [belows, i1 _ _ (by omega) h1, i5 _ _ (by omega) h2]
theorem VR_under {C : Ctx} {a : AV} {c : Value} (h : VR C a c) : a.under C.st.length = true := (VR_under_all (SizeOf.sizeOf a + 1)).1 a c (by omega) h
theorem VRt_under {C : Ctx} {a : List AV} {c : List Value} (h : VRt C a c) : belows C.st.length a = true := (VR_under_all (SizeOf.sizeOf a + 1)).2.2.2.2 a c (by omega) h
theorem VRs_under {C : Ctx} {a : List AV} {c : List Value} (h : VRs C a c) : belows C.st.length a = true := (VR_under_all (SizeOf.sizeOf a + 1)).2.1 a c (by omega) h
structure Cut (n : Nat) (C D : Ctx) : Prop where
  keep : ∀ ad c, C.stable ad c → D.stable ad c
  ids : ∀ i ob, i < n → C.st[i]? = some ob → D.st[i]? = some ob ∧ D.B[i]? = C.B[i]?
  shape : ∀ b, D.w.shape? b = C.w.shape? b
theorem VR_cut_all {n : Nat} {C D : Ctx} (hx : Cut n C D) : ∀ m,
    (∀ (a : AV) (c : Value), SizeOf.sizeOf a < m → a.under n = true → VR C a c → VR D a c) ∧
    (∀ (az : List AV) (cs : List Value), SizeOf.sizeOf az < m → belows n az = true → VRs C az cs → VRs D az cs) ∧
    (∀ (az : List AV) (ad : Addr) (k : Nat), SizeOf.sizeOf az < m → belows n az = true → VRat C ad az k → VRat D ad az k) ∧
    (∀ (xs : List (List AV)) (a : Option Addr) (e k : Nat), SizeOf.sizeOf xs < m → belowss n xs = true → VRrow C a e xs k → VRrow D a e xs k) ∧
    (∀ (az : List AV) (cs : List Value), SizeOf.sizeOf az < m → belows n az = true → VRt C az cs → VRt D az cs) := by
  intro m
  induction m with
  | zero => exact ⟨fun _ _ h => absurd h (by omega), fun _ _ h => absurd h (by omega), fun _ _ _ h => absurd h (by omega), fun _ _ _ _ h => absurd h (by omega), fun _ _ h => absurd h (by omega)⟩
  | succ m ih =>
    obtain ⟨i1, i2, i3, i4, i5⟩ := ih
    refine ⟨?_, ?_, ?_, ?_, ?_⟩
    · intro a c hs hu h
      cases a with
      | v x => simpa only [VR] using h
      | agg cs => simp only [VR] at h ⊢; simp only [AV.under] at hu; obtain ⟨ccs, e, h⟩ := h; exact ⟨ccs, e, i2 _ _ (by simp at hs; omega) hu h⟩
      | tup cs => simp only [VR] at h ⊢; simp only [AV.under] at hu; obtain ⟨ccs, e, h⟩ := h; exact ⟨ccs, e, i5 _ _ (by simp at hs; omega) hu h⟩
      | sl e xs => simp only [VR] at h ⊢; simp only [AV.under] at hu; obtain ⟨a, cap, he, hle, h⟩ := h; exact ⟨a, cap, he, hle, i4 _ _ _ _ (by simp at hs; omega) hu h⟩
      | rop cs => simp only [VR] at h ⊢; simp only [AV.under] at hu; obtain ⟨a, he, hsp, h⟩ := h; exact ⟨a, he, hsp, i3 _ _ _ (by simp at hs; omega) hu h⟩
      | own id gen off len =>
        simp only [VR] at h ⊢
        simp only [AV.under, decide_eq_true_eq] at hu
        obtain ⟨hone, e, g, xs, nw, h1, h2, h3⟩ := h
        obtain ⟨k1, k2⟩ := hx.ids id _ hu h1
        refine ⟨hone, e, g, xs, nw, k1, h2, fun hg => ?_⟩
        obtain ⟨b, o, cap, t, q, ad, p1, p2, p3, p4, p5, p6⟩ := h3 hg
        exact ⟨b, o, cap, t, q, ad, k2.trans p1, p2, p3, (hx.shape b).trans p4, p5, p6⟩
      | ref id gen i off =>
        simp only [VR] at h ⊢
        simp only [AV.under, decide_eq_true_eq] at hu
        rcases h with ⟨cs, b, h1, h2, h3⟩ | ⟨hone, e, g, xs, nw, h1, h2, h3⟩
        · obtain ⟨k1, k2⟩ := hx.ids id _ hu h1
          exact .inl ⟨cs, b, k1, k2.trans h2, h3⟩
        · obtain ⟨k1, k2⟩ := hx.ids id _ hu h1
          refine .inr ⟨hone, e, g, xs, nw, k1, h2, fun hg => ?_⟩
          obtain ⟨b, o, p1, p2⟩ := h3 hg
          exact ⟨b, o, k2.trans p1, p2⟩
      | fn f caps => simp only [VR] at h ⊢; simp only [AV.under] at hu; obtain ⟨ccs, e, h⟩ := h; exact ⟨ccs, e, i5 _ _ (by simp at hs; omega) hu h⟩
      | mp id =>
        simp only [VR] at h ⊢
        simp only [AV.under, decide_eq_true_eq] at hu
        obtain ⟨es, b, o, h1, h2, h3⟩ := h
        obtain ⟨k1, k2⟩ := hx.ids id _ hu h1
        exact ⟨es, b, o, k1, k2.trans h2, h3⟩
      | ifc => simp only [VR] at h ⊢; exact h
      | it id =>
        simp only [VR] at h ⊢
        simp only [AV.under, decide_eq_true_eq] at hu
        obtain ⟨s, p, b, o, h1, h2, h3⟩ := h
        obtain ⟨k1, k2⟩ := hx.ids id _ hu h1
        exact ⟨s, p, b, o, k1, k2.trans h2, h3⟩
      | yl id =>
        simp only [VR] at h ⊢
        simp only [AV.under, decide_eq_true_eq] at hu
        obtain ⟨kk, env, s, b, o, h1, h2, h3⟩ := h
        obtain ⟨k1, k2⟩ := hx.ids id _ hu h1
        exact ⟨kk, env, s, b, o, k1, k2.trans h2, h3⟩
    · intro az cs hs hu h
      cases az with
      | nil => simpa only [VRs] using h
      | cons a az =>
        simp only [VRs] at h ⊢
        simp only [belows, Bool.and_eq_true] at hu
        obtain ⟨c, r, e, h1, h2⟩ := h
        simp at hs
        exact ⟨c, r, e, ⟨i1 _ _ (by omega) hu.1 h1.1, h1.2⟩, i2 _ _ (by omega) hu.2 h2⟩
    · intro az ad k hs hu h
      cases az with
      | nil => simp only [VRat]
      | cons a az =>
        simp only [VRat] at h ⊢
        simp only [belows, Bool.and_eq_true] at hu
        obtain ⟨⟨c, h1, h2⟩, h3⟩ := h
        simp at hs
        exact ⟨⟨c, hx.keep _ _ h1, i1 _ _ (by omega) hu.1 h2.1, h2.2⟩, i3 _ _ _ (by omega) hu.2 h3⟩
    · intro xs a e k hs hu h
      cases xs with
      | nil => simp only [VRrow]
      | cons c cs =>
        simp only [VRrow] at h ⊢
        simp only [belowss, Bool.and_eq_true] at hu
        obtain ⟨⟨h1, ad, h2, hsp, h3⟩, h4⟩ := h
        simp at hs
        exact ⟨⟨h1, ad, h2, hsp, i3 _ _ _ (by omega) hu.1 h3⟩, i4 _ _ _ _ (by omega) hu.2 h4⟩
    · intro az cs hs hu h
      cases az with
      | nil => simpa only [VRt] using h
      | cons a az =>
        simp only [VRt] at h ⊢
        simp only [belows, Bool.and_eq_true] at hu
        obtain ⟨c, r, e, h1, h2⟩ := h
        simp at hs
        exact ⟨c, r, e, i1 _ _ (by omega) hu.1 h1, i5 _ _ (by omega) hu.2 h2⟩
theorem VR_cut {n : Nat} {C D : Ctx} (hx : Cut n C D) {a : AV} {c : Value} (hu : a.under n = true) (h : VR C a c) : VR D a c := (VR_cut_all hx (SizeOf.sizeOf a + 1)).1 a c (by omega) hu h
theorem VRt_cut {n : Nat} {C D : Ctx} (hx : Cut n C D) {a : List AV} {c : List Value} (hu : belows n a = true) (h : VRt C a c) : VRt D a c := (VR_cut_all hx (SizeOf.sizeOf a + 1)).2.2.2.2 a c (by omega) hu h
theorem VRs_cut {n : Nat} {C D : Ctx} (hx : Cut n C D) {a : List AV} {c : List Value} (hu : belows n a = true) (h : VRs C a c) : VRs D a c := (VR_cut_all hx (SizeOf.sizeOf a + 1)).2.1 a c (by omega) hu h
theorem VRat_cut {n : Nat} {C D : Ctx} (hx : Cut n C D) {a : List AV} {ad : Addr} {k : Nat} (hu : belows n a = true) (h : VRat C ad a k) : VRat D ad a k := (VR_cut_all hx (SizeOf.sizeOf a + 1)).2.2.1 a ad k (by omega) hu h
end Go.Proofs.YtoobogpbejdocaaDoor.Ev
