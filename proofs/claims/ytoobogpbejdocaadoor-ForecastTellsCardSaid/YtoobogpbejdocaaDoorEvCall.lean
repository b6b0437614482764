import Derived.Test.YtoobogpbejdocaaDoorEvScope
import Derived.Test.YtoobogpbejdocaaDoorEvSeq
import Derived.Test.YtoobogpbejdocaaDoorEvRen
import Derived.RangeFuncRecord
set_option linter.unusedVariables false
set_option linter.unusedSectionVars false
set_option linter.unusedSimpArgs false
namespace Go.Proofs.YtoobogpbejdocaaDoor.Ev
structure Snap (stm : Store) (D D' : Ctx) : Prop where
  keep : ∀ ad c, D.stable ad c → D'.stable ad c
  shape : ∀ b, D'.w.shape? b = D.w.shape? b
  rows : ∀ (id e g : Nat) (xs : List (List AV)) (nw : Bool), stm[id]? = some (.row e g xs nw) → D.st[id]? = some (.row e g xs nw) ∧
    ∀ b o off c, D.B[id]? = some (b, o) → D.w.cell? ⟨b, off, none⟩ = some c → D'.stable ⟨b, off, none⟩ c
theorem Snap.cut {stm : Store} {D D' : Ctx} (h : Snap stm D D') : Cut 0 D D' := ⟨h.keep, fun i ob hi => by omega, h.shape⟩
mutual
theorem snap_ok {stm : Store} {D D' : Ctx} (hO : D.OK) (hS : Snap stm D D') : ∀ (a : AV) (c : Value) (a' : AV), VR D a c → a.snap stm = some a' → VR D' a' c
  | .v x, c, a', h, hs => by
    simp only [AV.snap, Option.some.injEq] at hs; subst hs
    simp only [VR] at h ⊢; exact h
  | .agg cs, c, a', h, hs => by
    simp only [AV.snap] at hs
    split at hs
    · rename_i l k
      cases hs
      simp only [VR] at h ⊢
      obtain ⟨ccs, rfl, h⟩ := h
      exact ⟨ccs, rfl, snaps_ok hO hS cs _ _ h k⟩
    · cases hs
  | .tup cs, c, a', h, hs => by
    simp only [AV.snap] at hs
    split at hs
    · rename_i l k
      cases hs
      simp only [VR] at h ⊢
      obtain ⟨ccs, rfl, h⟩ := h
      exact ⟨ccs, rfl, snapt_ok hO hS cs _ _ h k⟩
    · cases hs
  | .sl e xs, c, a', h, hs => by
    simp only [AV.snap] at hs
    split at hs
    · rename_i k
      cases hs
      exact VR_cut hS.cut (by simp only [AV.under]; exact k) h
    · cases hs
  | .rop cs, c, a', h, hs => by
    simp only [AV.snap] at hs
    split at hs
    · rename_i k
      cases hs
      exact VR_cut hS.cut (by simp only [AV.under]; exact k) h
    · cases hs
  | .own id gen off len, c, a', h, hs => by
    simp only [AV.snap] at hs
    split at hs
    · rename_i e g xs nw k
      split at hs
      · rename_i hc
        cases hs
        obtain ⟨hg, hl, hr⟩ := hc
        subst hg
        obtain ⟨hst, hrow⟩ := hS.rows id e g xs nw k
        simp only [VR] at h
        obtain ⟨_, e', g', xs', nw', m1, m2, m3⟩ := h
        rw [hst] at m1
        simp only [Option.some.injEq, Ob.row.injEq] at m1
        obtain ⟨rfl, rfl, rfl, rfl⟩ := m1
        obtain ⟨b, o, cap, t, n, ad, hB, ⟨rfl, had⟩, hcap, _, _, _⟩ := m3 rfl
        obtain ⟨b2, o2, hB2, hob⟩ := hO.get hst
        rw [hB] at hB2
        simp only [Option.some.injEq, Prod.mk.injEq] at hB2
        obtain ⟨rfl, rfl⟩ := hB2
        have hlen : ((xs.drop off).take len).length = len := by rw [List.length_take, List.length_drop]; omega
        simp only [VR]
        refine ⟨some ad, cap, by rw [hlen], ⟨by rw [hlen]; exact hcap, rfl⟩, VRrow_mk fun i c hi => ?_⟩
        rw [List.getElem?_take] at hi
        split at hi
        · rename_i hil
          rw [List.getElem?_drop] at hi
          have hcl : c.length = e := by
            simp only [ObR] at hob
            obtain ⟨ccs, t', _, h2, _⟩ := hob
            exact h2 c (List.mem_of_getElem? hi)
          have had' := had (by omega)
          refine ⟨hcl, ad, rfl, by rw [had'], VRat_mk fun j q hj => ?_⟩
          obtain ⟨v, n1, n2, n3⟩ := row_cell hob hi hj
          have hq : q.under 0 = true := by
            simp only [ross] at hr
            rw [belowss_all, List.all_eq_true] at hr
            have := hr c (List.mem_of_getElem? hi)
            rw [belows_all, List.all_eq_true] at this
            exact this q (List.mem_of_getElem? hj)
          refine ⟨v, ?_, VR_cut hS.cut hq n2, n3⟩
          rw [had', add_plain]
          have he : o + off * e + ((0 + i) * e + j) = o + (off + i) * e + j := by rw [Nat.zero_add, Nat.add_mul]; omega
          rw [he]
          exact hrow b o _ v hB n1
        · cases hi
      · cases hs
    · cases hs
  | .fn f caps, c, a', h, hs => by
    simp only [AV.snap] at hs
    split at hs
    · rename_i l k
      cases hs
      simp only [VR] at h ⊢
      obtain ⟨ccs, hcc, h⟩ := h
      exact ⟨ccs, hcc, snapt_ok hO hS caps _ _ h k⟩
    · cases hs
  | .ref _ _ _ _, c, a', h, hs => by cases hs
  | .mp _, c, a', h, hs => by cases hs
  | .it _, c, a', h, hs => by cases hs
  | .yl _, c, a', h, hs => by cases hs
  | .ifc, c, a', h, hs => by
    simp only [AV.snap, Option.some.injEq] at hs
    subst hs
    simp only [VR] at h ⊢
    exact h
theorem snaps_ok {stm : Store} {D D' : Ctx} (hO : D.OK) (hS : Snap stm D D') : ∀ (l : List AV) (cs : List Value) (l' : List AV), VRs D l cs → snaps stm l = some l' → VRs D' l' cs
  | [], cs, l', h, hs => by
    simp only [snaps, Option.some.injEq] at hs; subst hs
    exact h
  | a :: az, cs, l', h, hs => by
    simp only [snaps] at hs
    split at hs
    · rename_i b k1
      split at hs
      · rename_i bs k2
        cases hs
        simp only [VRs] at h ⊢
        obtain ⟨c, r, rfl, ⟨h1, h2⟩, h3⟩ := h
        exact ⟨c, r, rfl, ⟨snap_ok hO hS a c b h1 k1, h2⟩, snaps_ok hO hS az r bs h3 k2⟩
      · cases hs
    · cases hs
theorem snapt_ok {stm : Store} {D D' : Ctx} (hO : D.OK) (hS : Snap stm D D') : ∀ (l : List AV) (cs : List Value) (l' : List AV), VRt D l cs → snaps stm l = some l' → VRt D' l' cs
  | [], cs, l', h, hs => by
    simp only [snaps, Option.some.injEq] at hs; subst hs
    exact h
  | a :: az, cs, l', h, hs => by
    simp only [snaps] at hs
    split at hs
    · rename_i b k1
      split at hs
      · rename_i bs k2
        cases hs
        simp only [VRt] at h ⊢
        obtain ⟨c, r, rfl, h1, h3⟩ := h
        exact ⟨c, r, rfl, snap_ok hO hS a c b h1 k1, snapt_ok hO hS az r bs h3 k2⟩
      · cases hs
    · cases hs
end
mutual
theorem snap_ro {st : Store} : ∀ (a : AV), a.under 0 = true → a.snap st = some a
  | .v x, h => rfl
  | .agg cs, h => by simp only [AV.under] at h; simp only [AV.snap, snaps_ro cs h]
  | .tup cs, h => by simp only [AV.under] at h; simp only [AV.snap, snaps_ro cs h]
  | .sl e xs, h => by simp only [AV.under] at h; simp only [AV.snap, ross, h, if_true]
  | .rop cs, h => by simp only [AV.under] at h; simp only [AV.snap, ros, h, if_true]
  | .own id _ _ _, h => by simp [AV.under] at h
  | .ref id _ _ _, h => by simp [AV.under] at h
  | .fn f caps, h => by simp only [AV.under] at h; simp only [AV.snap, snaps_ro caps h]
  | .mp id, h => by simp [AV.under] at h
  | .it id, h => by simp [AV.under] at h
  | .yl id, h => by simp [AV.under] at h
  | .ifc, h => rfl
theorem snaps_ro {st : Store} : ∀ (l : List AV), belows 0 l = true → snaps st l = some l
  | [], h => rfl
  | a :: az, h => by
    simp only [belows, Bool.and_eq_true] at h
    simp only [snaps, snap_ro a h.1, snaps_ro az h.2]
end
mutual
theorem flat_ok {C D : Ctx} : ∀ (a : AV) (c : Value), a.flat = true → VR C a c → VR D a c
  | .v x, c, hf, h => by simp only [VR] at h ⊢; exact h
  | .agg cs, c, hf, h => by
    simp only [AV.flat] at hf
    simp only [VR] at h ⊢
    obtain ⟨ccs, rfl, h⟩ := h
    exact ⟨ccs, rfl, flats_ok cs _ hf h⟩
  | .tup cs, c, hf, h => by
    simp only [AV.flat] at hf
    simp only [VR] at h ⊢
    obtain ⟨ccs, rfl, h⟩ := h
    exact ⟨ccs, rfl, flatt_ok cs _ hf h⟩
  | .sl _ _, c, hf, h => by cases hf
  | .rop _, c, hf, h => by cases hf
  | .own _ _ _ _, c, hf, h => by cases hf
  | .ref _ _ _ _, c, hf, h => by cases hf
  | .fn _ _, c, hf, h => by cases hf
  | .mp _, c, hf, h => by cases hf
  | .it _, c, hf, h => by cases hf
  | .yl _, c, hf, h => by cases hf
  | .ifc, c, hf, h => by cases hf
theorem flats_ok {C D : Ctx} : ∀ (l : List AV) (cs : List Value), flats l = true → VRs C l cs → VRs D l cs
  | [], cs, hf, h => h
  | a :: az, cs, hf, h => by
    simp only [flats, Bool.and_eq_true] at hf
    simp only [VRs] at h ⊢
    obtain ⟨c, r, rfl, ⟨h1, h2⟩, h3⟩ := h
    exact ⟨c, r, rfl, ⟨flat_ok a c hf.1 h1, h2⟩, flats_ok az r hf.2 h3⟩
theorem flatt_ok {C D : Ctx} : ∀ (l : List AV) (cs : List Value), flats l = true → VRt C l cs → VRt D l cs
  | [], cs, hf, h => h
  | a :: az, cs, hf, h => by
    simp only [flats, Bool.and_eq_true] at hf
    simp only [VRt] at h ⊢
    obtain ⟨c, r, rfl, h1, h3⟩ := h
    exact ⟨c, r, rfl, flat_ok a c hf.1 h1, flatt_ok az r hf.2 h3⟩
end
def Rets (C : Ctx) (r : AV) (st' : Store) : Ending → World → Prop
  | .returned v, w' => ∃ D, D.w = w' ∧ Ext C D ∧ D.OK ∧ D.st = st' ∧ VR D r v
  | _, _ => False
def CallsF (P : Program) (f : FuncId) (cargs : List Value) (w : World) (R : Ending → World → Prop) : Prop :=
  (∀ (args : Array Value) (w : World), (callFunc f args).run P w = .ok (.enter f args) w) ∧ Calls P f cargs.toArray w R
def RawFn (P : Program) (G : Nat → Option (List AV)) (raw : Raw) : Prop :=
  ∀ (f : Nat) (az : List AV) (bases : List Nat) (C : Ctx) (r : AV) (st' : Store) (cargs : List Value), f < yB → raw f az bases C.st = some (r, st') → C.OK → GlobR C G → VRt C az cargs → CallsF P f cargs C.w (Rets C r st')
def sigX : Sig → Exit
  | .norm => .normal
  | .exit i => .exit i
  | .ret => .ret
def RoundQ (C : Ctx) (r : AV) (st' : Store) (e : Exit) (a : Act) (w : World) : Prop := ∃ s D, e = sigX s ∧ r = .v (.int .i64 (numOf s)) ∧ D.w = w ∧ Ext C D ∧ D.OK ∧ D.st = st'
def RoundOK (P : Program) (G : Nat → Option (List AV)) (raw : Raw) : Prop :=
  ∀ (k : Nat) (az env : List AV) (C : Ctx) (r : AV) (st' : Store) (cargs cs : List Value) (id b o : Nat) (q : Loop), C.st[id]? = some (.loop k env .rdy) → C.B[id]? = some (b, o) → C.w.heap[b]? = some (.loop q) → LoopAt k .rdy q cs →
    raw k (az ++ env) [] (C.st.set id (.loop k env .busy)) = some (r, st') → C.OK → GlobR C G → VRt C az cargs → VRt C env cs →
    az.length = (LC k).ps.size ∧ q.assign.wpIn (FW (some b)) 0 P (Exit.then (fun a₁ w₁ => ∃ w₂, (Instr.beginRound b).run P w₁ = .ok () w₂ ∧ q.body.wpIn (FW (some b)) 0 P (RoundQ C r st') a₁ w₂) (fun _ _ _ => False))
      { tmps := (q.params.zip cargs.toArray).foldl (fun tmps (t, a) => tmps.setIfInBounds t a) q.tmps, defers := [] } C.w
def RawOK (P : Program) (G : Nat → Option (List AV)) (raw : Raw) : Prop := RawFn P G raw ∧ RoundOK P G raw
def GRo (G : Nat → Option (List AV)) : Prop := ∀ g cs, G g = some cs → belows 0 cs = true
theorem CallsF.mono {P : Program} {f : FuncId} {cargs : List Value} {w : World} {R R' : Ending → World → Prop} (h : CallsF P f cargs w R) (k : ∀ v w', R (.returned v) w' → R' (.returned v) w') (hp : ∀ c w', R (.panicked c) w' → R' (.panicked c) w') (ho : ∀ w', R .outgrown w' → R' .outgrown w') : CallsF P f cargs w R' := by
  obtain ⟨h1, h4⟩ := h
  refine ⟨h1, Calls.mono h4 ?_⟩
  intro e w' he
  cases e with
  | returned v => exact k v w' he
  | panicked c => exact hp c w' he
  | outgrown => exact ho w' he
theorem VRt_app {C : Ctx} : ∀ {a b : List AV} {x y : List Value}, VRt C a x → VRt C b y → VRt C (a ++ b) (x ++ y)
  | [], b, x, y, h, k => by simp only [VRt] at h; subst h; exact k
  | q :: a, b, x, y, h, k => by
    simp only [VRt] at h
    obtain ⟨c, r, rfl, h1, h2⟩ := h
    simp only [List.cons_append, VRt]
    exact ⟨c, r ++ y, rfl, h1, VRt_app h2 k⟩
theorem ObR_under {C : Ctx} (hO : C.OK) {i : Nat} {ob : Ob} (h : C.st[i]? = some ob) : ob.under C.st.length = true := by
  obtain ⟨b, o, _, hR⟩ := hO.get h
  cases ob with
  | box cs => simp only [ObR] at hR; obtain ⟨_, ccs, t, _, h1⟩ := hR; simp only [Ob.under]; exact VRs_under h1
  | row e g xs nw =>
    simp only [ObR] at hR
    obtain ⟨ccs, t, _, _, _, h1⟩ := hR
    simp only [Ob.under]
    rw [belowss_flat]
    exact VRs_under h1
  | map es =>
    simp only [ObR] at hR
    obtain ⟨en, cl, _, _, h1, h2⟩ := hR
    simp only [Ob.under, List.all_eq_true]
    intro p hp
    obtain ⟨i, hi⟩ := List.getElem?_of_mem hp
    have hl := (List.getElem?_eq_some_iff.1 hi).1
    rw [h1] at hl
    exact VR_under (h2 i p _ hi (List.getElem?_eq_getElem hl)).2.2
  | sit s p => rfl
  | loop k env s =>
    simp only [ObR] at hR
    obtain ⟨r, cs, _, _, h1⟩ := hR
    simp only [Ob.under]
    exact VRt_under h1
theorem Sc_self {C : Ctx} (hO : C.OK) : Sc C.st.length C.st := ⟨Nat.le_refl _, fun i ob _ h => ObR_under hO h⟩
section
variable {P : Program} {G : Nat → Option (List AV)} {raw : Raw} {C D : Ctx}
def Ctx.alone (C : Ctx) (X : Nat → Nat → Prop) : Ctx := ⟨C.w, [], [], X⟩
theorem alone_ok {X : Nat → Nat → Prop} (hX : ∀ b o, X b o → b < C.w.heap.size) : (C.alone X).OK where
  len := rfl
  inj := fun i j b o o' h => by simp [Ctx.alone] at h
  dis := fun i b o off h => by simp [Ctx.alone] at h
  xlt := hX
  obs := fun i ob b o h => by simp [Ctx.alone] at h
def Ctx.back (C D : Ctx) : Ctx := ⟨D.w, C.B, C.st, C.X⟩
theorem alone_same {X : Nat → Nat → Prop} (hx : Ext (C.alone X) D) {b : Nat} (hb : b < C.w.heap.size) : D.w.heap[b]? = C.w.heap[b]? :=
  hx.frame b hb (fun i o h => by simp [Ctx.alone] at h)
theorem back_ext (hO : C.OK) {X : Nat → Nat → Prop} (hx : Ext (C.alone X) D) : Ext C (C.back D) where
  X := rfl
  os := hx.os
  tape := hx.tape
  out := hx.out
  size := hx.size
  keep := fun ad c h => by
    refine ⟨?_, h.2.1, h.2.2⟩
    show D.w.cell? ad = some c
    rw [cell_of_heap (alone_same hx (Ctx.stable_lt h))]
    exact h.1
  ids := fun i ob h => ⟨ob, h, Ob.next_refl ob, .inl ⟨by cases ob <;> simp [Ob.still], rfl⟩⟩
  shape := hx.shape
  frame := fun b hb _ => alone_same hx hb
  fresh := fun i b o h => .inl ⟨i, o, h⟩
theorem back_ok (hO : C.OK) {X : Nat → Nat → Prop} (hx : Ext (C.alone X) D) : (C.back D).OK where
  len := hO.len
  inj := hO.inj
  dis := hO.dis
  xlt := fun b o h => Nat.lt_of_lt_of_le (hO.xlt b o h) hx.size
  obs := fun i ob b o h1 h2 => ObR_ext (back_ext hO hx) (alone_same hx (hO.lt h2)) (hO.obs i ob b o h1 h2)
theorem Wr_lt (hO : C.OK) {b o : Nat} (h : C.Wr b o) : b < C.w.heap.size := by
  obtain ⟨i, o', ob, h1, _⟩ := h
  exact hO.lt h1
theorem glob_cut (hG : GRo G) (hg : GlobR C G) {D : Ctx} (hc : Cut 0 C D) : GlobR D G := fun g cs h => let ⟨h1, t, h2⟩ := hg g cs h; ⟨VRat_cut hc (hG g cs h) h1, t, by rw [hc.shape g]; exact h2⟩
theorem callM_P (hr : RawOK P G raw) (hG : GRo G) {f : Nat} (hlt : f < yB) {az : List AV} {cargs : List Value} {r r' : AV} {st2 : Store} {az' : List AV} (hO : C.OK) (hg : GlobR C G) (hv : VRt C az cargs)
    (h1 : snaps C.st az = some az') (h2 : raw f az' [] [] = some (r, st2)) (h3 : r.snap st2 = some r') (h4 : (ros az || r'.flat) = true) : CallsF P f cargs C.w (Rets C r' C.st) := by
  by_cases hro : ros az = true
  · -- all that is handed over leads to no object
    have e1 : az' = az := by rw [snaps_ro az hro] at h1; cases h1; rfl
    subst e1
    let X1 : Nat → Nat → Prop := fun b o => C.Wr b o ∨ C.X b o
    have hO1 : (C.alone X1).OK := alone_ok fun b o h => h.elim (Wr_lt hO) (hO.xlt b o)
    have hcut : Cut 0 C (C.alone X1) := ⟨fun ad c h => ⟨h.1, fun ⟨i, o, ob, hh, _⟩ => by simp [Ctx.alone] at hh, fun hx => hx.elim h.2.1 h.2.2⟩, fun i ob hi => by omega, fun b => rfl⟩
    have h5 := hr.1 f az' [] (C.alone X1) r st2 cargs hlt h2 hO1 (glob_cut hG hg hcut) (VRt_cut hcut hro hv)
    refine h5.mono ?_ (fun c w' h => h.elim) (fun w' h => h.elim)
    rintro v w' ⟨D, rfl, hx, hD, hst, hv⟩
    refine ⟨C.back D, rfl, back_ext hO hx, back_ok hO hx, rfl, snap_ok (stm := st2) hD ?_ r v r' hv h3⟩
    have keep : ∀ ad c, D.stable ad c → (C.back D).stable ad c := by
      intro ad c h
      have hX : ¬ X1 ad.block ad.off := by have := h.2.2; rw [hx.X] at this; exact this
      exact ⟨h.1, fun hw => hX (.inl hw), fun hw => hX (.inr hw)⟩
    refine ⟨keep, fun b => rfl, fun id e g xs nw hid => ⟨by rw [hst]; exact hid, fun b o off c hB hc => ?_⟩⟩
    have hb : C.w.heap.size ≤ b := by
      rcases hx.fresh id b o hB with ⟨j, o', hj⟩ | h
      · simp [Ctx.alone] at hj
      · exact h
    exact ⟨hc, fun hw => by have := Wr_lt hO hw; simp only at this; omega, fun hX => by have := hO.xlt _ _ hX; simp only at this; omega⟩
  · have hfl : r'.flat = true := by simpa [hro] using h4
    let X1 : Nat → Nat → Prop := fun _ _ => False
    have hO1 : (C.alone X1).OK := alone_ok fun b o h => h.elim
    have hS : Snap C.st C (C.alone X1) := ⟨fun ad c h => ⟨h.1, fun ⟨i, o, ob, hh, _⟩ => by simp [Ctx.alone] at hh, fun hx => hx⟩, fun b => rfl,
      fun id e g xs nw hid => ⟨hid, fun b o off c hB hc => ⟨hc, fun ⟨i, o, ob, hh, _⟩ => by simp [Ctx.alone] at hh, fun hx => hx⟩⟩⟩
    have h5 := hr.1 f az' [] (C.alone X1) r st2 cargs hlt h2 hO1 (glob_cut hG hg hS.cut) (snapt_ok hO hS az _ _ hv h1)
    refine h5.mono ?_ (fun c w' h => h.elim) (fun w' h => h.elim)
    rintro v w' ⟨D, rfl, hx, hD, hst, hv⟩
    refine ⟨C.back D, rfl, back_ext hO hx, back_ok hO hx, rfl, ?_⟩
    have hS2 : Snap st2 D (D.alone X1) := ⟨fun ad c h => ⟨h.1, fun ⟨i, o, ob, hh, _⟩ => by simp [Ctx.alone] at hh, fun hx => hx⟩, fun b => rfl,
      fun id e g xs nw hid => ⟨by rw [hst]; exact hid, fun b o off c hB hc => ⟨hc, fun ⟨i, o, ob, hh, _⟩ => by simp [Ctx.alone] at hh, fun hx => hx⟩⟩⟩
    exact flat_ok r' v hfl (snap_ok hD hS2 r v r' hv h3)
def Ctx.down (D : Ctx) (n : Nat) : Ctx := ⟨D.w, D.B.take n, D.st.take n, D.X⟩
theorem down_Wr {n : Nat} {b o : Nat} (h : (D.down n).Wr b o) : ∃ (i o' : Nat) (ob : Ob), i < n ∧ D.B[i]? = some (b, o') ∧ D.st[i]? = some ob ∧ ob.wr o' o := by
  obtain ⟨i, o', ob, h1, h2, h3⟩ := h
  simp only [Ctx.down, List.getElem?_take] at h1 h2
  split at h1
  · rename_i hi
    rw [if_pos hi] at h2
    exact ⟨i, o', ob, hi, h1, h2, h3⟩
  · cases h1
theorem down_keep {n : Nat} {ad : Addr} {c : Value} (h : D.stable ad c) : (D.down n).stable ad c :=
  ⟨h.1, fun hw => by obtain ⟨i, o', ob, _, h1, h2, h3⟩ := down_Wr hw; exact h.2.1 ⟨i, o', ob, h1, h2, h3⟩, h.2.2⟩
theorem down_cut {n : Nat} : Cut n D (D.down n) :=
  ⟨fun ad c h => down_keep h, fun i ob hi h => by simp only [Ctx.down, List.getElem?_take, hi, if_true]; exact ⟨h, trivial⟩, fun b => rfl⟩
theorem down_ext {n : Nat} (hn : n = C.st.length) (hx : Ext C D) (hO : C.OK) : Ext C (D.down n) where
  X := hx.X
  os := hx.os
  tape := hx.tape
  out := hx.out
  size := hx.size
  keep := fun ad c h => down_keep (hx.keep ad c h)
  ids := fun i ob h => by
    have hi : i < n := by rw [hn]; exact (List.getElem?_eq_some_iff.1 h).1
    obtain ⟨ob', h1, h2, h3⟩ := hx.ids i ob h
    exact ⟨ob', by simp only [Ctx.down, List.getElem?_take, hi, if_true]; exact h1, h2, by simp only [Ctx.down, List.getElem?_take, hi, if_true]; exact h3⟩
  shape := hx.shape
  frame := hx.frame
  fresh := fun i b o h => by
    simp only [Ctx.down, List.getElem?_take] at h
    split at h
    · exact hx.fresh i b o h
    · cases h
theorem down_ok {n : Nat} (hD : D.OK) (hs : Sc n D.st) : (D.down n).OK where
  len := by simp only [Ctx.down, List.length_take, hD.len]
  inj := fun i j b o o' h1 h2 => by
    simp only [Ctx.down, List.getElem?_take] at h1 h2
    split at h1
    · split at h2
      · exact hD.inj i j b o o' h1 h2
      · cases h2
    · cases h1
  dis := fun i b o off h => by
    simp only [Ctx.down, List.getElem?_take] at h
    split at h
    · exact hD.dis i b o off h
    · cases h
  xlt := hD.xlt
  obs := fun i ob b o h1 h2 => by
    simp only [Ctx.down, List.getElem?_take] at h1 h2
    split at h1
    · rename_i hi
      rw [if_pos hi] at h2
      have hR := hD.obs i ob b o h1 h2
      have hu := hs.2 i ob hi h1
      cases ob with
      | box cs =>
        simp only [ObR] at hR ⊢
        obtain ⟨h0, ccs, t, h3, h4⟩ := hR
        exact ⟨h0, ccs, t, h3, VRs_cut down_cut (by simpa only [Ob.under] using hu) h4⟩
      | row e g xs nw =>
        simp only [ObR] at hR ⊢
        obtain ⟨ccs, t, h3, h4, h5, h6⟩ := hR
        exact ⟨ccs, t, h3, h4, h5, VRs_cut down_cut (by rw [← belowss_flat]; simpa only [Ob.under] using hu) h6⟩
      | map es =>
        simp only [ObR] at hR ⊢
        obtain ⟨en, cl, h3, h0, h4, h5⟩ := hR
        simp only [Ob.under, List.all_eq_true] at hu
        exact ⟨en, cl, h3, h0, h4, fun i p m k1 k2 => ⟨(h5 i p m k1 k2).1, (h5 i p m k1 k2).2.1, VR_cut down_cut (hu p (List.mem_of_getElem? k1)) (h5 i p m k1 k2).2.2⟩⟩
      | sit s p => exact hR
      | loop k env s =>
        simp only [ObR] at hR ⊢
        obtain ⟨r, cs, h1, h2, h3⟩ := hR
        exact ⟨r, cs, h1, h2, VRt_cut down_cut (by simpa only [Ob.under] using hu) h3⟩
    · cases h1
theorem callM_M (hr : RawOK P G raw) (hsc : RawSc raw) {f : Nat} (hlt : f < yB) {az : List AV} {cargs : List Value} {r r' : AV} {bases : List Nat} {st2 : Store} (hO : C.OK) (hg : GlobR C G) (hv : VRt C az cargs)
    (h2 : raw f az (C.st.length :: bases) C.st = some (r, st2)) (h3 : r.under C.st.length = true ∧ r' = r ∨ r.snap (mask C.st.length st2) = some r') : CallsF P f cargs C.w (Rets C r' (st2.take C.st.length)) := by
  have h5 := hr.1 f az (C.st.length :: bases) C r st2 cargs hlt h2 hO hg hv
  refine h5.mono ?_ (fun c w' h => h.elim) (fun w' h => h.elim)
  rintro v w' ⟨D, rfl, hx, hD, hst, hv⟩
  have hs : Sc C.st.length D.st := by rw [hst]; exact (hsc _ _ _ _ _ _ h2).2 _ List.mem_cons_self (Sc_self hO)
  refine ⟨D.down C.st.length, rfl, down_ext rfl hx hO, down_ok hD hs, by simp only [Ctx.down, hst], ?_⟩
  rcases h3 with ⟨h3, rfl⟩ | h3
  · exact VR_cut down_cut h3 hv
  · refine snap_ok (stm := mask C.st.length st2) hD ⟨fun ad c h => down_keep h, fun b => rfl, fun id e g xs nw hid => ?_⟩ r v r' hv h3
    have hid' : C.st.length ≤ id ∧ st2[id]? = some (.row e g xs nw) := by
      simp only [mask] at hid
      by_cases hlt : id < C.st.length
      · rw [List.getElem?_append_left (by simpa using hlt), List.getElem?_replicate] at hid
        simp [hlt] at hid
      · rw [List.getElem?_append_right (by simpa using hlt), List.length_replicate, List.getElem?_drop] at hid
        rw [show C.st.length + (id - C.st.length) = id by omega] at hid
        exact ⟨by omega, hid⟩
    refine ⟨by rw [hst]; exact hid'.2, fun b o off c hB hc => ⟨hc, fun hw => ?_, hD.dis id b o off hB⟩⟩
    obtain ⟨i, o', ob, hi, k1, k2, k3⟩ := down_Wr hw
    have := hD.inj i id b o' o k1 hB
    omega
def Ctx.rest (C : Ctx) (o : List Nat) (b off : Nat) : Prop := C.X b off ∨ ∃ (i o' : Nat) (ob : Ob), i ∉ o ∧ C.B[i]? = some (b, o') ∧ C.st[i]? = some ob ∧ ob.wr o' off
theorem backId_in {o : List Nat} {n k i : Nat} (h : o[k]? = some i) : backId o n k = i := by simp only [backId, h]
theorem backId_out {o : List Nat} {n k : Nat} (h : o.length ≤ k) : backId o n k = n + (k - o.length) := by simp only [backId, List.getElem?_eq_none h]
def putB : List (Nat × Nat) → List Nat → List (Nat × Nat) → List (Nat × Nat)
  | B, i :: o, x :: l => putB (B.set i x) o l
  | B, _, _ => B
theorem putB_length : ∀ {o : List Nat} {B l : List (Nat × Nat)}, (putB B o l).length = B.length
  | [], B, l => by cases l <;> rfl
  | i :: o, B, [] => rfl
  | i :: o, B, x :: l => by simp only [putB, putB_length, List.length_set]
theorem putB_other : ∀ {o : List Nat} {i : Nat}, i ∉ o → ∀ {B l : List (Nat × Nat)}, (putB B o l)[i]? = B[i]?
  | [], i, _, B, l => by cases l <;> rfl
  | x :: o, i, h, B, [] => rfl
  | x :: o, i, h, B, y :: l => by
    simp only [putB]
    rw [putB_other fun q => h (List.mem_cons_of_mem _ q), List.getElem?_set_ne fun e => h (by rw [e]; exact List.mem_cons_self)]
theorem putB_get : ∀ {o : List Nat} {B l : List (Nat × Nat)}, nodupB o = true → o.length ≤ l.length → (∀ i, i ∈ o → i < B.length) → ∀ (k i : Nat), o[k]? = some i → (putB B o l)[i]? = l[k]?
  | [], B, l, _, _, _, k, i, h => by simp at h
  | x :: o, B, [], _, hl, _, k, i, h => by simp at hl
  | x :: o, B, y :: l, hn, hl, hlt, k, i, h => by
    simp only [nodupB, Bool.and_eq_true, Bool.not_eq_true', List.contains_eq_mem, decide_eq_false_iff_not] at hn
    simp only [putB]
    cases k with
    | zero =>
      simp only [List.getElem?_cons_zero, Option.some.injEq] at h
      subst h
      rw [putB_other hn.1, List.getElem?_cons_zero, List.getElem?_set_self (hlt x List.mem_cons_self)]
    | succ k =>
      simp only [List.getElem?_cons_succ] at h ⊢
      exact putB_get hn.2 (by simpa using hl) (fun j hj => by rw [List.length_set]; exact hlt j (List.mem_cons_of_mem _ hj)) k i h
def Ctx.join (C D : Ctx) (o : List Nat) : Ctx :=
  ⟨D.w, putB C.B o (D.B.take o.length) ++ D.B.drop o.length, putAll C.st o ((D.st.take o.length).map (Ob.ren (backId o C.st.length))) ++ (D.st.drop o.length).map (Ob.ren (backId o C.st.length)), C.X⟩
section
variable {o : List Nat} {X1 : Nat → Nat → Prop}
theorem join_all (hO : C.OK) (hc : closedB C.st o o = true) (hn : nodupB o = true) (hx : Ext (C.sel o (C.rest o)) D) (hD : D.OK) :
    Ext C (C.join D o) ∧ (C.join D o).OK ∧ Ren (backId o C.st.length) (· < D.st.length) D (C.join D o) := by
  have hX : ∀ b q, C.rest o b q → C.Wr b q ∨ C.X b q := by
    rintro b q (h | ⟨i, o', ob, _, h1, h2, h3⟩)
    · exact .inr h
    · exact .inl ⟨i, o', ob, h1, h2, h3⟩
  have hsel : ∀ i, i ∈ o → ∃ ob, C.st[i]? = some ob ∧ ∀ j, j ∈ ob.ids → j ∈ o := fun i hi => closedB_ok hc i hi
  have hlt : ∀ i, i ∈ o → i < C.st.length := fun i hi => by obtain ⟨ob, h, _⟩ := hsel i hi; exact (List.getElem?_eq_some_iff.1 h).1
  have hltB : ∀ i, i ∈ o → i < C.B.length := fun i hi => by rw [hO.len]; exact hlt i hi
  have hslen : (C.sel o (C.rest o)).st.length = o.length := sel_length fun i hi => (hsel i hi).imp fun _ q => q.1
  have hle : o.length ≤ D.st.length := by
    rcases Nat.eq_zero_or_pos o.length with h0 | h0
    · omega
    · have h1 : o[o.length - 1]? = some o[o.length - 1] := List.getElem?_eq_getElem (by omega)
      obtain ⟨ob, h2, _⟩ := hsel _ (List.mem_of_getElem? h1)
      obtain ⟨ob', h3, _⟩ := hx.ids _ _ (selS' hc h1 h2)
      have := (List.getElem?_eq_some_iff.1 h3).1
      omega
  have hleB : o.length ≤ D.B.length := by rw [hD.len]; exact hle
  have lst : (putAll C.st o ((D.st.take o.length).map (Ob.ren (backId o C.st.length)))).length = C.st.length := putAll_length
  have lB : (putB C.B o (D.B.take o.length)).length = C.st.length := by rw [putB_length, hO.len]
  have st_in : ∀ k i : Nat, o[k]? = some i → (C.join D o).st[i]? = (D.st[k]?).map (Ob.ren (backId o C.st.length)) := by
    intro k i h
    have hi := hlt i (List.mem_of_getElem? h)
    have hk := (List.getElem?_eq_some_iff.1 h).1
    simp only [Ctx.join]
    rw [List.getElem?_append_left (by rw [lst]; exact hi), putAll_get hn (by simp; omega) hlt k i h]
    simp [List.getElem?_take, hk]
  have B_in : ∀ k i : Nat, o[k]? = some i → (C.join D o).B[i]? = D.B[k]? := by
    intro k i h
    have hi := hlt i (List.mem_of_getElem? h)
    have hk := (List.getElem?_eq_some_iff.1 h).1
    simp only [Ctx.join]
    rw [List.getElem?_append_left (by rw [lB]; exact hi), putB_get hn (by simp; omega) hltB k i h]
    simp [List.getElem?_take, hk]
  have st_out : ∀ i : Nat, i < C.st.length → i ∉ o → (C.join D o).st[i]? = C.st[i]? := by
    intro i hi h
    simp only [Ctx.join]
    rw [List.getElem?_append_left (by rw [lst]; exact hi), putAll_other h]
  have B_out : ∀ i : Nat, i < C.st.length → i ∉ o → (C.join D o).B[i]? = C.B[i]? := by
    intro i hi h
    simp only [Ctx.join]
    rw [List.getElem?_append_left (by rw [lB]; exact hi), putB_other h]
  have st_new : ∀ k : Nat, o.length ≤ k → (C.join D o).st[C.st.length + (k - o.length)]? = (D.st[k]?).map (Ob.ren (backId o C.st.length)) := by
    intro k hk
    simp only [Ctx.join]
    rw [List.getElem?_append_right (by rw [lst]; omega), lst]
    simp only [List.getElem?_map, List.getElem?_drop]
    congr 2; omega
  have B_new : ∀ k : Nat, o.length ≤ k → (C.join D o).B[C.st.length + (k - o.length)]? = D.B[k]? := by
    intro k hk
    simp only [Ctx.join]
    rw [List.getElem?_append_right (by rw [lB]; omega), lB]
    simp only [List.getElem?_drop]
    congr 1; omega
  have kind : ∀ i : Nat, (∃ k : Nat, o[k]? = some i) ∨ (i < C.st.length ∧ i ∉ o) ∨ ∃ k, o.length ≤ k ∧ i = C.st.length + (k - o.length) := by
    intro i
    by_cases h : i ∈ o
    · exact .inl (List.getElem?_of_mem h)
    · by_cases h2 : i < C.st.length
      · exact .inr (.inl ⟨h2, h⟩)
      · exact .inr (.inr ⟨o.length + (i - C.st.length), by omega, by omega⟩)
  have stC : ∀ k i : Nat, o[k]? = some i → ∃ b q, C.B[i]? = some (b, q) ∧ (C.sel o (C.rest o)).B[k]? = some (b, q) := by
    intro k i h
    obtain ⟨ob, h2, _⟩ := hsel i (List.mem_of_getElem? h)
    obtain ⟨b, q, h3, _⟩ := hO.get h2
    exact ⟨b, q, h3, by rw [selB' hO hc h]; exact h3⟩
  have hfr : ∀ i b q : Nat, D.B[i]? = some (b, q) → (∃ k j q' : Nat, o[k]? = some j ∧ C.B[j]? = some (b, q')) ∨ C.w.heap.size ≤ b := by
    intro i b q h
    rcases hx.fresh i b q h with ⟨j, q', h1⟩ | h1
    · obtain ⟨x, h2, h3⟩ := selB hO hc h1
      exact .inl ⟨j, x, q', h2, h3⟩
    · exact .inr h1
  have Wr_join : ∀ b off, (C.join D o).Wr b off → D.Wr b off ∨ ∃ (i o' : Nat) (ob : Ob), i ∉ o ∧ C.B[i]? = some (b, o') ∧ C.st[i]? = some ob ∧ ob.wr o' off := by
    rintro b off ⟨i, o', ob, h1, h2, h3⟩
    rcases kind i with ⟨k, hk⟩ | ⟨hi, hni⟩ | ⟨k, hk, rfl⟩
    · rw [B_in k i hk] at h1
      rw [st_in k i hk, Option.map_eq_some_iff] at h2
      obtain ⟨ob', h2, rfl⟩ := h2
      exact .inl ⟨k, o', ob', h1, h2, wr_ren.1 h3⟩
    · rw [B_out i hi hni] at h1
      rw [st_out i hi hni] at h2
      exact .inr ⟨i, o', ob, hni, h1, h2, h3⟩
    · rw [B_new k hk] at h1
      rw [st_new k hk, Option.map_eq_some_iff] at h2
      obtain ⟨ob', h2, rfl⟩ := h2
      exact .inl ⟨k, o', ob', h1, h2, wr_ren.1 h3⟩
  have keepD : ∀ ad c, D.stable ad c → (C.join D o).stable ad c := by
    intro ad c h
    have hXD : ¬ C.rest o ad.block ad.off := by have := h.2.2; rw [hx.X] at this; exact this
    refine ⟨h.1, fun hw => ?_, fun hX => hXD (.inl hX)⟩
    rcases Wr_join _ _ hw with h1 | h1
    · exact h.2.1 h1
    · exact hXD (.inr h1)
  have hren : Ren (backId o C.st.length) (· < D.st.length) D (C.join D o) := by
    refine ⟨keepD, fun i ob hi h => ?_, fun b => rfl⟩
    by_cases hk : i < o.length
    · have h1 : o[i]? = some o[i] := List.getElem?_eq_getElem hk
      rw [backId_in h1]
      exact ⟨by rw [st_in i _ h1, h]; rfl, B_in i _ h1⟩
    · rw [backId_out (by omega)]
      exact ⟨by rw [st_new i (by omega), h]; rfl, B_new i (by omega)⟩
  have hext : Ext C (C.join D o) := by
    refine ⟨rfl, hx.os, hx.tape, hx.out, hx.size, fun ad c h => keepD ad c (hx.keep ad c ((sel_ren hO hc hX).keep ad c h)), fun i ob h => ?_, hx.shape, fun b hb hno => ?_, fun i b q h => ?_⟩
    · have hi : i < C.st.length := (List.getElem?_eq_some_iff.1 h).1
      by_cases hio : i ∈ o
      · obtain ⟨k, hk⟩ := List.getElem?_of_mem hio
        obtain ⟨ob', h1, h2, h3⟩ := hx.ids k _ (selS' hc hk h)
        refine ⟨_, by rw [st_in k i hk, h1]; rfl, next_ren.2 (next_ren'.1 h2), ?_⟩
        rw [B_in k i hk]
        rcases h3 with ⟨h3, h4⟩ | h3
        · exact .inl ⟨still_ren.2 (still_ren'.1 h3), by rw [h4, selB' hO hc hk]⟩
        · exact .inr (moved_ren.2 (moved_ren'.1 h3))
      · exact ⟨ob, by rw [st_out i hi hio]; exact h, Ob.next_refl ob, .inl ⟨by cases ob <;> simp [Ob.still], B_out i hi hio⟩⟩
    · exact hx.frame b hb fun i q h => by
        obtain ⟨x, _, h2⟩ := selB hO hc h
        exact hno x q h2
    · rcases kind i with ⟨k, hk⟩ | ⟨hi, hni⟩ | ⟨k, hk, rfl⟩
      · rw [B_in k i hk] at h
        rcases hfr k b q h with ⟨_, j, q', _, h2⟩ | h2
        · exact .inl ⟨j, q', h2⟩
        · exact .inr h2
      · rw [B_out i hi hni] at h
        exact .inl ⟨i, q, h⟩
      · rw [B_new k hk] at h
        rcases hfr k b q h with ⟨_, j, q', _, h2⟩ | h2
        · exact .inl ⟨j, q', h2⟩
        · exact .inr h2
  refine ⟨hext, ?_, hren⟩
  have apart : ∀ i k b q q' : Nat, i < C.st.length → i ∉ o → C.B[i]? = some (b, q) → D.B[k]? = some (b, q') → False := by
    intro i k b q q' hi hni h1 h2
    rcases hfr k b q' h2 with ⟨x, j, q2, h3, h4⟩ | h3
    · have := hO.inj i j b q q2 h1 h4
      subst this
      exact hni (List.mem_of_getElem? h3)
    · have := hO.lt h1
      omega
  have get : ∀ i b q : Nat, (C.join D o).B[i]? = some (b, q) → (∃ k : Nat, backId o C.st.length k = i ∧ D.B[k]? = some (b, q)) ∨ (i < C.st.length ∧ i ∉ o ∧ C.B[i]? = some (b, q)) := by
    intro i b q h
    rcases kind i with ⟨k, hk⟩ | ⟨hi, hni⟩ | ⟨k, hk, rfl⟩
    · rw [B_in k i hk] at h
      exact .inl ⟨k, backId_in hk, h⟩
    · rw [B_out i hi hni] at h
      exact .inr ⟨hi, hni, h⟩
    · rw [B_new k hk] at h
      exact .inl ⟨k, backId_out hk, h⟩
  refine ⟨?_, ?_, ?_, ?_, ?_⟩
  · simp only [Ctx.join, List.length_append, lst, lB, List.length_map, List.length_drop, hD.len]
  · intro i j b q q' h1 h2
    rcases get i b q h1 with ⟨k, rfl, g1⟩ | ⟨hi, hni, g1⟩
    · rcases get j b q' h2 with ⟨k2, rfl, g2⟩ | ⟨hj, hnj, g2⟩
      · rw [hD.inj k k2 b q q' g1 g2]
      · exact (apart j k b q' q hj hnj g2 g1).elim
    · rcases get j b q' h2 with ⟨k2, rfl, g2⟩ | ⟨hj, hnj, g2⟩
      · exact (apart i k2 b q q' hi hni g1 g2).elim
      · exact hO.inj i j b q q' g1 g2
  · intro i b q off h hX
    rcases get i b q h with ⟨k, rfl, g1⟩ | ⟨hi, hni, g1⟩
    · have := hD.dis k b q off g1
      rw [hx.X] at this
      exact this (.inl hX)
    · exact hO.dis i b q off g1 hX
  · intro b q h
    exact Nat.lt_of_lt_of_le (hO.xlt b q h) hx.size
  · intro i ob b q h1 h2
    rcases kind i with ⟨k, hk⟩ | ⟨hi, hni⟩ | ⟨k, hk, rfl⟩
    · rw [B_in k i hk] at h2
      rw [st_in k i hk, Option.map_eq_some_iff] at h1
      obtain ⟨ob', h1, rfl⟩ := h1
      exact ObR_ren hren (fun b => rfl) (ob_ids_lt (ObR_under hD h1)) (hD.obs k ob' b q h1 h2)
    · rw [B_out i hi hni] at h2
      rw [st_out i hi hni] at h1
      refine ObR_ext hext (hx.frame b (hO.lt h2) fun k q' h => ?_) (hO.obs i ob b q h1 h2)
      obtain ⟨x, h3, h4⟩ := selB hO hc h
      have := hO.inj x i b q' q h4 h2
      subst this
      exact hni (List.mem_of_getElem? h3)
    · rw [B_new k hk] at h2
      rw [st_new k hk, Option.map_eq_some_iff] at h1
      obtain ⟨ob', h1, rfl⟩ := h1
      exact ObR_ren hren (fun b => rfl) (ob_ids_lt (ObR_under hD h1)) (hD.obs k ob' b q h1 h2)
end
theorem glob_ren (hG : GRo G) (hg : GlobR C G) {D : Ctx} (hk : ∀ ad c, C.stable ad c → D.stable ad c) (hs : ∀ b, D.w.shape? b = C.w.shape? b) : GlobR D G :=
  glob_cut hG hg ⟨hk, fun i ob hi => by omega, hs⟩
theorem callM_N (hr : RawOK P G raw) (hG : GRo G) {f : Nat} (hlt : f < yB) {az : List AV} {cargs : List Value} {r : AV} {st2 : Store} {o : List Nat} (hO : C.OK) (hg : GlobR C G) (hv : VRt C az cargs)
    (hc : closedB C.st o o = true) (hn : nodupB o = true) (ha : ∀ i, i ∈ idss az → i ∈ o) (h2 : raw f (rens (pos o) az) [] (sel C.st (pos o) o) = some (r, st2)) :
    CallsF P f cargs C.w (Rets C (r.ren (backId o C.st.length)) (putAll C.st o ((st2.take o.length).map (Ob.ren (backId o C.st.length))) ++ (st2.drop o.length).map (Ob.ren (backId o C.st.length)))) := by
  have hX : ∀ b q, C.rest o b q → C.Wr b q ∨ C.X b q := by
    rintro b q (h | ⟨i, o', ob, _, h1, h2, h3⟩)
    · exact .inr h
    · exact .inl ⟨i, o', ob, h1, h2, h3⟩
  have hren := sel_ren (X := C.rest o) hO hc hX
  have hO1 : (C.sel o (C.rest o)).OK := by
    refine sel_ok hO hc hn hX ?_ fun b q h => (hX b q h).elim (Wr_lt hO) (hO.xlt b q)
    rintro k b q off hk (hx | ⟨i, o', ob, hi, h1, h2, h3⟩)
    · obtain ⟨i, _, h2⟩ := selB hO hc hk
      exact hO.dis i b q off h2 hx
    · obtain ⟨j, h4, h5⟩ := selB hO hc hk
      have := hO.inj i j b o' q h1 h5
      subst this
      exact hi (List.mem_of_getElem? h4)
  have h5 := hr.1 f (rens (pos o) az) [] (C.sel o (C.rest o)) r st2 cargs hlt h2 hO1 (glob_ren hG hg hren.keep hren.shape) (VRt_ren hren ha hv)
  refine h5.mono ?_ (fun c w' h => h.elim) (fun w' h => h.elim)
  rintro v w' ⟨D, rfl, hx, hD, hst, hv⟩
  obtain ⟨j1, j2, j3⟩ := join_all hO hc hn hx hD
  refine ⟨C.join D o, rfl, j1, j2, by simp only [Ctx.join, hst], VR_ren j3 (ids_lt r (VR_under hv)) hv⟩
theorem turn_loop (hO : C.OK) {id k b o : Nat} {env : List AV} {s s' : LS} (hst : C.st[id]? = some (.loop k env s)) (hB : C.B[id]? = some (b, o)) {q q' : Loop} {cs : List Value} (hh : C.w.heap[b]? = some (.loop q)) (hA : LoopAt k s' q' cs) (hv : VRt C env cs) :
    Ext C (C.set (C.w.putObj b (.loop q')) id b o (.loop k env s')) ∧ (C.set (C.w.putObj b (.loop q')) id b o (.loop k env s')).OK := by
  have hbl := heap_lt hh
  have hat : (C.w.putObj b (.loop q')).heap[b]? = some (.loop q') := World.putObj_heap_same hbl
  have T : Turn C (C.w.putObj b (.loop q')) id b o b o (.loop k env s) (.loop k env s') := by
    refine ⟨hst, hB, rfl, .inl ⟨by simp [Ob.still], rfl, rfl⟩, rfl, rfl, rfl, by simp, fun j _ hj => World.putObj_heap_other hj, ?_, fun ad c hb hs => ?_, fun _ _ => .inl ⟨rfl, trivial⟩, .inl rfl⟩
    · unfold World.shape?
      rw [hat, hh]
    · have := hs.1
      unfold World.cell? at this
      rw [hb, hh] at this
      cases this
  exact ⟨ext_set hO T, ok_set hO T ⟨q', cs, hat, hA, VRt_ext (ext_set hO T) hv⟩⟩
theorem LoopAt.turn {k : Nat} {s s' : LS} {q : Loop} {cs : List Value} (h : LoopAt k s q cs) {x : LoopState} {y : Option Code} (hs : s'.is { q with state := x, pending := y }) : LoopAt k s' { q with state := x, pending := y } cs :=
  ⟨h.big, h.ps, h.asg, h.body, h.n, hs, h.len, h.at_⟩
theorem callM_yl (hr : RoundOK P G raw) {id : Nat} {cf : Value} {az : List AV} {cargs : List Value} {bases : List Nat} {m : Mode} {r : AV} {st' : Store} (hO : C.OK) (hg : GlobR C G) (hf : VR C (.yl id) cf) (hv : VRt C az cargs)
    (h : callM raw m (.yl id) az bases C.st = some (r, st')) : ∃ b fn tmps asg body, cf = .func (.yield b) #[] #[] ∧ (Instr.yield b cargs.toArray).run P C.w = .ok (.round b fn tmps asg body) C.w ∧ RoundIn Fence.wide 0 P b fn tmps asg body C.w (Rets C r st') := by
  simp only [callM] at h
  cases m <;> simp only at h <;> try (cases h; done)
  split at h
  · split at h
    · rename_i k env hst
      split at h
      · rename_i n st2 k1
        split at h
        · rename_i kk env2 k2
          split at h
          · rename_i hn0
            simp only [Option.some.injEq, Prod.mk.injEq] at h
            obtain ⟨rfl, rfl⟩ := h
            simp only [VR] at hf
            obtain ⟨_, _, _, b, o, _, hB, rfl⟩ := hf
            obtain ⟨q, cs, hh, hA, hvc⟩ := hO.obs id _ b o hst hB
            obtain ⟨l1, l3⟩ := hr k az env C _ st2 cargs cs id b o q hst hB hh hA k1 hO hg hv hvc
            have hsz : cargs.toArray.size = q.params.size := by rw [hA.ps, ← l1, VRt_length hv]; simp
            refine ⟨b, q.fn, _, q.assign, q.body, rfl, run_yield hh hsz, ?_⟩
            refine roundIn_of_wpIn (F := Fence.wide) trivial ?_
            refine wpIn_mono (F := FW (some b)) l3 ?_
            intro e a w hq
            have hq2 : ∃ w2, e = .normal ∧ (Instr.beginRound b).run P w = .ok () w2 ∧ q.body.wpIn (FW (some b)) 0 P (RoundQ C (.v (.int .i64 n)) st2) a w2 := by
              cases e with
              | normal => obtain ⟨w2, y1, y2⟩ := hq; exact ⟨w2, rfl, y1, y2⟩
              | _ => exact hq.elim
            obtain ⟨w2, rfl, y1, y2⟩ := hq2
            refine ⟨w2, y1, wpIn_mono (F := FW (some b)) y2 ?_⟩
            rintro e a w ⟨s, D, rfl, hrs, rfl, hx2, hO2, rfl⟩
            have hns : n = (numOf s : Int) := by
              simp only [AV.v.injEq, Value.int.injEq, true_and] at hrs
              exact hrs
            obtain ⟨ob', j1, j2, j3⟩ := hx2.ids id _ hst
            rw [k2] at j1
            cases j1
            have hkk : kk = k := j2
            subst hkk
            have hB2 : D.B[id]? = some (b, o) := by
              rcases j3 with ⟨_, j3⟩ | j3
              · rw [j3, hB]
              · exact absurd j3 (by simp [Ob.moved])
            obtain ⟨q2, cs2, hh2, hA2, hvc2⟩ := hO2.obs id _ b o k2 hB2
            have fin : ∀ (jump : Option Code) (s' : LS), s'.is { q2 with state := if jump.isNone then .ready else .done, pending := jump } → decide (n = 0) = jump.isNone → (if n = 0 then LS.rdy else LS.done n.toNat) = s' →
                ∃ v w', (Instr.endRound b jump).run P D.w = .ok v w' ∧ Rets C (.v (.bool (decide (n = 0)))) (D.st.set id (.loop kk env2 (if n = 0 then LS.rdy else LS.done n.toNat))) (.returned v) w' := by
              intro jump s' his hd hs'
              refine ⟨_, _, run_endRound jump hh2, ?_⟩
              obtain ⟨hx3, hO3⟩ := turn_loop hO2 k2 hB2 hh2 (hA2.turn his) hvc2
              refine ⟨_, rfl, hx2.trans hx3, hO3, by rw [hs']; rfl, ?_⟩
              rw [hd]
              exact VR_v rfl
            cases s with
            | norm =>
              subst hns
              exact fin none .rdy ⟨rfl, rfl⟩ (by simp [numOf]) (by simp [numOf])
            | ret =>
              subst hns
              exact fin (some .ret) (.done 1) ⟨rfl, rfl⟩ (by simp [numOf]) (by simp [numOf])
            | exit i =>
              subst hns
              have hne : ¬ ((numOf (.exit i) : Nat) : Int) = 0 := by show ¬ ((i + 2 : Nat) : Int) = 0; omega
              exact fin (some (.exit i)) (.done (i + 2)) ⟨rfl, rfl⟩ (by rw [decide_eq_false hne]; rfl) (by rw [if_neg hne]; rfl)
          · cases h
        · cases h
      · cases h
    · cases h
  · cases h
def CallsV (P : Program) (cf : Value) (cargs : List Value) (w : World) (R : Ending → World → Prop) : Prop :=
  (∃ f ccs, cf = .func (.func f) #[] ccs ∧ CallsF P f (cargs ++ ccs.toList) w R) ∨
  ∃ b fn tmps asg body, cf = .func (.yield b) #[] #[] ∧ (Instr.yield b cargs.toArray).run P w = .ok (.round b fn tmps asg body) w ∧ RoundIn Fence.wide 0 P b fn tmps asg body w R
theorem callM_ok0 (hr : RawOK P G raw) (hsc : RawSc raw) (hG : GRo G) {m : Mode} (hm : m ≠ .A) (hm2 : m ≠ .B) {fv : AV} {cf : Value} {az : List AV} {cargs : List Value} {bases : List Nat} {r : AV} {st' : Store} (hO : C.OK) (hg : GlobR C G) (hf : VR C fv cf) (hv : VRt C az cargs)
    (h : callM raw m fv az bases C.st = some (r, st')) : CallsV P cf cargs C.w (Rets C r st') := by
  by_cases hy : ∃ id, fv = .yl id
  · obtain ⟨id, rfl⟩ := hy
    exact .inr (callM_yl hr.2 hO hg hf hv h)
  cases fv <;> simp only [callM] at h <;> try (cases h; done)
  rotate_left
  · exact absurd ⟨_, rfl⟩ hy
  rename_i f caps
  simp only [VR] at hf
  obtain ⟨ccs, ⟨rfl, hlt⟩, hcaps⟩ := hf
  refine .inl ⟨f, ccs, rfl, ?_⟩
  have hall := VRt_app hv hcaps
  cases m <;> simp only at h
  · split at h
    · rename_i az' k1
      split at h
      · rename_i r0 st2 k2
        split at h
        · rename_i r' k3
          split at h
          · rename_i k4
            cases h
            exact callM_P hr hG hlt hO hg hall k1 k2 k3 k4
          · cases h
        · cases h
      · cases h
    · cases h
  · split at h
    · split at h
      · rename_i k1
        simp only [Bool.and_eq_true] at k1
        split at h
        · rename_i r0 st2 k2
          cases h
          refine callM_N hr hG hlt hO hg hall k1.1.1 k1.1.2 (fun i hi => ?_) k2
          have := List.all_eq_true.1 k1.2 i hi
          simpa using this
        · cases h
      · cases h
    · cases h
  · split at h
    · rename_i r0 st2 k1
      split at h
      · rename_i k2
        cases h
        exact callM_M hr hsc hlt hO hg hall k1 (.inl ⟨k2, rfl⟩)
      · split at h
        · rename_i r' k3
          cases h
          exact callM_M hr hsc hlt hO hg hall k1 (.inr k3)
        · cases h
    · cases h
  · exact hr.1 f _ bases C r st' _ hlt h hO hg hall
  · split at h
    · rename_i c
      split at h
      · rename_i r0 st2 k2
        split at h
        · rename_i r' k3
          cases h
          exact callM_P hr hG hlt hO hg hall (snaps_ro _ c) k2 k3 (by rw [c]; rfl)
        · cases h
      · cases h
    · cases h
  · exact absurd rfl hm
  · exact absurd rfl hm2
theorem callM_ok (hr : RawOK P G raw) (hsc : RawSc raw) (hG : GRo G) {m : Mode} {fv : AV} {cf : Value} {az : List AV} {cargs : List Value} {bases : List Nat} {r : AV} {st' : Store} (hO : C.OK) (hg : GlobR C G) (hf : VR C fv cf) (hv : VRt C az cargs)
    (h : callM raw m fv az bases C.st = some (r, st')) : CallsV P cf cargs C.w (Rets C r st') := by
  by_cases hm : m = .A
  · subst hm
    cases fv with
    | fn f caps =>
      rw [callM_A] at h
      split at h
      · exact callM_ok0 hr hsc hG (m := .N) (by simp) (by simp) hO hg hf hv h
      · cases h
    | _ => cases h
  · by_cases hm2 : m = .B
    · subst hm2
      cases fv with
      | fn f caps => exact callM_ok0 hr hsc hG (m := .N) (by simp) (by simp) hO hg hf hv (callM_B_some.1 h).1
      | _ => cases h
    · exact callM_ok0 hr hsc hG hm hm2 hO hg hf hv h
end
end Go.Proofs.YtoobogpbejdocaaDoor.Ev
