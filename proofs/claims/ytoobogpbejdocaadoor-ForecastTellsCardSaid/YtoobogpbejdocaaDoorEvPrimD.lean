import Derived.Test.YtoobogpbejdocaaDoorEvStep
import Derived.Test.YtoobogpbejdocaaDoorEvChk
import Derived.Laws.Entries
import Derived.Laws.StructEq
import Derived.Laws.Slices
import Derived.ChangeKeysEq
import Derived.Laws.Cells
import Derived.Laws.Append
set_option linter.unusedVariables false
set_option linter.unusedSectionVars false
set_option linter.unusedSimpArgs false
namespace Go.Proofs.YtoobogpbejdocaaDoor.Ev
open Go.RowKit
def EnvR (C : Ctx) (e : Env) (a : Act) : Prop := ∀ t v, e.get t = some v → ∃ c, a.tmps[t]? = some c ∧ VR C v c
def GlobR (C : Ctx) (G : Nat → Option (List AV)) : Prop := ∀ g cs, G g = some cs → VRat C ⟨g, 0, none⟩ cs 0 ∧ ∃ t, C.w.shape? g = some (t, cs.length)
theorem EnvR.ext {C D : Ctx} (hx : Ext C D) {e : Env} {a : Act} (h : EnvR C e a) : EnvR D e a := fun t v ht => let ⟨c, h1, h2⟩ := h t v ht; ⟨c, h1, VR_ext hx h2⟩
theorem GlobR.ext {C D : Ctx} (hx : Ext C D) {G : Nat → Option (List AV)} (h : GlobR C G) : GlobR D G := fun g cs hg => let ⟨h1, t, h2⟩ := h g cs hg; ⟨VRat_ext hx h1, t, by rw [hx.shape g (shape_lt h2)]; exact h2⟩
def Does (P : Program) (a : Act) (oo : Oper) (C : Ctx) (r : AV) (st' : Store) : Prop :=
  ∃ (D : Ctx) (n : Next) (x : Value), (execOp a.eval oo).run P C.w = .ok n D.w ∧ (n = .value x ∨ n = .skip ∧ x = undef) ∧ Ext C D ∧ D.OK ∧ D.st = st' ∧ VR D r x
def PS (P : Program) (G : Nat → Option (List AV)) (bases : List Nat) (o : Op) (p : Prim) : Prop :=
  ∀ (C : Ctx) (e : Env) (a : Act) (oo : Oper) (r : AV) (st' : Store), oo.op = o → C.OK → GlobR C G → EnvR C e a → p.ev G bases e C.st = some (r, st') → Does P a oo C r st'
theorem Does.stay {P : Program} {a : Act} {oo : Oper} {C : Ctx} {r : AV} {x : Value} (hO : C.OK) (h : (execOp a.eval oo).run P C.w = .ok (.value x) C.w) (hv : VR C r x) : Does P a oo C r C.st :=
  ⟨C, _, x, h, .inl rfl, Ext.refl C, hO, rfl, hv⟩
section
variable {P : Program} {G : Nat → Option (List AV)} {bases : List Nat} {C : Ctx} {e : Env} {a : Act}
theorem VR_ofVal {v : Value} (h : okC v = true) : VR C (ofVal v) v := by
  cases v with
  | agg cs =>
    simp only [ofVal, VR]
    refine ⟨cs, rfl, VRs_mk (by simp) fun i x c h1 h2 => ?_⟩
    simp only [List.getElem?_map, h2, Option.map_some, Option.some.injEq] at h1
    subst h1
    have : c.oneCell' = true := by
      simp only [okC, List.all_eq_true] at h
      exact h c (List.mem_of_getElem? h2)
    exact ⟨by simp only [VR]; exact ⟨trivial, this⟩, this⟩
  | tuple _ => cases h
  | _ => simp only [ofVal, VR]; exact ⟨trivial, rfl⟩
theorem VR_one {x : AV} {c : Value} (h : VR C x c) (h1 : ∀ cs, x ≠ .agg cs) (h2 : x.tuple = false) : c.oneCell' = true := by
  cases x with
  | v x => simp only [VR] at h; rw [h.1]; exact h.2
  | agg cs => exact absurd rfl (h1 cs)
  | tup cs => cases h2
  | sl e xs => simp only [VR] at h; obtain ⟨_, _, rfl, _⟩ := h; rfl
  | rop cs => simp only [VR] at h; obtain ⟨_, rfl, _⟩ := h; rfl
  | own id gen off len => simp only [VR] at h; exact h.1
  | ref id gen i off => simp only [VR] at h; rcases h with ⟨_, _, _, _, rfl⟩ | h; · rfl
                        · exact h.1
  | fn f caps => simp only [VR] at h; obtain ⟨_, ⟨rfl, _⟩, _⟩ := h; rfl
  | mp id => simp only [VR] at h; obtain ⟨_, _, _, _, _, rfl⟩ := h; rfl
  | it id => simp only [VR] at h; obtain ⟨_, _, _, _, _, _, rfl⟩ := h; rfl
  | yl id => simp only [VR] at h; obtain ⟨_, _, _, _, _, _, _, rfl⟩ := h; rfl
  | ifc => simp only [VR] at h; obtain ⟨_, _, rfl⟩ := h; rfl
theorem cells_one {c : Value} (h : c.oneCell' = true) : c.cells = #[c] := by cases c <;> first | rfl | cases h
theorem VR_cells {x : AV} {c : Value} (h : VR C x c) (h2 : x.tuple = false) : VRs C x.cells c.cells.toList := by
  cases x with
  | agg cs => simp only [VR] at h; obtain ⟨ccs, rfl, h⟩ := h; exact h
  | tup cs => cases h2
  | _ =>
    have h1 := VR_one h (by intro cs hc; cases hc) h2
    rw [cells_one h1]
    simp only [AV.cells, VRs]
    exact ⟨c, [], rfl, ⟨h, h1⟩, rfl⟩
theorem eval_tmp {t : Nat} {c : Value} (h : a.tmps[t]? = some c) : a.eval (.tmp t) = c := by simp [Act.eval, h]
theorem cOpd_ok {o : Operand} {x : Opd} (hc : cOpd o = some x) (hg : GlobR C G) (hE : EnvR C e a) {r : AV} (h : x.ev G e = some r) : VR C r (a.eval o) := by
  cases o with
  | tmp t =>
    simp only [cOpd, Option.some.injEq] at hc; subst hc
    obtain ⟨c, h1, h2⟩ := hE t r h
    rw [eval_tmp h1]; exact h2
  | const v =>
    simp only [cOpd] at hc
    split at hc
    · rename_i hv
      cases hc
      simp only [Opd.ev, Option.some.injEq] at h; subst h
      exact VR_ofVal hv
    · cases hc
  | global g =>
    simp only [cOpd, Option.some.injEq] at hc; subst hc
    simp only [Opd.ev] at h
    cases hgg : G g with
    | none => rw [hgg] at h; cases h
    | some cs =>
      rw [hgg] at h
      simp only [Option.some.injEq] at h; subst h
      simp only [VR]
      exact ⟨⟨g, 0, none⟩, rfl, rfl, (hg g cs hgg).1⟩
  | func f =>
    simp only [cOpd] at hc
    split at hc
    · rename_i hlt
      cases hc
      simp only [Opd.ev, Option.some.injEq] at h; subst h
      simp only [VR]
      exact ⟨#[], ⟨rfl, hlt⟩, by simp [VRt]⟩
    · cases hc
theorem cOpds_ok : ∀ {l : List Operand} {xs : List Opd}, cOpds l = some xs → GlobR C G → EnvR C e a → ∀ {rs : List AV}, Opd.evs G e xs = some rs → VRt C rs (l.map a.eval)
  | [], xs, hc, hg, hE, rs, h => by
    simp only [cOpds, Option.some.injEq] at hc; subst hc
    simp only [Opd.evs, Option.some.injEq] at h; subst h
    simp [VRt]
  | o :: l, xs, hc, hg, hE, rs, h => by
    simp only [cOpds, Option.bind_eq_some_iff, Option.some.injEq] at hc
    obtain ⟨y, h1, ys, h2, rfl⟩ := hc
    simp only [Opd.evs] at h
    cases k1 : y.ev G e with
    | none => rw [k1] at h; cases h
    | some r =>
      rw [k1] at h
      dsimp only at h
      cases k2 : Opd.evs G e ys with
      | none => rw [k2] at h; cases h
      | some rs' =>
        rw [k2] at h
        simp only [Option.some.injEq] at h; subst h
        simp only [List.map_cons, VRt]
        exact ⟨_, _, rfl, cOpd_ok h1 hg hE k1, cOpds_ok h2 hg hE k2⟩
theorem VR_plain {x c : Value} (h : VR C (.v x) c) : c = x := by simp only [VR] at h; exact h.1
theorem VR_v {x : Value} (h : x.oneCell' = true) : VR C (.v x) x := by simp only [VR]; exact ⟨trivial, h⟩
theorem ps_move {x : Operand} {p : Prim} {o : Op} (ho : o = .move x ∨ o = .assign x) (hc : ((cOpd x).bind fun x => some (Prim.mov x)) = some p) : PS P G bases o p := by
  intro C e a oo r st' hoo hO hg hE h
  simp only [Option.bind_eq_some_iff, Option.some.injEq] at hc
  obtain ⟨y, h1, rfl⟩ := hc
  simp only [Prim.ev] at h
  cases k1 : y.ev G e with
  | none => rw [k1] at h; cases h
  | some r1 =>
    rw [k1] at h
    simp only [Option.some.injEq, Prod.mk.injEq] at h
    obtain ⟨rfl, rfl⟩ := h
    refine Does.stay hO ?_ (cOpd_ok h1 hg hE k1)
    rcases ho with rfl | rfl <;> simp [execOp, hoo]
theorem ps_pick {c x y : Operand} {p : Prim} (hc : ((cOpd c).bind fun c => (cOpd x).bind fun a => (cOpd y).bind fun b => some (Prim.pick c a b)) = some p) : PS P G bases (.pick c x y) p := by
  intro C e a oo r st' hoo hO hg hE h
  simp only [Option.bind_eq_some_iff, Option.some.injEq] at hc
  obtain ⟨c', h1, x', h2, y', h3, rfl⟩ := hc
  simp only [Prim.ev] at h
  split at h
  · rename_i t k1
    have e1 := VR_plain (cOpd_ok h1 hg hE k1)
    cases t with
    | true =>
      simp only [if_true] at h
      cases k2 : x'.ev G e with
      | none => rw [k2] at h; cases h
      | some r1 =>
        rw [k2] at h
        simp only [Option.some.injEq, Prod.mk.injEq] at h
        obtain ⟨rfl, rfl⟩ := h
        exact Does.stay hO (by simp [execOp, hoo, e1, asBool]) (cOpd_ok h2 hg hE k2)
    | false =>
      simp only [Bool.false_eq_true, if_false] at h
      cases k2 : y'.ev G e with
      | none => rw [k2] at h; cases h
      | some r1 =>
        rw [k2] at h
        simp only [Option.some.injEq, Prod.mk.injEq] at h
        obtain ⟨rfl, rfl⟩ := h
        exact Does.stay hO (by simp [execOp, hoo, e1, asBool]) (cOpd_ok h3 hg hE k2)
  · cases h
theorem VR_ref {id gen i off : Nat} {c : Value} (h : VR C (.ref id gen i off) c) (hl : liveRef C.st id gen = true) :
    ∃ b o k, C.B[id]? = some (b, o) ∧ c = .pointer (some ⟨b, k + off, none⟩) ∧ (∀ off' : Nat, VR C (.ref id gen i off') (.pointer (some ⟨b, k + off', none⟩))) ∧
      ((∃ cs, C.st[id]? = some (.box cs) ∧ k = 0 ∧ o = 0) ∨ ∃ e xs nw, C.st[id]? = some (.row e gen xs nw) ∧ k = o + i * e) := by
  have h0 := h
  simp only [VR] at h
  rcases h with ⟨cs, b, h1, h2, rfl⟩ | ⟨_, e, g, xs, nw, h1, h2, h3⟩
  · exact ⟨b, 0, 0, h2, by simp, fun off' => by simp only [VR]; exact .inl ⟨cs, b, h1, h2, by simp⟩, .inl ⟨cs, h1, rfl, rfl⟩⟩
  · simp only [liveRef, h1, decide_eq_true_eq] at hl
    subst hl
    obtain ⟨b, o, k1, rfl⟩ := h3 rfl
    exact ⟨b, o, o + i * e, k1, rfl, fun off' => by simp only [VR]; exact .inr ⟨rfl, e, g, xs, nw, h1, h2, fun _ => ⟨b, o, k1, rfl⟩⟩, .inr ⟨e, xs, nw, h1, rfl⟩⟩
theorem ps_nilck {x : Operand} {p : Prim} (hc : ((cOpd x).bind fun x => some (Prim.nilck x)) = some p) : PS P G bases (.nilCheck x) p := by
  intro C e a oo r st' hoo hO hg hE h
  simp only [Option.bind_eq_some_iff, Option.some.injEq] at hc
  obtain ⟨y, h1, rfl⟩ := hc
  simp only [Prim.ev] at h
  split at h
  · rename_i id g i o k1
    split at h
    · rename_i hl
      simp only [Option.some.injEq, Prod.mk.injEq] at h
      obtain ⟨rfl, rfl⟩ := h
      have hv := cOpd_ok h1 hg hE k1
      obtain ⟨b, o', k, _, e1, _⟩ := VR_ref hv hl
      exact Does.stay (x := a.eval x) hO (by simp [execOp, hoo, e1]) hv
    · cases h
  · rename_i cs k1
    simp only [Option.some.injEq, Prod.mk.injEq] at h
    obtain ⟨rfl, rfl⟩ := h
    have hv := cOpd_ok h1 hg hE k1
    have hv' := hv
    simp only [VR] at hv'
    obtain ⟨ad, e1, _⟩ := hv'
    exact Does.stay (x := a.eval x) hO (by simp [execOp, hoo, e1]) hv
  · rename_i f cs k1
    simp only [Option.some.injEq, Prod.mk.injEq] at h
    obtain ⟨rfl, rfl⟩ := h
    have hv := cOpd_ok h1 hg hE k1
    have hv' := hv
    simp only [VR] at hv'
    obtain ⟨ad, e1, _⟩ := hv'
    exact Does.stay (x := a.eval x) hO (by simp [execOp, hoo, e1]) hv
  · cases h
theorem ev1 {y : Opd} {f : AV → Option (AV × Store)} {r : AV × Store} (h : (match y.ev G e with | some a => f a | none => none) = some r) : ∃ z, y.ev G e = some z ∧ f z = some r := by
  cases k : y.ev G e with
  | none => rw [k] at h; cases h
  | some z => rw [k] at h; exact ⟨z, rfl, h⟩
theorem binV_one {op : BinOp} {x y z : Value} (h : binV op x y = some z) : z.oneCell' = true := by
  unfold binV at h
  split at h
  · split at h
    · unfold binI at h
      split at h <;> (try split at h) <;> first | (cases h; done) | (cases h; rfl)
    · cases h
  · unfold binS at h
    split at h <;> (try split at h) <;> first | (cases h; done) | (cases h; rfl)
  · cases h
theorem run_binI {op : BinOp} {t : TypeId} {k : IntKind} {x y : Int} {z : Value} (h : binI op k x y = some z) (w : World) : (binOp op t (.int k x) (.int k y)).run P w = .ok z w := by
  unfold binI at h
  cases op <;> simp only [Option.some.injEq, reduceCtorEq] at h <;> first
    | (subst h; simp [binOp, Op.intArith, Op.intCmp]; done)
    | (split at h
       · cases h
       · rename_i h0
         simp only [Option.some.injEq] at h
         subst h
         simp [binOp, Op.intDiv, Op.shift, h0])
theorem run_binS {op : BinOp} {t : TypeId} {x y : ByteArray} {z : Value} (h : binS op x y = some z) (w : World) : (binOp op t (.string x) (.string y)).run P w = .ok z w := by
  unfold binS at h
  cases op <;> simp only [Option.some.injEq, reduceCtorEq] at h <;> first
    | (subst h; simp [binOp, Op.stringOp]; done)
    | (split at h
       · cases h
       · rename_i h0
         simp only [Option.some.injEq] at h
         subst h
         have h1 : ¬ ((x.size + y.size : Nat) : Int) > IntKind.i64.max := by simpa [IntKind.max, IntKind.signed, IntKind.bits] using h0
         simp only [binOp, Op.stringOp]
         rw [if_neg h1]
         rfl)
theorem run_binB {op : BinOp} {t : TypeId} {x y : Bool} {z : Value} (ht : P.underlying t = some .bool) (h : binB op x y = some z) (w : World) : (binOp op t (.bool x) (.bool y)).run P w = .ok z w := by
  unfold binB at h
  cases op <;> simp only [Option.some.injEq, reduceCtorEq] at h <;>
    (subst h; simp [binOp, run_equal_bool w t x y ht])
theorem run_eqGuard_one {op : BinOp} {t : TypeId} {x y : Operand} {v z : Value} (h : v ≠ .nilIface) (h2 : v.oneCell' = true) (w : World) : (eqGuard op t x y v z).run P w = .ok () w := by
  unfold eqGuard
  cases op <;> simp <;> (split <;> first | rfl | (exact absurd rfl h) | (cases h2))
theorem ps_bin {op : BinOp} {t yt : TypeId} {x y : Operand} {p : Prim}
    (hc : ((cOpd x).bind fun x => (cOpd y).bind fun y => some (Prim.bin op x y)) = some p) : PS P G bases (.binOp op t x y yt) p := by
  intro C e a oo r st' hoo hO hg hE h
  simp only [Option.bind_eq_some_iff, Option.some.injEq] at hc
  obtain ⟨x', h1, y', h2, rfl⟩ := hc
  simp only [Prim.ev] at h
  split at h
  · rename_i u k1
    split at h
    · rename_i v k2
      split at h
      · rename_i z k3
        simp only [Option.some.injEq, Prod.mk.injEq] at h
        obtain ⟨rfl, rfl⟩ := h
        have e1 := VR_plain (cOpd_ok h1 hg hE k1)
        have e2 := VR_plain (cOpd_ok h2 hg hE k2)
        have hr : (binOp op t u v).run P C.w = .ok z C.w ∧ u ≠ .nilIface ∧ u.oneCell' = true := by
          unfold binV at k3
          split at k3
          · split at k3
            · rename_i hk; subst hk; exact ⟨run_binI k3 _, by simp, rfl⟩
            · cases k3
          · exact ⟨run_binS k3 _, by simp, rfl⟩
          · cases k3
        refine Does.stay hO ?_ (VR_v (binV_one k3))
        simp only [execOp, hoo, e1, e2, Sem.run_bind, run_eqGuard_one hr.2.1 hr.2.2, Result.andThen_ok, hr.1, Sem.run_pure]
      · cases h
    · cases h
  · cases h
theorem ps_binb {op : BinOp} {t yt : TypeId} {x y : Operand} {p : Prim} (ht : P.underlying t = some .bool)
    (hc : ((cOpd x).bind fun x => (cOpd y).bind fun y => some (Prim.binb op x y)) = some p) : PS P G bases (.binOp op t x y yt) p := by
  intro C e a oo r st' hoo hO hg hE h
  simp only [Option.bind_eq_some_iff, Option.some.injEq] at hc
  obtain ⟨x', h1, y', h2, rfl⟩ := hc
  simp only [Prim.ev] at h
  split at h
  · rename_i u k1
    split at h
    · rename_i v k2
      split at h
      · rename_i z k3
        simp only [Option.some.injEq, Prod.mk.injEq] at h
        obtain ⟨rfl, rfl⟩ := h
        have e1 := VR_plain (cOpd_ok h1 hg hE k1)
        have e2 := VR_plain (cOpd_ok h2 hg hE k2)
        have hz : z.oneCell' = true := by
          unfold binB at k3
          split at k3 <;> first | (cases k3; done) | (cases k3; rfl)
        refine Does.stay hO ?_ (VR_v hz)
        simp only [execOp, hoo, e1, e2, Sem.run_bind, run_eqGuard_one (show Value.bool u ≠ .nilIface by simp) rfl, Result.andThen_ok, run_binB ht k3, Sem.run_pure]
      · cases h
    · cases h
  · cases h
def eqVs : List TK → List Value → List Value → Option Bool
  | [], [], [] => some true
  | k :: ks, x :: xs, y :: ys => match eqV k x y with
    | some b => match eqVs ks xs ys with
      | some c => some (b && c)
      | none => none
    | none => none
  | _, _, _ => none
theorem eqVs_of : ∀ {ks : List TK} {xs ys : List AV} {cs ds : List Value} {b : Bool}, VRs C xs cs → VRs C ys ds → eqL ks xs ys = some b → eqVs ks cs ds = some b
  | [], [], [], cs, ds, b, h, k, e => by
    simp only [VRs] at h k; subst h; subst k; simpa [eqL, eqVs] using e
  | [], _ :: _, _, _, _, _, _, _, e => by simp [eqL] at e
  | [], [], _ :: _, _, _, _, _, _, e => by simp [eqL] at e
  | _ :: _, [], _, _, _, _, _, _, e => by simp [eqL] at e
  | _ :: _, _ :: _, [], _, _, _, _, _, e => by simp [eqL] at e
  | q :: ks, x :: xs, y :: ys, cs, ds, b, h, k, e => by
    simp only [VRs] at h k
    obtain ⟨c, r, rfl, ⟨h1, _⟩, h2⟩ := h
    obtain ⟨d, z, rfl, ⟨k1, _⟩, k2⟩ := k
    cases x <;> cases y <;> simp only [eqL, reduceCtorEq] at e
    rw [VR_plain h1, VR_plain k1]
    simp only [eqVs]
    split at e
    · rename_i b1 hb1
      rw [hb1]
      split at e
      · rename_i b2 hb2
        rw [eqVs_of h2 k2 hb2]; exact e
      · cases e
    · cases e
theorem eqVs_len : ∀ {ks : List TK} {xs ys : List Value} {b : Bool}, eqVs ks xs ys = some b → xs.length = ks.length ∧ ys.length = ks.length
  | [], [], [], _, _ => ⟨rfl, rfl⟩
  | [], _ :: _, _, _, e => by simp [eqVs] at e
  | [], [], _ :: _, _, e => by simp [eqVs] at e
  | _ :: _, [], _, _, e => by simp [eqVs] at e
  | _ :: _, _ :: _, [], _, e => by simp [eqVs] at e
  | q :: ks, x :: xs, y :: ys, b, e => by
    simp only [eqVs] at e
    split at e
    · split at e
      · rename_i b2 hb2
        have := eqVs_len hb2
        simp [this]
      · cases e
    · cases e
theorem eqVs_split : ∀ {ks ls : List TK} {xs ys : List Value} {b : Bool}, eqVs (ks ++ ls) xs ys = some b → ∃ b1 b2, eqVs ks (xs.take ks.length) (ys.take ks.length) = some b1 ∧ eqVs ls (xs.drop ks.length) (ys.drop ks.length) = some b2 ∧ b = (b1 && b2)
  | [], ls, xs, ys, b, h => ⟨true, b, by simp [eqVs], by simpa using h, by simp⟩
  | q :: ks, ls, [], _, b, h => by simp [eqVs] at h
  | q :: ks, ls, _ :: _, [], b, h => by simp [eqVs] at h
  | q :: ks, ls, x :: xs, y :: ys, b, h => by
    simp only [List.cons_append, eqVs] at h
    split at h
    · rename_i b1 hb1
      split at h
      · rename_i b2 hb2
        obtain ⟨c1, c2, k1, k2, rfl⟩ := eqVs_split hb2
        simp only [Option.some.injEq] at h
        refine ⟨b1 && c1, c2, by simp [eqVs, hb1, k1], by simpa using k2, by rw [← h, Bool.and_assoc]⟩
      · cases h
    · cases h
def aggD : TypeDesc → Bool
  | .struct _ => true
  | .array _ _ => true
  | _ => false
theorem run_isAgg {t : TypeId} {d : TypeDesc} (h : P.underlying t = some d) (w : World) : (isAgg t).run P w = .ok (aggD d) w := by
  unfold isAgg
  simp only [Sem.run_bind, run_underlying h, Result.andThen_ok]
  cases d <;> rfl
theorem run_sizeOf' {t : TypeId} {i : TypeInfo} (h : P.info? t = some i) (w : World) : (sizeOf t).run P w = .ok i.size w := by
  unfold sizeOf
  simp [run_typeInfo w h]
theorem part_leaf {t : TypeId} {d : TypeDesc} (h : P.underlying t = some d) (hd : aggD d = false) {X : Array Value} {off : Nat} {v : Value} (hv : X[off]? = some v) (w : World) : (part t X off).run P w = .ok v w := by
  unfold part
  simp only [Sem.run_bind, run_isAgg h, Result.andThen_ok, hd, Bool.false_eq_true, if_false]
  rw [hv]; rfl
theorem part_agg {t : TypeId} {d : TypeDesc} (h : P.underlying t = some d) (hd : aggD d = true) {i : TypeInfo} (hi : P.info? t = some i) {X : Array Value} {off : Nat} (w : World) : (part t X off).run P w = .ok (.agg (X.extract off (off + i.size))) w := by
  unfold part
  simp only [Sem.run_bind, run_isAgg h, Result.andThen_ok, hd, if_true, run_sizeOf' hi, Sem.run_pure]
theorem seg_one {X : Array Value} {off : Nat} (h : off < X.size) : (X.toList.drop off).take 1 = [X[off]] := by
  rw [List.drop_eq_getElem_cons (by simpa using h)]; simp
theorem ext_toList (Z : Array Value) (off n : Nat) : (Z.extract off (off + n)).toList = (Z.toList.drop off).take n := by simp [List.take_drop]
theorem eq_leaf {k : TK} {X Y : Array Value} {off : Nat} {b : Bool} (hX : off + 1 ≤ X.size) (hY : off + 1 ≤ Y.size) (he : eqVs [k] ((X.toList.drop off).take 1) ((Y.toList.drop off).take 1) = some b) :
    ∃ x y, X[off]? = some x ∧ Y[off]? = some y ∧ eqV k x y = some b := by
  have hx : off < X.size := by omega
  have hy : off < Y.size := by omega
  rw [seg_one hx, seg_one hy] at he
  refine ⟨_, _, Array.getElem?_eq_getElem hx, Array.getElem?_eq_getElem hy, ?_⟩
  simp only [eqVs] at he
  split at he
  · rename_i b1 hb1; simp at he; subst he; exact hb1
  · cases he
theorem eq_plain (w : World) : ∀ d, (∀ t ks, plainN P d t = some ks → ∀ D, d ≤ D → ∀ (X Y : Array Value) (off : Nat) (b : Bool), off + ks.length ≤ X.size → off + ks.length ≤ Y.size → eqVs ks ((X.toList.drop off).take ks.length) ((Y.toList.drop off).take ks.length) = some b →
      ∃ x y, (part t X off).run P w = .ok x w ∧ (part t Y off).run P w = .ok y w ∧ (Op.equalIn D t x y).run P w = .ok b w) ∧
    (∀ fs k ks, plainFs P d fs k = some ks → ∀ D, d ≤ D → ∀ (X Y : Array Value) (b : Bool), k + ks.length ≤ X.size → k + ks.length ≤ Y.size → eqVs ks ((X.toList.drop k).take ks.length) ((Y.toList.drop k).take ks.length) = some b → (Op.eqFields D X Y fs).run P w = .ok b w) := by
  intro d
  induction d with
  | zero =>
    refine ⟨fun t n h => by simp [plainN] at h, fun fs k ks h D hD X Y b hX hY he => ?_⟩
    cases fs with
    | nil =>
      simp only [plainFs, Option.some.injEq] at h; subst h
      simp [eqVs] at he; subst he; simp [Op.eqFields]
    | cons f fs => simp [plainFs] at h
  | succ d ih =>
    obtain ⟨ih1, ih2⟩ := ih
    constructor
    · intro t ks h D hD X Y off b hX hY he
      obtain ⟨D, rfl⟩ : ∃ m, D = m + 1 := ⟨D - 1, by omega⟩
      simp only [plainN] at h
      split at h
      · rename_i hu
        simp only [Option.some.injEq] at h; subst h
        obtain ⟨x, y, hx, hy, hv⟩ := eq_leaf hX hY he
        refine ⟨x, y, part_leaf hu rfl hx w, part_leaf hu rfl hy w, ?_⟩
        cases x <;> cases y <;> simp only [eqV, reduceCtorEq, Option.some.injEq] at hv
        subst hv; exact run_equalIn_bool' w D t _ _ hu
      · rename_i kk hu
        simp only [Option.some.injEq] at h; subst h
        obtain ⟨x, y, hx, hy, hv⟩ := eq_leaf hX hY he
        refine ⟨x, y, part_leaf hu rfl hx w, part_leaf hu rfl hy w, ?_⟩
        cases x <;> cases y <;> simp only [eqV, reduceCtorEq] at hv
        split at hv
        · rename_i hk
          subst hk
          simp only [Option.some.injEq] at hv; subst hv
          exact run_equalIn_int w D t _ kk _ _ hu
        · cases hv
      · rename_i hu
        simp only [Option.some.injEq] at h; subst h
        obtain ⟨x, y, hx, hy, hv⟩ := eq_leaf hX hY he
        refine ⟨x, y, part_leaf hu rfl hx w, part_leaf hu rfl hy w, ?_⟩
        cases x <;> cases y <;> simp only [eqV, reduceCtorEq, Option.some.injEq] at hv
        subst hv; exact run_equalIn_string w D t _ _ hu
      · rename_i fs hu
        split at h
        · rename_i hs
          simp only [Option.bind_eq_some_iff] at h
          obtain ⟨i, hi, m, hm, h⟩ := h
          split at h
          · rename_i hmi
            simp only [Option.some.injEq] at h; subst h
            have hx : (X.extract off (off + i.size)).size = i.size := by simp; omega
            have hy : (Y.extract off (off + i.size)).size = i.size := by simp; omega
            have hf : P.fieldsOf t = fs := by simp [Program.fieldsOf, hu]
            refine ⟨_, _, part_agg hu rfl hi w, part_agg hu rfl hi w, ?_⟩
            rw [run_equalIn_struct (P := P) w D t _ _ (by rw [hf]; exact hu) hs, hf]
            refine ih2 fs.toList 0 _ hm D (by omega) _ _ b (by omega) (by omega) ?_
            rw [ext_toList, ext_toList, List.drop_zero, List.drop_zero, List.take_take, List.take_take, Nat.min_eq_left (by omega)]
            exact he
          · cases h
        · cases h
      · cases h
    · intro fs k ks h D hD X Y b hX hY he
      obtain ⟨D, rfl⟩ : ∃ m, D = m + 1 := ⟨D - 1, by omega⟩
      cases fs with
      | nil =>
        simp only [plainFs, Option.some.injEq] at h; subst h
        simp [eqVs] at he; subst he; simp [Op.eqFields]
      | cons f fs =>
        simp only [plainFs] at h
        split at h
        · rename_i hn
          simp only [Option.bind_eq_some_iff, Option.some.injEq] at h
          obtain ⟨ms, hm, ls, h, rfl⟩ := h
          simp only [List.length_append] at hX hY he
          obtain ⟨b1, b2, e1, e2, rfl⟩ := eqVs_split he
          rw [List.take_take, Nat.min_eq_left (by omega), List.take_take, Nat.min_eq_left (by omega)] at e1
          rw [List.drop_take, List.drop_drop, List.drop_take, List.drop_drop] at e2
          rw [show ms.length + ls.length - ms.length = ls.length by omega] at e2
          obtain ⟨x, y, p1, p2, p3⟩ := ih1 f.type ms hm (D + 1) (by omega) X Y k b1 (by omega) (by omega) e1
          have p4 := ih2 fs (k + ms.length) ls h (D + 1) (by omega) X Y b2 (by omega) (by omega) e2
          rw [Op.eqFields]
          simp only [if_pos hn.1, hn.2, Sem.run_bind, p1, p2, p3, Result.andThen_ok]
          cases b1
          · simp
          · simpa using p4
        · cases h
theorem ps_aeq {neg : Bool} {op : BinOp} {t yt : TypeId} {x y : Operand} {p : Prim} {ks : List TK} {fs : Array Field} (ht : P.underlying t = some (.struct fs)) (hop : op = (if neg then .neq else .eql)) (hk : plainN P 200 t = some ks) (hq : P.eqGuardType P.depth t = false)
    (hc : ((cOpd x).bind fun x => (cOpd y).bind fun y => some (Prim.aeq neg ks x y)) = some p) : PS P G bases (.binOp op t x y yt) p := by
  intro C e a oo r st' hoo hO hg hE h
  simp only [Option.bind_eq_some_iff, Option.some.injEq] at hc
  obtain ⟨x', h1, y', h2, rfl⟩ := hc
  simp only [Prim.ev] at h
  split at h
  · rename_i u k1
    split at h
    · rename_i v k2
      split at h
      · rename_i b k3
        simp only [Option.some.injEq, Prod.mk.injEq] at h
        obtain ⟨rfl, rfl⟩ := h
        have e1 := cOpd_ok h1 hg hE k1
        have e2 := cOpd_ok h2 hg hE k2
        simp only [VR] at e1 e2
        obtain ⟨X, e1, f1⟩ := e1
        obtain ⟨Y, e2, f2⟩ := e2
        have he := eqVs_of f1 f2 k3
        obtain ⟨l1, l2⟩ := eqVs_len he
        have hks := hk
        rw [show (200 : Nat) = 199 + 1 from rfl] at hks
        simp only [plainN, ht] at hks
        split at hks
        · rename_i hs
          simp only [Option.bind_eq_some_iff] at hks
          obtain ⟨i, hi, ms, hm, hks⟩ := hks
          split at hks
          · simp only [Option.some.injEq] at hks; subst hks
            have hf : P.fieldsOf t = fs := by simp [Program.fieldsOf, ht]
            have hr : (Op.equalIn 10000 t (.agg X) (.agg Y)).run P C.w = .ok b C.w := by
              rw [show (10000 : Nat) = 9999 + 1 from rfl, run_equalIn_struct (P := P) C.w 9999 t _ _ (by rw [hf]; exact ht) hs, hf]
              refine (eq_plain C.w 199).2 fs.toList 0 ms hm 9999 (by omega) X Y b (by simp at l1; omega) (by simp at l2; omega) ?_
              rw [List.drop_zero, List.drop_zero, ← l1, List.take_length, l1, ← l2, List.take_length]
              exact he
            refine Does.stay hO (x := .bool (if neg then !b else b)) ?_ (VR_v rfl)
            simp only [execOp, hoo, e1, e2, Sem.run_bind, run_eqGuard_agg C.w op t x y X Y hq, Result.andThen_ok, Sem.run_pure]
            cases neg <;> simp at hop <;> subst hop <;> simp only [run_eql_struct, run_neq_struct, hr, Result.andThen_ok] <;> rfl
          · cases hks
        · cases hks
      · cases h
    · cases h
  · cases h
end
end Go.Proofs.YtoobogpbejdocaaDoor.Ev
set_option linter.unusedVariables false
set_option linter.unusedSimpArgs false
namespace Go.Proofs.YtoobogpbejdocaaDoor.Ev
open Go.RowKit
section
variable {P : Program} {G : Nat → Option (List AV)} {bases : List Nat} {C : Ctx} {e : Env} {a : Act}
theorem unV_run {op : UnOp} {x z : Value} (h : unV op x = some z) (w : World) : (Op.unary op x).run P w = .ok z w ∧ z.oneCell' = true := by
  unfold unV at h
  split at h
  · split at h
    · cases h; exact ⟨by simp [Op.unary, Op.intArith], rfl⟩
    · cases h
  · split at h
    · cases h; exact ⟨by simp [Op.unary], rfl⟩
    · cases h
  · cases h
theorem ps_un {op : UnOp} {t : TypeId} {x : Operand} {p : Prim} (hc : ((cOpd x).bind fun x => some (Prim.un op x)) = some p) : PS P G bases (.unOp op t x) p := by
  intro C e a oo r st' hoo hO hg hE h
  simp only [Option.bind_eq_some_iff, Option.some.injEq] at hc
  obtain ⟨y, h1, rfl⟩ := hc
  simp only [Prim.ev] at h
  split at h
  · rename_i u k1
    split at h
    · rename_i z k2
      simp only [Option.some.injEq, Prod.mk.injEq] at h
      obtain ⟨rfl, rfl⟩ := h
      have e1 := VR_plain (cOpd_ok h1 hg hE k1)
      obtain ⟨hr, ho⟩ := unV_run (P := P) k2 C.w
      exact Does.stay hO (by simp only [execOp, hoo, e1, Sem.run_bind, hr, Result.andThen_ok, Sem.run_pure]) (VR_v ho)
    · cases h
  · cases h
theorem ps_i2i {s d : TypeId} {ks k : IntKind} {x : Operand} {p : Prim} (hs : P.underlying s = some (.int ks)) (hd : P.underlying d = some (.int k)) (hc : ((cOpd x).bind fun x => some (Prim.i2i k x)) = some p) : PS P G bases (.convert s d x) p := by
  intro C e a oo r st' hoo hO hg hE h
  simp only [Option.bind_eq_some_iff, Option.some.injEq] at hc
  obtain ⟨y, h1, rfl⟩ := hc
  simp only [Prim.ev] at h
  split at h
  · rename_i ks' n k1
    simp only [Option.some.injEq, Prod.mk.injEq] at h
    obtain ⟨rfl, rfl⟩ := h
    have e1 := VR_plain (cOpd_ok h1 hg hE k1)
    exact Does.stay hO (x := .int k (k.wrap n)) (by simp [execOp, hoo, e1, convert, run_underlying hs, run_underlying hd, Conv.intToInt]) (VR_v rfl)
  · cases h
theorem ps_i2t {s d : TypeId} {ks : IntKind} {x : Operand} {p : Prim} (hs : P.underlying s = some (.int ks)) (hd : P.underlying d = some .string) (hc : ((cOpd x).bind fun x => some (Prim.i2t x)) = some p) : PS P G bases (.convert s d x) p := by
  intro C e a oo r st' hoo hO hg hE h
  simp only [Option.bind_eq_some_iff, Option.some.injEq] at hc
  obtain ⟨y, h1, rfl⟩ := hc
  simp only [Prim.ev] at h
  split at h
  · rename_i ks' n k1
    simp only [Option.some.injEq, Prod.mk.injEq] at h
    obtain ⟨rfl, rfl⟩ := h
    have e1 := VR_plain (cOpd_ok h1 hg hE k1)
    exact Does.stay hO (x := .string (Utf8.encode n)) (by simp [execOp, hoo, e1, convert, run_underlying hs, run_underlying hd, Conv.intToString]) (VR_v rfl)
  · cases h
theorem ps_s2s {s d : TypeId} {x : Operand} {p : Prim} (hs : P.underlying s = some .string) (hd : P.underlying d = some .string) (hc : ((cOpd x).bind fun x => some (Prim.s2s x)) = some p) : PS P G bases (.convert s d x) p := by
  intro C e a oo r st' hoo hO hg hE h
  simp only [Option.bind_eq_some_iff, Option.some.injEq] at hc
  obtain ⟨y, h1, rfl⟩ := hc
  simp only [Prim.ev] at h
  split at h
  · rename_i n k1
    simp only [Option.some.injEq, Prod.mk.injEq] at h
    obtain ⟨rfl, rfl⟩ := h
    have e1 := VR_plain (cOpd_ok h1 hg hE k1)
    exact Does.stay hO (x := .string n) (by simp [execOp, hoo, e1, convert, run_underlying hs, run_underlying hd]) (VR_v rfl)
  · cases h
theorem ps_ext {i : Nat} {x : Operand} {p : Prim} (hc : ((cOpd x).bind fun x => some (Prim.ext i x)) = some p) : PS P G bases (.extract x i) p := by
  intro C e a oo r st' hoo hO hg hE h
  simp only [Option.bind_eq_some_iff, Option.some.injEq] at hc
  obtain ⟨y, h1, rfl⟩ := hc
  simp only [Prim.ev] at h
  split at h
  · rename_i cs k1
    split at h
    · rename_i q k2
      simp only [Option.some.injEq, Prod.mk.injEq] at h
      obtain ⟨rfl, rfl⟩ := h
      have e1 := cOpd_ok h1 hg hE k1
      simp only [VR] at e1
      obtain ⟨ccs, e1, f1⟩ := e1
      obtain ⟨c, m1, m2⟩ := VRt_get f1 i _ k2
      have m1' : ccs[i]? = some c := by simpa using m1
      exact Does.stay hO (x := c) (by simp [execOp, hoo, e1, Instr.extract, m1']) m2
    · cases h
  · cases h
theorem aggN_part {t : TypeId} {n : Option Nat} (hn : aggN P t = some n) {X : Array Value} {cs : List AV} {off : Nat} {r : AV} (hX : VRs C cs X.toList) (h : aggOf n (cs.drop off) = some r) :
    ∃ x, (part t X off).run P C.w = .ok x C.w ∧ VR C r x := by
  have hl := VRs_length hX
  have ag : ∀ {i : TypeInfo} {d : TypeDesc}, P.underlying t = some d → aggD d = true → P.info? t = some i → n = some i.size → ∃ x, (part t X off).run P C.w = .ok x C.w ∧ VR C r x := by
    intro i d hu hd hi hni
    subst hni
    simp only [aggOf] at h
    split at h
    · rename_i hle
      simp only [Option.some.injEq] at h; subst h
      refine ⟨_, part_agg hu hd hi C.w, ?_⟩
      simp only [VR]
      refine ⟨_, rfl, ?_⟩
      rw [ext_toList]
      exact VRs_take (VRs_drop hX off) _
    · cases h
  unfold aggN at hn
  split at hn
  · rename_i fs hu
    simp only [Option.bind_eq_some_iff, Option.some.injEq] at hn
    obtain ⟨i, hi, hn⟩ := hn
    exact ag hu rfl hi hn.symm
  · rename_i k q hu
    simp only [Option.bind_eq_some_iff, Option.some.injEq] at hn
    obtain ⟨i, hi, hn⟩ := hn
    exact ag hu rfl hi hn.symm
  · rename_i d h1 h2 hu
    simp only [Option.some.injEq] at hn; subst hn
    cases hq : cs.drop off with
    | nil => rw [hq] at h; simp [aggOf] at h
    | cons q qs =>
      rw [hq] at h
      simp only [aggOf, Option.some.injEq] at h; subst h
      have hd := VRs_drop hX off
      rw [hq] at hd
      obtain ⟨c, m1, m2, _⟩ := VRs_get hd 0 q rfl
      have m1' : X[off]? = some c := by simpa [List.getElem?_drop] using m1
      refine ⟨c, part_leaf hu ?_ m1' C.w, m2⟩
      cases d <;> first | rfl | (exact (h1 _ rfl).elim) | (exact (h2 _ _ rfl).elim)
  · cases hn
theorem ps_fld {t : TypeId} {i : Nat} {f : Field} {n : Option Nat} {fs : Array Field} {x : Operand} {p : Prim} (hu : P.underlying t = some (.struct fs)) (hf : fs[i]? = some f) (hn : aggN P f.type = some n)
    (hc : ((cOpd x).bind fun x => some (Prim.fld f.offset n x)) = some p) : PS P G bases (.field t x i) p := by
  intro C e a oo r st' hoo hO hg hE h
  simp only [Option.bind_eq_some_iff, Option.some.injEq] at hc
  obtain ⟨y, h1, rfl⟩ := hc
  simp only [Prim.ev] at h
  split at h
  · rename_i cs k1
    split at h
    · rename_i q k2
      simp only [Option.some.injEq, Prod.mk.injEq] at h
      obtain ⟨rfl, rfl⟩ := h
      have e1 := cOpd_ok h1 hg hE k1
      simp only [VR] at e1
      obtain ⟨ccs, e1, f1⟩ := e1
      obtain ⟨c, m1, m2⟩ := aggN_part hn f1 k2
      exact Does.stay hO (x := c) (by simp [execOp, hoo, e1, Instr.field, run_underlying hu, hf, asAgg, m1]) m2
    · cases h
  · cases h
theorem ps_idxs {t : TypeId} {x i : Operand} {p : Prim} (hu : P.underlying t = some .string) (hc : ((cOpd x).bind fun x => (cOpd i).bind fun i => some (Prim.idxs x i)) = some p) : PS P G bases (.index t x i) p := by
  intro C e a oo r st' hoo hO hg hE h
  simp only [Option.bind_eq_some_iff, Option.some.injEq] at hc
  obtain ⟨y, h1, z, h2, rfl⟩ := hc
  simp only [Prim.ev] at h
  split at h
  · rename_i s k1
    split at h
    · rename_i k n k2
      split at h
      · rename_i hn
        simp only [Option.some.injEq, Prod.mk.injEq] at h
        obtain ⟨rfl, rfl⟩ := h
        have e1 := VR_plain (cOpd_ok h1 hg hE k1)
        have e2 := VR_plain (cOpd_ok h2 hg hE k2)
        refine Does.stay hO (x := .int .u8 ((s[n.toNat]'hn.2).toNat : Int)) ?_ (VR_v rfl)
        have h3 : s[n.toNat]? = some (s[n.toNat]'hn.2) := ByteArray.getElem?_lt' s _ hn.2
        simp [execOp, hoo, e1, e2, Instr.index, run_underlying hu, asIntOf, hn.1, h3]
      · cases h
    · cases h
  · cases h
theorem ps_idxa {t el : TypeId} {ln : Nat} {j : TypeInfo} {n : Option Nat} {x i : Operand} {p : Prim} (hu : P.underlying t = some (.array ln el)) (hj : P.info? el = some j) (hn : aggN P el = some n)
    (hc : ((cOpd x).bind fun x => (cOpd i).bind fun i => some (Prim.idxa j.size n ln x i)) = some p) : PS P G bases (.index t x i) p := by
  intro C e a oo r st' hoo hO hg hE h
  simp only [Option.bind_eq_some_iff, Option.some.injEq] at hc
  obtain ⟨y, h1, z, h2, rfl⟩ := hc
  simp only [Prim.ev] at h
  split at h
  · rename_i cs k1
    split at h
    · rename_i k m k2
      split at h
      · rename_i hm
        split at h
        · rename_i q k3
          simp only [Option.some.injEq, Prod.mk.injEq] at h
          obtain ⟨rfl, rfl⟩ := h
          have e1 := cOpd_ok h1 hg hE k1
          simp only [VR] at e1
          obtain ⟨ccs, e1, f1⟩ := e1
          have e2 := VR_plain (cOpd_ok h2 hg hE k2)
          obtain ⟨c, m1, m2⟩ := aggN_part hn f1 k3
          refine Does.stay hO (x := c) ?_ m2
          simp only [execOp, hoo, e1, e2, Instr.index, Sem.run_bind, run_underlying hu, asIntOf, Sem.run_pure, Result.andThen_ok]
          rw [if_pos (by exact hm)]
          simp [run_sizeOf' hj, m1]
        · cases h
      · cases h
    · cases h
  · cases h
theorem add_eq (ad : Addr) (h : ad.spot = none) (n : Nat) : ad.add n = ⟨ad.block, ad.off + n, none⟩ := by
  obtain ⟨b, o, s⟩ := ad
  cases h
  exact add_plain b o n
theorem add_add (ad : Addr) (h : ad.spot = none) (m n : Nat) : (ad.add m).add n = ad.add (m + n) := by
  obtain ⟨b, o, s⟩ := ad
  cases h
  rw [add_plain, add_plain, add_plain, Nat.add_assoc]
theorem ps_fa {t : TypeId} {i : Nat} {f : Field} {j : TypeInfo} {fs : Array Field} {x : Operand} {p : Prim} (hu : P.underlying t = some (.struct fs)) (hf : fs[i]? = some f) (hj : P.info? f.type = some j) (h0 : 0 < j.size)
    (hc : ((cOpd x).bind fun x => some (Prim.fa f.offset x)) = some p) : PS P G bases (.fieldAddr t x i) p := by
  intro C e a oo r st' hoo hO hg hE h
  simp only [Option.bind_eq_some_iff, Option.some.injEq] at hc
  obtain ⟨y, h1, rfl⟩ := hc
  have hrun : ∀ ad, a.eval x = .pointer (some ad) → (execOp a.eval oo).run P C.w = .ok (.value (.pointer (some (ad.add f.offset)))) C.w := by
    intro ad e1
    simp only [execOp, hoo, e1, Instr.fieldAt, Sem.run_bind, run_underlying hu, Result.andThen_ok, hf, Instr.sureAddr, Sem.run_pure, fieldPlace, run_sizeOf' hj]
    rw [if_neg (by omega)]
    rfl
  simp only [Prim.ev] at h
  split at h
  · rename_i cs k1
    simp only [Option.some.injEq, Prod.mk.injEq] at h
    obtain ⟨rfl, rfl⟩ := h
    have e1 := cOpd_ok h1 hg hE k1
    simp only [VR] at e1
    obtain ⟨ad, e1, hs, f1⟩ := e1
    refine Does.stay hO (hrun ad e1) ?_
    simp only [VR]
    refine ⟨_, rfl, by rw [add_eq _ hs], VRat_mk fun k q hk => ?_⟩
    rw [List.getElem?_drop] at hk
    obtain ⟨c, m1, m2⟩ := VRat_get f1 _ q hk
    rw [add_add _ hs]
    exact ⟨c, by rw [show f.offset + (0 + k) = 0 + (f.offset + k) by omega]; exact m1, m2⟩
  · rename_i id g i' o k1
    split at h
    · rename_i hl
      simp only [Option.some.injEq, Prod.mk.injEq] at h
      obtain ⟨rfl, rfl⟩ := h
      have e1 := cOpd_ok h1 hg hE k1
      obtain ⟨b, o', k, q1, e2, q2, _⟩ := VR_ref e1 hl
      refine Does.stay hO (hrun _ e2) ?_
      rw [add_plain]
      have := q2 (o + f.offset)
      rwa [show k + (o + f.offset) = k + o + f.offset by omega] at this
    · cases h
  · cases h
theorem VRat_drop {ad : Addr} (hs : ad.spot = none) {cs : List AV} {k : Nat} (h : VRat C ad cs k) (n : Nat) : VRat C (ad.add (k + n)) (cs.drop n) 0 :=
  VRat_mk fun i q hq => by
    rw [List.getElem?_drop] at hq
    obtain ⟨c, m1, m2⟩ := VRat_get h _ q hq
    refine ⟨c, ?_, m2⟩
    rw [add_add _ hs, show k + n + (0 + i) = k + (n + i) by omega]; exact m1
theorem ps_iap {t el : TypeId} {ln : Nat} {j : TypeInfo} {x i : Operand} {p : Prim} (hu : P.underlying t = some (.array ln el)) (hj : P.info? el = some j)
    (hc : ((cOpd x).bind fun x => (cOpd i).bind fun i => some (Prim.iap j.size ln x i)) = some p) : PS P G bases (.indexAddr t x i) p := by
  intro C e a oo r st' hoo hO hg hE h
  simp only [Option.bind_eq_some_iff, Option.some.injEq] at hc
  obtain ⟨y, h1, z, h2, rfl⟩ := hc
  simp only [Prim.ev] at h
  split at h
  · rename_i v k1
    split at h
    · rename_i k m k2
      split at h
      · rename_i hm
        have e2 := VR_plain (cOpd_ok h2 hg hE k2)
        have hrun : ∀ ad, a.eval x = .pointer (some ad) → (execOp a.eval oo).run P C.w = .ok (.value (.pointer (some (ad.add (m.toNat * j.size))))) C.w := by
          intro ad e1
          simp only [execOp, hoo, e1, e2, Instr.indexAt, Sem.run_bind, asIntOf, Sem.run_pure, run_underlying hu, Result.andThen_ok, Instr.sureAddr, Sem.run_ite]
          rw [if_pos hm]
          simp [run_sizeOf' hj]
        have e1 := cOpd_ok h1 hg hE k1
        split at h
        · rename_i cs
          simp only [Option.some.injEq, Prod.mk.injEq] at h
          obtain ⟨rfl, rfl⟩ := h
          simp only [VR] at e1
          obtain ⟨ad, e1, hs, f1⟩ := e1
          refine Does.stay hO (hrun ad e1) ?_
          simp only [VR]
          have := VRat_drop hs f1 (m.toNat * j.size)
          rw [Nat.zero_add] at this
          exact ⟨_, rfl, by rw [add_eq _ hs], this⟩
        · rename_i id g r' o
          split at h
          · rename_i hl
            simp only [Option.some.injEq, Prod.mk.injEq] at h
            obtain ⟨rfl, rfl⟩ := h
            obtain ⟨b, o', k, q1, e2, q2, _⟩ := VR_ref e1 hl
            refine Does.stay hO (hrun _ e2) ?_
            rw [add_plain]
            have := q2 (o + m.toNat * j.size)
            rwa [show k + (o + m.toNat * j.size) = k + o + m.toNat * j.size by omega] at this
          · cases h
        · cases h
      · cases h
    · cases h
  · cases h
theorem VR_own {id gen off ln : Nat} {c : Value} (h : VR C (.own id gen off ln) c) {k : Nat} {xs : List (List AV)} {nw : Bool} (hs : C.st[id]? = some (.row k gen xs nw)) :
    ∃ b o cap t n ad, C.B[id]? = some (b, o) ∧ (c = .slice (some ad) ln cap ∧ (0 < cap → ad = ⟨b, o + off * k, none⟩)) ∧ ln ≤ cap ∧ C.w.shape? b = some (t, n) ∧ o + (off + cap) * k ≤ n ∧ off + ln ≤ xs.length := by
  simp only [VR] at h
  obtain ⟨_, e, g, ys, nw', h1, h2, h3⟩ := h
  rw [hs] at h1
  injection h1 with h1
  injection h1 with q1 q2 q3 q4
  subst q1; subst q2; subst q3
  exact h3 rfl
theorem ps_ias {t el : TypeId} {j : TypeInfo} {x i : Operand} {p : Prim} (hu : P.underlying t = some (.slice el)) (hj : P.info? el = some j)
    (hc : ((cOpd x).bind fun x => (cOpd i).bind fun i => some (Prim.ias j.size x i)) = some p) : PS P G bases (.indexAddr t x i) p := by
  intro C e a oo r st' hoo hO hg hE h
  simp only [Option.bind_eq_some_iff, Option.some.injEq] at hc
  obtain ⟨y, h1, z, h2, rfl⟩ := hc
  simp only [Prim.ev] at h
  split at h
  · rename_i v k1
    split at h
    · rename_i k m k2
      split at h
      · rename_i hm
        have e2 := VR_plain (cOpd_ok h2 hg hE k2)
        have hrun : ∀ ad ln cap, a.eval x = .slice (some ad) ln cap → m < ln → (execOp a.eval oo).run P C.w = .ok (.value (.pointer (some (ad.add (m.toNat * j.size))))) C.w := by
          intro ad ln cap e1 hlt
          simp only [execOp, hoo, e1, e2, Instr.indexAt, Sem.run_bind, asIntOf, Sem.run_pure, run_underlying hu, Result.andThen_ok, Sem.run_ite]
          rw [if_pos ⟨hm, hlt⟩]
          simp [run_sizeOf' hj]
        have e1 := cOpd_ok h1 hg hE k1
        split at h
        · rename_i k' xs
          split at h
          · rename_i hk
            subst hk
            split at h
            · rename_i c hcc
              simp only [Option.some.injEq, Prod.mk.injEq] at h
              obtain ⟨rfl, rfl⟩ := h
              simp only [VR] at e1
              obtain ⟨ao, cap, e1, _, f1⟩ := e1
              obtain ⟨hcl, ad, rfl, hs, f2⟩ := VRrow_get f1 _ c hcc
              have hlt := (List.getElem?_eq_some_iff.1 hcc).1
              refine Does.stay hO (hrun ad _ cap e1 (by omega)) ?_
              simp only [VR]
              rw [Nat.zero_add] at f2
              have := VRat_drop hs f2 0
              exact ⟨_, rfl, by rw [add_eq _ hs], by simpa using this⟩
            · cases h
          · cases h
        · rename_i id gen off ln
          split at h
          · rename_i k' g xs nw hst
            split at h
            · rename_i hq
              obtain ⟨rfl, rfl, hlt⟩ := hq
              simp only [Option.some.injEq, Prod.mk.injEq] at h
              obtain ⟨rfl, rfl⟩ := h
              obtain ⟨b, o, cap, t', n, ad, q1, ⟨q2, qa⟩, q3, q4, q5, q6⟩ := VR_own e1 hst
              obtain rfl := qa (by omega)
              refine Does.stay hO (hrun _ _ cap q2 (by omega)) ?_
              rw [add_plain]
              simp only [VR]
              refine .inr ⟨rfl, j.size, g, xs, nw, hst, Nat.le_refl _, fun _ => ⟨b, o, q1, ?_⟩⟩
              rw [Nat.add_mul]
              congr 3
              omega
            · cases h
          · cases h
        · cases h
      · cases h
    · cases h
  · cases h
end
end Go.Proofs.YtoobogpbejdocaaDoor.Ev
set_option linter.unusedVariables false
set_option linter.unusedSimpArgs false
namespace Go.Proofs.YtoobogpbejdocaaDoor.Ev
open Go.RowKit
theorem flat_get {α : Type} {e : Nat} : ∀ {xs : List (List α)}, (∀ c, c ∈ xs → c.length = e) → ∀ (i j : Nat) (c : List α), xs[i]? = some c → j < e → xs.flatten[i * e + j]? = c[j]?
  | [], _, i, j, c, h, _ => by simp at h
  | x :: xs, hl, 0, j, c, h, hj => by
    simp at h; subst h
    have := hl x (by simp)
    simp only [List.flatten_cons, Nat.zero_mul, Nat.zero_add]
    rw [List.getElem?_append_left (by omega)]
  | x :: xs, hl, i + 1, j, c, h, hj => by
    simp only [List.getElem?_cons_succ] at h
    have hx := hl x (by simp)
    simp only [List.flatten_cons]
    rw [List.getElem?_append_right (by rw [hx, Nat.add_mul]; omega), hx, show (i + 1) * e + j - e = i * e + j by rw [Nat.add_mul]; omega]
    exact flat_get (fun c hc => hl c (by simp [hc])) i j c h hj
theorem flat_len {α : Type} {e : Nat} : ∀ {xs : List (List α)}, (∀ c, c ∈ xs → c.length = e) → xs.flatten.length = xs.length * e
  | [], _ => by simp
  | x :: xs, h => by
    have := h x (by simp)
    simp only [List.flatten_cons, List.length_append, List.length_cons, this]
    rw [flat_len fun c hc => h c (by simp [hc]), Nat.add_mul]; omega
section
variable {P : Program} {G : Nat → Option (List AV)} {bases : List Nat} {C : Ctx} {e : Env} {a : Act}
theorem row_cell {b o k g : Nat} {xs : List (List AV)} {nw : Bool} (h : ObR C b o (.row k g xs nw)) {i j : Nat} {c : List AV} {q : AV} (hi : xs[i]? = some c) (hj : c[j]? = some q) :
    ∃ v, C.w.cell? ⟨b, o + i * k + j, none⟩ = some v ∧ VR C q v ∧ v.oneCell' = true := by
  obtain ⟨ccs, t, ⟨fr, h1, _⟩, h2, h3, h4⟩ := h
  have hcl := h2 c (List.mem_of_getElem? hi)
  have hjl : j < k := by have := (List.getElem?_eq_some_iff.1 hj).1; omega
  have hil := (List.getElem?_eq_some_iff.1 hi).1
  obtain ⟨v, m1, m2, m3⟩ := VRs_get h4 (i * k + j) q (by rw [flat_get h2 i j c hi hjl]; exact hj)
  refine ⟨v, ?_, m2, m3⟩
  rw [List.getElem?_take] at m1
  split at m1
  · rw [List.getElem?_drop] at m1
    simp only [World.cell?, h1]
    simpa [Nat.add_assoc] using m1
  · cases m1
theorem ld_sound (hO : C.OK) {p : AV} {v : Value} {cs : List AV} (h : VR C p v) (hl : ldAt C.st p = some cs) :
    ∃ ad, v = .pointer (some ad) ∧ ad.spot = none ∧ ∀ i q, cs[i]? = some q → ∃ c, C.w.cell? (ad.add i) = some c ∧ VR C q c ∧ c.oneCell' = true := by
  cases p with
  | rop ds =>
    simp only [ldAt, Option.some.injEq] at hl; subst hl
    simp only [VR] at h
    obtain ⟨ad, rfl, hs, f⟩ := h
    refine ⟨ad, rfl, hs, fun i q hq => ?_⟩
    obtain ⟨c, m1, m2⟩ := VRat_get f i q hq
    rw [Nat.zero_add] at m1
    exact ⟨c, m1.1, m2⟩
  | ref id gen i off =>
    simp only [ldAt] at hl
    split at hl
    · rename_i ds hst
      split at hl
      · rename_i hgi
        simp only [Option.some.injEq] at hl; subst hl
        obtain ⟨b, o, hb, f1, ccs, t, f2, f3⟩ := hO.get hst
        simp only [VR] at h
        rcases h with ⟨cs', b', k1, k2, rfl⟩ | ⟨_, k, g, xs, nw, k1, _⟩
        · rw [hb] at k2; injection k2 with k2; injection k2 with k2 k3
          subst k2
          refine ⟨_, rfl, rfl, fun i q hq => ?_⟩
          rw [List.getElem?_drop] at hq
          obtain ⟨c, m1, m2⟩ := VRs_get f3 _ q hq
          refine ⟨c, ?_, m2⟩
          rw [add_plain]
          simp only [World.cell?, f2]
          simpa using m1
        · rw [hst] at k1; cases k1
      · cases hl
    · rename_i k g xs nw hst
      split at hl
      · rename_i hg
        subst hg
        split at hl
        · rename_i c hcc
          simp only [Option.some.injEq] at hl; subst hl
          obtain ⟨b, o, hb, f⟩ := hO.get hst
          simp only [VR] at h
          rcases h with ⟨cs', b', k1, k2, rfl⟩ | ⟨_, k', g', xs', nw', k1, k2, k3⟩
          · rw [hst] at k1; cases k1
          · rw [hst] at k1
            injection k1 with k1
            injection k1 with q1 q2 q3 q4
            subst q1; subst q2; subst q3
            obtain ⟨b', o', m1, rfl⟩ := k3 rfl
            rw [hb] at m1; injection m1 with m1; injection m1 with m1 m2
            subst m1; subst m2
            refine ⟨_, rfl, rfl, fun j q hq => ?_⟩
            rw [List.getElem?_drop] at hq
            obtain ⟨v, n1, n2⟩ := row_cell f hcc hq
            rw [add_plain, show o + i * k + off + j = o + i * k + (off + j) by omega]
            exact ⟨v, n1, n2⟩
        · cases hl
      · cases hl
    · cases hl
  | _ => simp [ldAt] at hl
theorem list_of {cs : List AV} {w : World} {ad : Addr} : (∀ i q, cs[i]? = some q → ∃ c, w.cell? (ad.add i) = some c ∧ VR C q c ∧ c.oneCell' = true) → ∀ n, n ≤ cs.length →
    ∃ vs : List Value, vs.length = n ∧ VRs C (cs.take n) vs ∧ ∀ (j : Nat) (v : Value), vs[j]? = some v → w.cell? (ad.add j) = some v := by
  intro h n
  induction n with
  | zero => intro _; exact ⟨[], rfl, by simp [VRs], by simp⟩
  | succ n ih =>
    intro hn
    obtain ⟨vs, h1, h2, h3⟩ := ih (by omega)
    have hq : cs[n]? = some cs[n] := List.getElem?_eq_getElem (by omega)
    obtain ⟨c, m1, m2, m3⟩ := h n _ hq
    refine ⟨vs ++ [c], by simp [h1], ?_, fun j v hv => ?_⟩
    · rw [List.take_add_one, hq]
      exact VRs_append h2 (by simp [VRs, m2, m3])
    · rw [List.getElem?_append] at hv
      split at hv
      · exact h3 j v hv
      · rename_i hj
        have : j - vs.length = 0 := by
          rcases Nat.eq_zero_or_pos (j - vs.length) with h0 | h0
          · exact h0
          · rw [List.getElem?_eq_none (by simp; omega)] at hv; cases hv
        rw [this] at hv
        simp at hv; subst hv
        rw [show j = n by omega]; exact m1
theorem run_loadVar {t : TypeId} {n : Option Nat} (hn : aggN P t = some n) {ad : Addr} {cs : List AV} {r : AV} (hs : ad.spot = none) (h : ∀ i q, cs[i]? = some q → ∃ c, C.w.cell? (ad.add i) = some c ∧ VR C q c ∧ c.oneCell' = true)
    (hr : aggOf n cs = some r) : ∃ x, (loadVar t ad).run P C.w = .ok x C.w ∧ VR C r x := by
  have ag : ∀ {i : TypeInfo} {d : TypeDesc}, P.underlying t = some d → aggD d = true → P.info? t = some i → n = some i.size → ∃ x, (loadVar t ad).run P C.w = .ok x C.w ∧ VR C r x := by
    intro i d hu hd hi hni
    subst hni
    simp only [aggOf] at hr
    split at hr
    · rename_i hle
      simp only [Option.some.injEq] at hr; subst hr
      obtain ⟨vs, h1, h2, h3⟩ := list_of h _ hle
      refine ⟨.agg vs.toArray, ?_, by simp only [VR]; exact ⟨_, rfl, by simpa using h2⟩⟩
      have := run_loadCells_list (P := P) C.w ad vs h3
      rw [h1] at this
      simp [loadVar, run_isAgg hu, hd, run_sizeOf' hi, this]
    · cases hr
  unfold aggN at hn
  split at hn
  · rename_i fs hu
    simp only [Option.bind_eq_some_iff, Option.some.injEq] at hn
    obtain ⟨i, hi, hn⟩ := hn
    exact ag hu rfl hi hn.symm
  · rename_i k q hu
    simp only [Option.bind_eq_some_iff, Option.some.injEq] at hn
    obtain ⟨i, hi, hn⟩ := hn
    exact ag hu rfl hi hn.symm
  · rename_i d h1 h2 hu
    simp only [Option.some.injEq] at hn; subst hn
    cases cs with
    | nil => simp [aggOf] at hr
    | cons q qs =>
      simp only [aggOf, Option.some.injEq] at hr; subst hr
      obtain ⟨c, m1, m2, m3⟩ := h 0 q rfl
      have hd : aggD d = false := by cases d <;> first | rfl | (exact (h1 _ rfl).elim) | (exact (h2 _ _ rfl).elim)
      have m1' : C.w.cell? ad = some c := by
        rw [add_eq _ hs] at m1
        obtain ⟨b, o, s⟩ := ad
        cases hs
        exact m1
      exact ⟨c, by simp [loadVar, run_isAgg hu, hd, m1'], m2⟩
  · cases hn
theorem ps_load {t : TypeId} {n : Option Nat} {x : Operand} {p : Prim} (hn : aggN P t = some n) (hc : ((cOpd x).bind fun x => some (Prim.load n x)) = some p) : PS P G bases (.load t x) p := by
  intro C e a oo r st' hoo hO hg hE h
  simp only [Option.bind_eq_some_iff, Option.some.injEq] at hc
  obtain ⟨y, h1, rfl⟩ := hc
  simp only [Prim.ev] at h
  obtain ⟨z, k1, h⟩ := ev1 h
  split at h
  · rename_i cs k2
    split at h
    · rename_i r1 k3
      simp only [Option.some.injEq, Prod.mk.injEq] at h
      obtain ⟨rfl, rfl⟩ := h
      obtain ⟨ad, e1, hs, f⟩ := ld_sound hO (cOpd_ok h1 hg hE k1) k2
      obtain ⟨v, m1, m2⟩ := run_loadVar hn hs f k3
      exact Does.stay hO (x := v) (by simp [execOp, hoo, e1, Instr.loadAt, Instr.sureAddr, m1]) m2
    · cases h
  · cases h
theorem run_equal_nil {t el : TypeId} (hu : P.underlying t = some (.pointer el)) (b : Option Addr) (w : World) : (Op.equal t (.pointer b) (.pointer none)).run P w = .ok b.isNone w := by
  have key : ∀ d, (Op.equalIn (d + 1) t (.pointer b) (.pointer none)).run P w = .ok b.isNone w := by
    intro d
    cases b <;> simp [Op.equalIn, run_underlying hu]
  exact key 9999
theorem ps_isnil {neg : Bool} {op : BinOp} {t yt el : TypeId} {x : Operand} {p : Prim} (hu : P.underlying t = some (.pointer el)) (hop : op = (if neg then .neq else .eql)) (hc : ((cOpd x).bind fun x => some (Prim.isnil neg x)) = some p) : PS P G bases (.binOp op t x (.const (.pointer none)) yt) p := by
  intro C e a oo r st' hoo hO hg hE h
  simp only [Option.bind_eq_some_iff, Option.some.injEq] at hc
  obtain ⟨y, h1, rfl⟩ := hc
  have hrun : ∀ b, a.eval x = .pointer b → (execOp a.eval oo).run P C.w = .ok (.value (.bool (if neg then !b.isNone else b.isNone))) C.w := by
    intro b e1
    have e2 : a.eval (.const (.pointer none)) = .pointer none := rfl
    simp only [execOp, hoo, e1, e2, Sem.run_bind, run_eqGuard_one (show Value.pointer b ≠ .nilIface by simp) rfl, Result.andThen_ok]
    cases neg <;> simp at hop <;> subst hop <;> simp [binOp, run_equal_nil hu]
  simp only [Prim.ev] at h
  split at h
  · rename_i id g i o k1
    split at h
    · rename_i hl
      simp only [Option.some.injEq, Prod.mk.injEq] at h
      obtain ⟨rfl, rfl⟩ := h
      obtain ⟨b, o', k, _, e1, _⟩ := VR_ref (cOpd_ok h1 hg hE k1) hl
      refine Does.stay hO (hrun _ e1) ?_
      cases neg <;> exact VR_v rfl
    · cases h
  · rename_i k1
    simp only [Option.some.injEq, Prod.mk.injEq] at h
    obtain ⟨rfl, rfl⟩ := h
    have e1 := VR_plain (cOpd_ok h1 hg hE k1)
    refine Does.stay hO (hrun _ e1) ?_
    cases neg <;> exact VR_v rfl
  · cases h
theorem run_equal_nilI {t : TypeId} {ms} (hu : P.underlying t = some (.interface ms)) (w : World) : (Op.equal t .nilIface .nilIface).run P w = .ok true w ∧ ∀ (tp : TypeId) (p : Value), (Op.equal t (.iface tp p) .nilIface).run P w = .ok false w := by
  have key : ∀ d, (Op.equalIn (d + 1) t .nilIface .nilIface).run P w = .ok true w ∧ ∀ (tp : TypeId) (p : Value), (Op.equalIn (d + 1) t (.iface tp p) .nilIface).run P w = .ok false w := by
    intro d
    exact ⟨by simp [Op.equalIn, run_underlying hu], fun tp p => by simp [Op.equalIn, run_underlying hu]⟩
  exact key 9999
theorem ps_isnilI {neg : Bool} {op : BinOp} {t yt : TypeId} {ms} {x : Operand} {p : Prim} (hu : P.underlying t = some (.interface ms)) (hop : op = (if neg then .neq else .eql)) (hc : ((cOpd x).bind fun x => some (Prim.isnilI neg x)) = some p) : PS P G bases (.binOp op t x (.const .nilIface) yt) p := by
  intro C e a oo r st' hoo hO hg hE h
  simp only [Option.bind_eq_some_iff, Option.some.injEq] at hc
  obtain ⟨y, h1, rfl⟩ := hc
  have e2 : a.eval (.const .nilIface) = .nilIface := rfl
  simp only [Prim.ev] at h
  split at h
  · rename_i k1
    simp only [Option.some.injEq, Prod.mk.injEq] at h
    obtain ⟨rfl, rfl⟩ := h
    have e1 := VR_plain (cOpd_ok h1 hg hE k1)
    have hg2 : (eqGuard op t x (.const .nilIface) .nilIface .nilIface).run P C.w = .ok () C.w := by
      unfold eqGuard
      cases op <;> simp
    refine Does.stay hO (x := .bool (!neg)) ?_ (VR_v rfl)
    simp only [execOp, hoo, e1, e2, Sem.run_bind, hg2, Result.andThen_ok]
    cases neg <;> simp at hop <;> subst hop <;> simp [binOp, (run_equal_nilI hu _).1]
  · rename_i k1
    simp only [Option.some.injEq, Prod.mk.injEq] at h
    obtain ⟨rfl, rfl⟩ := h
    have e1 := cOpd_ok h1 hg hE k1
    simp only [VR] at e1
    obtain ⟨tp, pp, e1⟩ := e1
    refine Does.stay hO (x := .bool neg) ?_ (VR_v rfl)
    simp only [execOp, hoo, e1, e2, Sem.run_bind, run_eqGuard_one (show Value.iface tp pp ≠ .nilIface by simp) rfl, Result.andThen_ok]
    cases neg <;> simp at hop <;> subst hop <;> simp [binOp, (run_equal_nilI hu _).2]
  · cases h
theorem run_equal_nils {t el : TypeId} (hu : P.underlying t = some (.slice el)) (b : Option Addr) (n c : Nat) (w : World) : (Op.equal t (.slice b n c) (.slice none 0 0)).run P w = .ok b.isNone w := by
  have key : ∀ d, (Op.equalIn (d + 1) t (.slice b n c) (.slice none 0 0)).run P w = .ok b.isNone w := by
    intro d
    cases b <;> simp [Op.equalIn, run_underlying hu]
  exact key 9999
theorem ps_isnils {neg : Bool} {op : BinOp} {t yt el : TypeId} {x : Operand} {p : Prim} (hu : P.underlying t = some (.slice el)) (hop : op = (if neg then .neq else .eql)) (hc : ((cOpd x).bind fun x => some (Prim.isnils neg x)) = some p) : PS P G bases (.binOp op t x (.const (.slice none 0 0)) yt) p := by
  intro C e a oo r st' hoo hO hg hE h
  simp only [Option.bind_eq_some_iff, Option.some.injEq] at hc
  obtain ⟨y, h1, rfl⟩ := hc
  have hrun : ∀ b n c, a.eval x = .slice b n c → (execOp a.eval oo).run P C.w = .ok (.value (.bool (if neg then !b.isNone else b.isNone))) C.w := by
    intro b n c e1
    have e2 : a.eval (.const (.slice none 0 0)) = .slice none 0 0 := rfl
    simp only [execOp, hoo, e1, e2, Sem.run_bind, run_eqGuard_one (show Value.slice b n c ≠ .nilIface by simp) rfl, Result.andThen_ok]
    cases neg <;> simp at hop <;> subst hop <;> simp [binOp, run_equal_nils hu]
  simp only [Prim.ev] at h
  split at h
  · rename_i k1
    simp only [Option.some.injEq, Prod.mk.injEq] at h
    obtain ⟨rfl, rfl⟩ := h
    have e1 := VR_plain (cOpd_ok h1 hg hE k1)
    refine Does.stay hO (hrun _ _ _ e1) ?_
    cases neg <;> exact VR_v rfl
  · rename_i el' xs k1
    simp only [Option.some.injEq, Prod.mk.injEq] at h
    obtain ⟨rfl, rfl⟩ := h
    have hv := cOpd_ok h1 hg hE k1
    simp only [VR] at hv
    obtain ⟨b, cap, e1, ⟨_, hs⟩, _⟩ := hv
    cases b with
    | none => cases hs
    | some b =>
      refine Does.stay hO (hrun _ _ _ e1) ?_
      cases neg <;> exact VR_v rfl
  · rename_i id g off ln k1
    split at h
    · rename_i e' g' xs nw k2
      split at h
      · rename_i hgg
        subst hgg
        simp only [Option.some.injEq, Prod.mk.injEq] at h
        obtain ⟨rfl, rfl⟩ := h
        have hv := cOpd_ok h1 hg hE k1
        simp only [VR] at hv
        obtain ⟨_, e2, g2, xs2, nw2, h3, _, h5⟩ := hv
        rw [k2] at h3
        cases h3
        obtain ⟨b, o, cap, t', n', ad, _, ⟨e1, _⟩, _⟩ := h5 rfl
        refine Does.stay hO (hrun _ _ _ e1) ?_
        cases neg <;> exact VR_v rfl
      · cases h
    · cases h
  · cases h
theorem ps_mkf {f : FuncId} (hlt : f < yB) {caps : Array Operand} {p : Prim} (hc : ((cOpds caps.toList).bind fun l => some (Prim.mkf f l)) = some p) : PS P G bases (.makeFunc (.func f) #[] caps) p := by
  intro C e a oo r st' hoo hO hg hE h
  simp only [Option.bind_eq_some_iff, Option.some.injEq] at hc
  obtain ⟨l, h1, rfl⟩ := hc
  simp only [Prim.ev] at h
  split at h
  · rename_i rs k1
    simp only [Option.some.injEq, Prod.mk.injEq] at h
    obtain ⟨rfl, rfl⟩ := h
    have f1 := cOpds_ok h1 hg hE k1
    refine Does.stay hO (x := .func (.func f) #[] (caps.map a.eval)) (by simp [execOp, hoo, Instr.makeFunc]) ?_
    simp only [VR]
    exact ⟨_, ⟨rfl, hlt⟩, by simpa using f1⟩
  · cases h
theorem intOf_v {z : AV} {n : Int} (h : intOf z = some n) : ∃ k, z = .v (.int k n) := by
  unfold intOf at h
  split at h
  · rename_i k m; simp only [Option.some.injEq] at h; subst h; exact ⟨k, rfl⟩
  · cases h
theorem evo_ok {o : Option Operand} {x : Option Opd} (hc : cOpdo o = some x) (hg : GlobR C G) (hE : EnvR C e a) {r : Option AV} (h : Opd.evo G e x = some r) (hi : (r.all fun z => (intOf z).isSome) = true) :
    (o = none ∧ r = none) ∨ ∃ y k n, o = some y ∧ a.eval y = .int k n ∧ r.bind intOf = some n := by
  cases o with
  | none =>
    simp only [cOpdo, Option.some.injEq] at hc; subst hc
    simp only [Opd.evo, Option.some.injEq] at h; subst h
    exact .inl ⟨rfl, rfl⟩
  | some y =>
    simp only [cOpdo, Option.bind_eq_some_iff, Option.some.injEq] at hc
    obtain ⟨z, h1, rfl⟩ := hc
    simp only [Opd.evo] at h
    split at h
    · rename_i q k1
      simp only [Option.some.injEq] at h; subst h
      simp only [Option.all_some] at hi
      obtain ⟨n, hn⟩ := Option.isSome_iff_exists.1 hi
      obtain ⟨k, rfl⟩ := intOf_v hn
      refine .inr ⟨y, k, n, rfl, VR_plain (cOpd_ok h1 hg hE k1), by simp [hn]⟩
    · cases h
theorem run_bounds {sl : Bool} {len cap : Nat} {lo hi : Option Operand} {l h : Option AV} {n m : Int}
    (hl : (lo = none ∧ l = none) ∨ ∃ y k n, lo = some y ∧ a.eval y = .int k n ∧ l.bind intOf = some n)
    (hh : (hi = none ∧ h = none) ∨ ∃ y k n, hi = some y ∧ a.eval y = .int k n ∧ h.bind intOf = some n)
    (hb : aszI (h.bind intOf) len = n) (ha : aszI (l.bind intOf) 0 = m) (b0 : 0 ≤ n) (b1 : n ≤ len) (b2 : 0 ≤ m) (b3 : m ≤ n) (hlc : len ≤ cap) (w : World) :
    (Instr.sliceBounds sl len cap (lo.map a.eval) (hi.map a.eval) none).run P w = .ok (m.toNat, n.toNat, cap) w := by
  have hq : ∀ (k : IntKind) (i : Int) (y : Nat) (code : BoundsCode), 0 ≤ i → i ≤ y → (Instr.sliceBound (.int k i) y code).run P w = .ok i.toNat w := by
    intro k i y code h0 h1
    simp [Instr.sliceBound, asIntOf, h0, h1]
  unfold Instr.sliceBounds
  rcases hh with ⟨rfl, rfl⟩ | ⟨y, k, n', rfl, e1, e2⟩ <;> rcases hl with ⟨rfl, rfl⟩ | ⟨z, k', m', rfl, f1, f2⟩
  · simp [aszI] at hb ha
    subst hb; subst ha
    simp
  · simp [aszI] at hb
    subst hb
    rw [f2] at ha
    simp [aszI] at ha
    subst ha
    simp [f1, hq _ _ _ _ b2 b3]
  · simp [aszI] at ha
    subst ha
    rw [e2] at hb
    simp [aszI] at hb
    subst hb
    simp [e1, hq _ _ _ _ b0 (show n' ≤ (cap : Int) by omega)]
  · rw [e2] at hb
    rw [f2] at ha
    simp [aszI] at ha hb
    subst ha; subst hb
    simp [e1, f1, hq _ _ _ _ b0 (show n' ≤ (cap : Int) by omega), hq _ _ _ _ b2 (show m' ≤ (n'.toNat : Int) by omega)]
theorem ps_sls {t : TypeId} {x : Operand} {lo hi : Option Operand} {p : Prim} (hu : P.underlying t = some .string)
    (hc : ((cOpd x).bind fun x => (cOpdo lo).bind fun lo => (cOpdo hi).bind fun hi => some (Prim.sls x lo hi)) = some p) : PS P G bases (.slice t x lo hi none) p := by
  intro C e a oo r st' hoo hO hg hE h
  simp only [Option.bind_eq_some_iff, Option.some.injEq] at hc
  obtain ⟨y, h1, lo', h2, hi', h3, rfl⟩ := hc
  simp only [Prim.ev] at h
  split at h
  · rename_i s k1
    split at h
    · rename_i l k2
      split at h
      · rename_i hh k3
        split at h
        · rename_i hq
          obtain ⟨q1, q2, q3, q4, q5, q6⟩ := hq
          simp only [Option.some.injEq, Prod.mk.injEq] at h
          obtain ⟨rfl, rfl⟩ := h
          have e1 := VR_plain (cOpd_ok h1 hg hE k1)
          have r1 := run_bounds (P := P) (sl := false) (cap := s.size) (evo_ok h2 hg hE k2 q1) (evo_ok h3 hg hE k3 q2) rfl rfl q3 q4 q5 q6 (Nat.le_refl _) C.w
          refine Does.stay hO (x := .string _) ?_ (VR_v rfl)
          simp [execOp, hoo, e1, Instr.sliceAt, run_underlying hu, Instr.slice, r1]
        · cases h
      · cases h
    · cases h
  · cases h
theorem ps_slx {t el : TypeId} {j : TypeInfo} {x : Operand} {lo hi : Option Operand} {p : Prim} (hu : P.underlying t = some (.slice el)) (hj : P.info? el = some j)
    (hc : ((cOpd x).bind fun x => (cOpdo lo).bind fun lo => (cOpdo hi).bind fun hi => some (Prim.slx j.size x lo hi)) = some p) : PS P G bases (.slice t x lo hi none) p := by
  intro C e a oo r st' hoo hO hg hE h
  simp only [Option.bind_eq_some_iff, Option.some.injEq] at hc
  obtain ⟨y, h1, lo', h2, hi', h3, rfl⟩ := hc
  simp only [Prim.ev] at h
  split at h
  · rename_i z k1
    split at h
    · rename_i l k2
      split at h
      · rename_i hh k3
        split at h
        · rename_i n k4
          split at h
          · rename_i hq
            obtain ⟨q1, q2, q3, q4, q5, q6⟩ := hq
            have e1 := cOpd_ok h1 hg hE k1
            have b1 := evo_ok h2 hg hE k2 q1
            have b2 := evo_ok h3 hg hE k3 q2
            have hrun : ∀ ao cap, a.eval x = .slice ao n cap → n ≤ cap → (execOp a.eval oo).run P C.w = .ok (.value (.slice (if cap = (aszI (l.bind intOf) 0).toNat then ao else ao.map (·.add ((aszI (l.bind intOf) 0).toNat * j.size))) ((aszI (hh.bind intOf) n).toNat - (aszI (l.bind intOf) 0).toNat) (cap - (aszI (l.bind intOf) 0).toNat))) C.w := by
              intro ao cap e2 hle
              have r1 := run_bounds (P := P) (sl := true) (cap := cap) b1 b2 rfl rfl q3 q4 q5 q6 hle C.w
              simp [execOp, hoo, e2, Instr.sliceAt, run_underlying hu, Instr.slice, r1, run_sizeOf' hj]
            split at h
            · rename_i k' xs
              split at h
              · rename_i hk
                subst hk
                simp only [Option.some.injEq, Prod.mk.injEq] at h
                obtain ⟨rfl, rfl⟩ := h
                simp only [lenAV, Option.some.injEq] at k4; subst k4
                simp only [VR] at e1
                obtain ⟨ao, cap, e1, ⟨hle, hsome⟩, f1⟩ := e1
                refine Does.stay hO (hrun ao cap e1 hle) ?_
                generalize hL : (aszI (l.bind intOf) 0).toNat = L
                generalize hH : (aszI (hh.bind intOf) xs.length).toNat = H
                have hlen : ((xs.drop L).take (H - L)).length = H - L := by simp; omega
                simp only [VR]
                refine ⟨_, _, by rw [hlen], ⟨by rw [hlen]; omega, by split <;> simpa using hsome⟩, VRrow_mk fun i c hcc => ?_⟩
                rw [List.getElem?_take] at hcc
                split at hcc
                · rename_i hi
                  rw [List.getElem?_drop] at hcc
                  obtain ⟨m1, ad, rfl, hs, m2⟩ := VRrow_get f1 _ c hcc
                  refine ⟨m1, _, by rw [if_neg (by omega)]; rfl, by show (ad.add _).spot = none; rw [add_eq _ hs], ?_⟩
                  refine VRat_mk fun k q hk => ?_
                  obtain ⟨v, n1, n2⟩ := VRat_get m2 k q hk
                  rw [add_add _ hs]
                  refine ⟨v, ?_, n2⟩
                  rw [show L * j.size + ((0 + i) * j.size + k) = (0 + (L + i)) * j.size + k by rw [Nat.zero_add, Nat.zero_add, Nat.add_mul]; omega]
                  exact n1
                · cases hcc
              · cases h
            · rename_i id gen off ln
              split at h
              · rename_i k' g xs nw hst
                split at h
                · rename_i hkg
                  obtain ⟨rfl, rfl⟩ := hkg
                  simp only [Option.some.injEq, Prod.mk.injEq] at h
                  obtain ⟨rfl, rfl⟩ := h
                  simp only [lenAV, hst, if_true, Option.some.injEq] at k4; subst k4
                  obtain ⟨b, o, cap, t', n, ad, p1, ⟨p2, pa⟩, p3, p4, p5, p6⟩ := VR_own e1 hst
                  refine Does.stay hO (hrun _ cap p2 p3) ?_
                  generalize hL : (aszI (l.bind intOf) 0).toNat = L
                  generalize hH : (aszI (hh.bind intOf) ln).toNat = H
                  have hLH : L ≤ H ∧ H ≤ ln := by omega
                  by_cases hcl : cap = L
                  · rw [if_pos hcl]
                    simp only [VR]
                    refine ⟨rfl, j.size, g, xs, nw, hst, Nat.le_refl _, fun _ => ⟨b, o, cap - L, t', n, ad, p1, ⟨rfl, fun h0 => by omega⟩, by omega, p4, ?_, by omega⟩⟩
                    rw [show off + L + (cap - L) = off + cap by omega]; exact p5
                  · rw [if_neg hcl]
                    obtain rfl := pa (by omega)
                    simp only [Option.map_some, VR]
                    refine ⟨rfl, j.size, g, xs, nw, hst, Nat.le_refl _, fun _ => ⟨b, o, cap - L, t', n, _, p1, ⟨rfl, fun h0 => ?_⟩, by omega, p4, ?_, by omega⟩⟩
                    · rw [add_plain, Nat.add_mul]; congr 1; omega
                    · rw [show off + L + (cap - L) = off + cap by omega]; exact p5
                · cases h
              · cases h
            · rename_i k1'
              simp only [Option.some.injEq, Prod.mk.injEq] at h
              obtain ⟨rfl, rfl⟩ := h
              simp only [lenAV, Option.some.injEq] at k4; subst k4
              have e2 := VR_plain e1
              have hz := hrun none 0 e2 (Nat.le_refl _)
              rw [show (aszI (l.bind intOf) 0).toNat = 0 by omega, show (aszI (hh.bind intOf) ((0 : Nat) : Int)).toNat = 0 by omega, if_pos rfl] at hz
              exact Does.stay hO hz (VR_v rfl)
            · cases h
          · cases h
        · cases h
      · cases h
    · cases h
  · cases h
theorem ps_lens {t : TypeId} {x : Operand} {p : Prim} (hu : P.underlying t = some .string)
    (hc : ((cOpd x).bind fun x => some (Prim.lens x)) = some p) : PS P G bases (.call { callee := .builtin .len, args := #[x], argTypes := #[t] }) p := by
  intro C e a oo r st' hoo hO hg hE h
  simp only [Option.bind_eq_some_iff, Option.some.injEq] at hc
  obtain ⟨y, h1, rfl⟩ := hc
  simp only [Prim.ev] at h
  split at h
  · rename_i s k1
    simp only [Option.some.injEq, Prod.mk.injEq] at h
    obtain ⟨rfl, rfl⟩ := h
    have e1 := VR_plain (cOpd_ok h1 hg hE k1)
    exact Does.stay hO (x := .int .i64 s.size) (by simp [execOp, hoo, resolve, e1, invoke, builtin, Builtin.len_, run_underlying hu, goInt]) (VR_v rfl)
  · cases h
theorem ps_len {t el : TypeId} {x : Operand} {p : Prim} (hu : P.underlying t = some (.slice el))
    (hc : ((cOpd x).bind fun x => some (Prim.len x)) = some p) : PS P G bases (.call { callee := .builtin .len, args := #[x], argTypes := #[t] }) p := by
  intro C e a oo r st' hoo hO hg hE h
  simp only [Option.bind_eq_some_iff, Option.some.injEq] at hc
  obtain ⟨y, h1, rfl⟩ := hc
  have hrun : ∀ ao n cap, a.eval x = .slice ao n cap → (execOp a.eval oo).run P C.w = .ok (.value (.int .i64 n)) C.w := by
    intro ao n cap e1
    simp [execOp, hoo, resolve, e1, invoke, builtin, Builtin.len_, run_underlying hu, goInt]
  simp only [Prim.ev] at h
  obtain ⟨z, k1, h⟩ := ev1 h
  have e1 := cOpd_ok h1 hg hE k1
  split at h
  · rename_i n k2
    simp only [Option.some.injEq, Prod.mk.injEq] at h
    obtain ⟨rfl, rfl⟩ := h
    unfold lenAV at k2
    split at k2
    · simp only [Option.some.injEq] at k2; subst k2
      simp only [VR] at e1
      obtain ⟨ao, cap, e1, _⟩ := e1
      exact Does.stay hO (hrun _ _ _ e1) (VR_v rfl)
    · rename_i id gen off ln
      split at k2
      · rename_i k g xs nw hst
        split at k2
        · rename_i hg
          subst hg
          simp only [Option.some.injEq] at k2; subst k2
          obtain ⟨b, o, cap, t', n, ad, p1, ⟨p2, pa⟩, _⟩ := VR_own e1 hst
          exact Does.stay hO (hrun _ _ _ p2) (VR_v rfl)
        · cases k2
      · cases k2
    · simp only [Option.some.injEq] at k2; subst k2
      exact Does.stay hO (hrun _ _ _ (VR_plain e1)) (VR_v rfl)
    · cases k2
  · cases h
theorem vals_ok : ∀ {rs : List AV} {cs : List Value} {vs : List Value}, VRt C rs cs → vals rs = some vs → cs = vs
  | [], cs, vs, h, k => by
    simp only [VRt] at h
    simp only [vals, Option.some.injEq] at k
    rw [h, ← k]
  | r :: rs, cs, vs, h, k => by
    simp only [VRt] at h
    obtain ⟨c, q, rfl, h1, h2⟩ := h
    cases r <;> simp only [vals, reduceCtorEq] at k
    split at k
    · rename_i l hl
      simp only [Option.some.injEq] at k; subst k
      rw [VR_plain h1, vals_ok h2 hl]
    · cases k
theorem minF_run {k : IntKind} (w : World) : ∀ {x : Int} {l : List Value} {r : Value}, minF k x l = some r → (l.foldlM Builtin.min2 (Value.int k x)).run P w = .ok r w ∧ r.oneCell' = true
  | x, [], r, h => by simp only [minF, Option.some.injEq] at h; subst h; exact ⟨rfl, rfl⟩
  | x, v :: l, r, h => by
    cases v <;> simp only [minF, reduceCtorEq] at h
    have := minF_run w h
    simp only [List.foldlM_cons, Builtin.min2, Sem.run_bind, Sem.run_pure, Result.andThen_ok]
    exact this
theorem maxF_run {k : IntKind} (w : World) : ∀ {x : Int} {l : List Value} {r : Value}, maxF k x l = some r → (l.foldlM Builtin.max2 (Value.int k x)).run P w = .ok r w ∧ r.oneCell' = true
  | x, [], r, h => by simp only [maxF, Option.some.injEq] at h; subst h; exact ⟨rfl, rfl⟩
  | x, v :: l, r, h => by
    cases v <;> simp only [maxF, reduceCtorEq] at h
    have := maxF_run w h
    simp only [List.foldlM_cons, Builtin.max2, Sem.run_bind, Sem.run_pure, Result.andThen_ok]
    exact this
theorem ps_mn {xs : Array Operand} {ts : Array TypeId} {p : Prim} (hc : ((cOpds xs.toList).bind fun l => some (Prim.mn l)) = some p) : PS P G bases (.call { callee := .builtin .min, args := xs, argTypes := ts }) p := by
  intro C e a oo r st' hoo hO hg hE h
  simp only [Option.bind_eq_some_iff, Option.some.injEq] at hc
  obtain ⟨l, h1, rfl⟩ := hc
  simp only [Prim.ev] at h
  split at h
  · rename_i rs k1
    split at h
    · rename_i vs k2
      split at h
      · rename_i z k3
        simp only [Option.some.injEq, Prod.mk.injEq] at h
        obtain ⟨rfl, rfl⟩ := h
        have e1 := vals_ok (cOpds_ok h1 hg hE k1) k2
        have e2 : (xs.map a.eval).toList = vs := by simpa using e1
        unfold minV at k3
        split at k3
        · rename_i k x q
          obtain ⟨m1, m2⟩ := minF_run (P := P) C.w k3
          refine Does.stay hO (x := z) ?_ (VR_v m2)
          simp [execOp, hoo, resolve, invoke, builtin, Builtin.min_, e1, m1]
        · cases k3
      · cases h
    · cases h
  · cases h
theorem ps_mx {xs : Array Operand} {ts : Array TypeId} {p : Prim} (hc : ((cOpds xs.toList).bind fun l => some (Prim.mx l)) = some p) : PS P G bases (.call { callee := .builtin .max, args := xs, argTypes := ts }) p := by
  intro C e a oo r st' hoo hO hg hE h
  simp only [Option.bind_eq_some_iff, Option.some.injEq] at hc
  obtain ⟨l, h1, rfl⟩ := hc
  simp only [Prim.ev] at h
  split at h
  · rename_i rs k1
    split at h
    · rename_i vs k2
      split at h
      · rename_i z k3
        simp only [Option.some.injEq, Prod.mk.injEq] at h
        obtain ⟨rfl, rfl⟩ := h
        have e1 := vals_ok (cOpds_ok h1 hg hE k1) k2
        have e2 : (xs.map a.eval).toList = vs := by simpa using e1
        unfold maxV at k3
        split at k3
        · rename_i k x q
          obtain ⟨m1, m2⟩ := maxF_run (P := P) C.w k3
          refine Does.stay hO (x := z) ?_ (VR_v m2)
          simp [execOp, hoo, resolve, invoke, builtin, Builtin.max_, e1, m1]
        · cases k3
      · cases h
    · cases h
  · cases h
end
end Go.Proofs.YtoobogpbejdocaaDoor.Ev
set_option linter.unusedVariables false
set_option linter.unusedSimpArgs false
namespace Go.Proofs.YtoobogpbejdocaaDoor.Ev
open Go.RowKit
section
variable {P : Program} {G : Nat → Option (List AV)} {bases : List Nat} {C : Ctx} {e : Env} {a : Act}
theorem heap_push_at (w : World) (o : Obj) : (w.alloc o).heap[w.heap.size]? = some o := by
  show (w.heap.push o)[w.heap.size]? = some o
  simp
theorem below_alloc (w : World) (o : Obj) : Below w.heap.size w (w.alloc o) := (Below.refl _ _).alloc (Nat.le_refl _) o
theorem zero_run {t : TypeId} {z : List AV} (h : zeroC P t = some z) : ∃ x, (∀ w, (zeroValue t).run P w = .ok x w) ∧ z = (ofVal x).cells ∧ okC x = true := by
  unfold zeroC at h
  simp only [Option.bind_eq_some_iff] at h
  obtain ⟨i, hi, x, hx, h⟩ := h
  split at h
  · rename_i hq
    simp only [Option.some.injEq] at h
    refine ⟨x, fun w => ?_, h.symm, hq⟩
    simp [zeroValue, run_typeInfo w hi, hx]
  · cases h
theorem ofVal_tuple {x : Value} (h : okC x = true) : (ofVal x).tuple = false := by
  cases x <;> first | rfl | cases h
theorem does_box {oo : Oper} (hO : C.OK) {cs : List AV} {ccs : Array Value} {t : TypeId} (hv : VRs C cs ccs.toList)
    (hr : (execOp a.eval oo).run P C.w = .ok (.value (.pointer (some ⟨C.w.heap.size, 0, none⟩))) (C.w.alloc (.cells ccs t))) : Does P a oo C (.ref C.st.length 0 0 0) (C.st ++ [.box cs]) := by
  have hx := ext_push hO (below_alloc C.w (.cells ccs t)) (o := 0) (.box cs) (Nat.le_refl C.w.heap.size)
  refine ⟨C.push (C.w.alloc (.cells ccs t)) C.w.heap.size 0 (.box cs), _, _, hr, .inl rfl, hx, ?_, rfl, ?_⟩
  · refine ok_push hO (below_alloc C.w _) (Nat.le_refl _) ?_
    exact ⟨rfl, ccs, t, heap_push_at C.w _, VRs_ext hx hv⟩
  · simp only [VR]
    exact .inl ⟨cs, C.w.heap.size, push_st, push_B hO, rfl⟩
theorem ps_alloc {t : TypeId} {p : Prim} (hc : ((zeroC P t).bind fun z => some (Prim.alloc z)) = some p) : PS P G bases (.alloc t) p := by
  intro C e a oo r st' hoo hO hg hE h
  simp only [Option.bind_eq_some_iff, Option.some.injEq] at hc
  obtain ⟨z, h1, rfl⟩ := hc
  simp only [Prim.ev, Option.some.injEq, Prod.mk.injEq] at h
  obtain ⟨rfl, rfl⟩ := h
  obtain ⟨x, hx, rfl, hq⟩ := zero_run h1
  refine does_box hO (VR_cells (VR_ofVal hq) (ofVal_tuple hq)) (t := t) ?_
  simp only [execOp, hoo, Instr.alloc, Sem.run_bind, hx, Result.andThen_ok, newVar, newRow, run_newObj, Sem.run_pure]
  rfl
theorem alloc_run {t : TypeId} {z : List AV} (h1 : zeroC P t = some z) : ∃ ccs : Array Value, (∀ C : Ctx, VRs C z ccs.toList) ∧
    ∀ (oo : Oper) (a : Act) (w : World), oo.op = .alloc t → (execOp a.eval oo).run P w = .ok (.value (.pointer (some ⟨w.heap.size, 0, none⟩))) (w.alloc (.cells ccs t)) := by
  obtain ⟨x, hx, rfl, hq⟩ := zero_run h1
  refine ⟨x.cells, fun C => VR_cells (VR_ofVal hq) (ofVal_tuple hq), ?_⟩
  intro oo a w hoo
  simp only [execOp, hoo, Instr.alloc, Sem.run_bind, hx, Result.andThen_ok, newVar, newRow, run_newObj, Sem.run_pure]
  rfl
theorem ps_box {t : TypeId} {x : Operand} {p : Prim} (hc : ((cOpd x).bind fun x => some (Prim.box x)) = some p) : PS P G bases (.box t x) p := by
  intro C e a oo r st' hoo hO hg hE h
  simp only [Option.bind_eq_some_iff, Option.some.injEq] at hc
  obtain ⟨y, h1, rfl⟩ := hc
  simp only [Prim.ev] at h
  obtain ⟨z, k1, h⟩ := ev1 h
  split at h
  · cases h
  · rename_i ht
    simp only [Option.some.injEq, Prod.mk.injEq] at h
    obtain ⟨rfl, rfl⟩ := h
    refine does_box hO (VR_cells (cOpd_ok h1 hg hE k1) (by simpa using ht)) (t := t) ?_
    simp only [execOp, hoo, Instr.box, Sem.run_bind, Result.andThen_ok, newVar, newRow, run_newObj, Sem.run_pure]
    rfl
theorem foldl_put (off : Nat) : ∀ (vs : List Value) (k : Nat) (cs : Array Value), off + k + vs.length ≤ cs.size →
    ((vs.zipIdx k).foldl (fun (cs : Array Value) (p : Value × Nat) => cs.setIfInBounds (off + p.2) p.1) cs).toList = cs.toList.take (off + k) ++ vs ++ cs.toList.drop (off + k + vs.length)
  | [], k, cs, h => by simp
  | v :: vs, k, cs, h => by
    simp only [List.length_cons] at h
    rw [List.zipIdx_cons, List.foldl_cons, foldl_put off vs (k + 1) _ (by simp; omega)]
    simp only [Array.toList_setIfInBounds, List.length_cons]
    have hl : off + k < cs.toList.length := by simp; omega
    rw [List.drop_set_of_lt (by omega)]
    rw [show off + (k + 1) = off + k + 1 by omega]
    rw [List.take_set]
    rw [show off + k + (vs.length + 1) = off + k + 1 + vs.length by omega]
    congr 1
    rw [List.append_cons]
    congr 1
    rw [List.take_add_one, List.getElem?_eq_getElem hl]
    have hm : (cs.toList.take (off + k)).length = off + k := by rw [List.length_take]; omega
    rw [List.set_append_right _ _ (by omega), hm]
    simp
theorem fold_cells (off : Nat) (v : Value) (cs : Array Value) (h : off + v.cells.size ≤ cs.size) :
    (v.cells.zipIdx.foldl (fun (cs : Array Value) (p : Value × Nat) => cs.setIfInBounds (off + p.2) p.1) cs).toList = cs.toList.take off ++ v.cells.toList ++ cs.toList.drop (off + v.cells.size) := by
  rw [← Array.foldl_toList, Array.toList_zipIdx]
  have := foldl_put off v.cells.toList 0 cs (by simpa using h)
  simpa using this
theorem fill_cons (place : Nat → Option (Nat × Nat)) (cs : Array Value) (i : Nat) (v : Value) (rest : List (Nat × Value)) (off size : Nat) (hp : place i = some (off, size)) (hs : v.cells.size = size) (hl : off + v.cells.size ≤ cs.size) :
    ∃ cs' : Array Value, cs'.toList = cs.toList.take off ++ v.cells.toList ++ cs.toList.drop (off + v.cells.size) ∧ Instr.fill place cs ((i, v) :: rest) = Instr.fill place cs' rest := by
  refine ⟨_, fold_cells off v cs hl, ?_⟩
  rw [Instr.fill, hp]
  have : (decide (v.cells.size ≠ size) || decide (off + v.cells.size > cs.size)) = false := by simp [hs]; omega
  simp only [this, Bool.false_eq_true, if_false]
theorem VR_csize {x : AV} {c : Value} (h : VR C x c) (h2 : x.tuple = false) : c.cells.size = x.cells.length := by
  have := VRs_length (VR_cells h h2)
  simpa using this.symm
theorem fill_row (size : Nat) : ∀ {l : List (Nat × Operand)} {xs : List Opd} {rs : List AV} {n : Nat} {cs : Array Value}, cRow n l = some xs → GlobR C G → EnvR C e a → Opd.evs G e xs = some rs →
    (∀ r, r ∈ rs → r.cells.length = size ∧ r.tuple = false) → (n + rs.length) * size ≤ cs.size →
    ∃ cs', Instr.fill (fun i => some (i * size, size)) cs (l.map fun p => (p.1, a.eval p.2)) = some cs' ∧ ∃ mid, cs'.toList = cs.toList.take (n * size) ++ mid ++ cs.toList.drop ((n + rs.length) * size) ∧ VRs C (rs.map AV.cells).flatten mid
  | [], xs, rs, n, cs, hc, hg, hE, h, hr, hl => by
    simp only [cRow, Option.some.injEq] at hc; subst hc
    simp only [Opd.evs, Option.some.injEq] at h; subst h
    exact ⟨cs, by simp [Instr.fill], [], by simp, by simp [VRs]⟩
  | (i, x) :: l, xs, rs, n, cs, hc, hg, hE, h, hr, hl => by
    simp only [cRow] at hc
    split at hc
    · rename_i hi
      subst hi
      simp only [Option.bind_eq_some_iff, Option.some.injEq] at hc
      obtain ⟨y, h1, ys, h2, rfl⟩ := hc
      simp only [Opd.evs] at h
      cases k1 : y.ev G e with
      | none => rw [k1] at h; cases h
      | some r =>
        rw [k1] at h
        dsimp only at h
        cases k2 : Opd.evs G e ys with
        | none => rw [k2] at h; cases h
        | some rs' =>
          rw [k2] at h
          simp only [Option.some.injEq] at h; subst h
          obtain ⟨hs, ht⟩ := hr r (by simp)
          have hv := cOpd_ok h1 hg hE k1
          have hcs := VR_csize hv ht
          simp only [List.length_cons, Nat.add_mul] at hl
          obtain ⟨cs1, q1, q2⟩ := fill_cons (fun i => some (i * size, size)) cs i (a.eval x) (l.map fun p => (p.1, a.eval p.2)) (i * size) size rfl (by omega) (by omega)
          have hcs1 : cs1.size = cs.size := by
            rw [← Array.length_toList, q1]; simp; omega
          obtain ⟨cs', m1, mid, m2, m3⟩ := fill_row size (cs := cs1) h2 hg hE k2 (fun r hr' => hr r (by simp [hr'])) (by rw [hcs1]; simp only [Nat.add_mul]; omega)
          refine ⟨cs', by simp only [List.map_cons]; rw [q2]; exact m1, (a.eval x).cells.toList ++ mid, ?_, ?_⟩
          · rw [m2, q1]
            have e1 : (i + 1) * size = i * size + (a.eval x).cells.size := by rw [Nat.add_mul]; omega
            rw [e1]
            have l1 : (cs.toList.take (i * size)).length = i * size := by simp; omega
            rw [List.take_append_of_le_length (by simp; omega)]
            rw [List.take_of_length_le (by simp; omega)]
            rw [List.drop_append]
            have l2 : (cs.toList.take (i * size) ++ (a.eval x).cells.toList).length = i * size + (a.eval x).cells.size := by simp; omega
            rw [l2, List.drop_of_length_le (by rw [l2]; simp only [Nat.add_mul]; omega), List.drop_drop, List.nil_append, List.append_assoc, List.append_assoc, List.append_assoc]
            have e2 : i * size + (a.eval x).cells.size + ((i + 1 + rs'.length) * size - (i * size + (a.eval x).cells.size)) = (i + (rs'.length + 1)) * size := by
              have : (i + 1 + rs'.length) * size = (i + (rs'.length + 1)) * size := by congr 1; omega
              rw [this]
              have : i * size + (a.eval x).cells.size ≤ (i + (rs'.length + 1)) * size := by rw [hcs, hs, Nat.add_mul, Nat.add_mul]; omega
              omega
            rw [e2]; simp
          · simp only [List.map_cons, List.flatten_cons]
            exact VRs_append (VR_cells hv ht) m3
    · cases hc
theorem stable_new (hO : C.OK) {ccs : Array Value} {t : TypeId} {fr : Nat × Nat} {w : World} (hb : Below C.w.heap.size C.w w) (hw : w.heap[C.w.heap.size]? = some (.cells ccs t fr)) {j : Nat} {c : Value} (h : ccs[j]? = some c) :
    (C.at w).stable ⟨C.w.heap.size, j, none⟩ c := by
  refine ⟨by simp only [Ctx.at, World.cell?, hw]; simpa using h, ?_, fun hX => ?_⟩
  · rintro ⟨i, o, ob, k1, k2, _⟩
    have := hO.lt k1
    simp at this
  · have := hO.xlt _ _ hX
    simp at this
theorem VR_sl_new (hO : C.OK) {w : World} (hb : Below C.w.heap.size C.w w) {xs : List (List AV)} {k : Nat} (hx : ∀ c, c ∈ xs → c.length = k) {ccs : Array Value} {t : TypeId} {fr : Nat × Nat} {cap : Nat}
    (hw : w.heap[C.w.heap.size]? = some (.cells ccs t fr)) (hc : xs.length ≤ cap) (hv : VRs C xs.flatten (ccs.toList.take (xs.length * k))) : VR (C.at w) (.sl k xs) (.slice (some ⟨C.w.heap.size, 0, none⟩) xs.length cap) := by
  simp only [VR]
  refine ⟨_, _, rfl, ⟨hc, rfl⟩, VRrow_mk fun i c hi => ⟨hx c (List.mem_of_getElem? hi), _, rfl, rfl, VRat_mk fun j q hj => ?_⟩⟩
  have hcl := hx c (List.mem_of_getElem? hi)
  have hjl : j < k := by have := (List.getElem?_eq_some_iff.1 hj).1; omega
  obtain ⟨v, m1, m2, m3⟩ := VRs_get hv (i * k + j) q (by rw [flat_get hx i j c hi hjl]; exact hj)
  rw [List.getElem?_take] at m1
  split at m1
  · rw [add_plain]
    refine ⟨v, stable_new hO hb hw ?_, VR_ext (ext_below hO hb) m2, m3⟩
    simpa using m1
  · cases m1
theorem does_row {oo : Oper} (hO : C.OK) {xs : List (List AV)} {k : Nat} (hx : ∀ c, c ∈ xs → c.length = k) {ccs : Array Value} {t : TypeId} {cap : Nat} (hc : xs.length ≤ cap) (hs : cap * k ≤ ccs.size) (hv : VRs C xs.flatten (ccs.toList.take (xs.length * k)))
    (hr : (execOp a.eval oo).run P C.w = .ok (.value (.slice (some ⟨C.w.heap.size, 0, none⟩) xs.length cap)) (C.w.alloc (.cells ccs t))) : Does P a oo C (.own C.st.length 0 0 xs.length) (C.st ++ [.row k 0 xs false]) := by
  have hbl := below_alloc C.w (.cells ccs t)
  have hx' := ext_push hO hbl (o := 0) (.row k 0 xs false) (Nat.le_refl C.w.heap.size)
  refine ⟨C.push (C.w.alloc (.cells ccs t)) C.w.heap.size 0 (.row k 0 xs false), _, _, hr, .inl rfl, hx', ?_, rfl, ?_⟩
  · refine ok_push hO hbl (Nat.le_refl _) ?_
    refine ⟨ccs, t, ⟨_, heap_push_at C.w _, .inl rfl⟩, hx, ?_, by rw [List.drop_zero]; exact VRs_ext hx' hv⟩
    have := Nat.mul_le_mul_right k hc
    omega
  · simp only [VR]
    refine ⟨rfl, k, 0, xs, false, push_st, Nat.le_refl _, fun _ => ⟨C.w.heap.size, 0, cap, t, ccs.size, ⟨C.w.heap.size, 0, none⟩, push_B hO, ⟨rfl, fun _ => by simp⟩, hc, ?_, by simpa using hs, by omega⟩⟩
    show (C.w.alloc (.cells ccs t)).shape? C.w.heap.size = _
    unfold World.shape?
    rw [heap_push_at]
theorem does_sl {oo : Oper} (hO : C.OK) {xs : List (List AV)} {k : Nat} (hx : ∀ c, c ∈ xs → c.length = k) {ccs : Array Value} {t : TypeId} {cap : Nat} (hc : xs.length ≤ cap) (hv : VRs C xs.flatten (ccs.toList.take (xs.length * k)))
    (hr : (execOp a.eval oo).run P C.w = .ok (.value (.slice (some ⟨C.w.heap.size, 0, none⟩) xs.length cap)) (C.w.alloc (.cells ccs t))) : Does P a oo C (.sl k xs) C.st := by
  have hbl := below_alloc C.w (.cells ccs t)
  exact ⟨C.at (C.w.alloc (.cells ccs t)), _, _, hr, .inl rfl, ext_below hO hbl, ok_below hO hbl, rfl, VR_sl_new hO hbl hx (heap_push_at C.w _) hc hv⟩
theorem evs_length : ∀ {xs : List Opd} {rs : List AV}, Opd.evs G e xs = some rs → xs.length = rs.length
  | [], rs, h => by simp only [Opd.evs, Option.some.injEq] at h; subst h; rfl
  | x :: xs, rs, h => by
    simp only [Opd.evs] at h
    cases k1 : x.ev G e with
    | none => rw [k1] at h; cases h
    | some r =>
      rw [k1] at h
      dsimp only at h
      cases k2 : Opd.evs G e xs with
      | none => rw [k2] at h; cases h
      | some rs' => rw [k2] at h; simp only [Option.some.injEq] at h; subst h; simp [evs_length k2]
theorem ps_bsl {t el : TypeId} {i : TypeInfo} {len : Nat} {parts : Array (Nat × Operand)} {l : List Opd} {own : Bool} (hu : P.underlying t = some (.slice el)) (hi : P.info? el = some i) (hr : cRow 0 parts.toList = some l)
    (hq : l.length = len ∧ len * i.size ≤ 16777216 ∧ i.zero.isSome = true ∧ 0 < i.size) : PS P G bases (.buildSlice t len parts) (.bsl own i.size l) := by
  intro C e a oo r st' hoo hO hg hE h
  obtain ⟨q1, q2, q3, q4⟩ := hq
  obtain ⟨z, hz⟩ := Option.isSome_iff_exists.1 q3
  simp only [Prim.ev] at h
  split at h
  · rename_i rs k1
    split at h
    · rename_i hall
      have hall' : ∀ r, r ∈ rs → r.cells.length = i.size ∧ r.tuple = false := by
        intro r hr'
        have := List.all_eq_true.1 hall r hr'
        simpa using this
      have hlen := evs_length k1
      have hxs : ∀ c, c ∈ rs.map AV.cells → c.length = i.size := by
        intro c hc
        obtain ⟨r, hr', rfl⟩ := List.mem_map.1 hc
        exact (hall' r hr').1
      have hrun : ∃ ccs : Array Value, ccs.size = len * i.size ∧ VRs C (rs.map AV.cells).flatten ccs.toList ∧ (execOp a.eval oo).run P C.w = .ok (.value (.slice (some ⟨C.w.heap.size, 0, none⟩) len len)) (C.w.alloc (.cells ccs el)) := by
        have key : ∀ Z : Array Value, Z.size = len * i.size → ∃ ccs : Array Value, Instr.fill (fun j => some (j * i.size, i.size)) Z (parts.map fun p => (p.1, a.eval p.2)).toList = some ccs ∧ ccs.size = len * i.size ∧ VRs C (rs.map AV.cells).flatten ccs.toList := by
          intro Z hZ
          obtain ⟨ccs, m1, mid, m2, m3⟩ := fill_row i.size (cs := Z) hr hg hE k1 hall' (by rw [Nat.zero_add, ← hlen, q1, hZ]; exact Nat.le_refl _)
          have hZl : Z.toList.length = len * i.size := by simpa using hZ
          rw [Nat.zero_mul, List.take_zero, List.nil_append, Nat.zero_add, ← hlen, q1, List.drop_of_length_le (by omega), List.append_nil] at m2
          refine ⟨ccs, by simpa using m1, ?_, by rw [m2]; exact m3⟩
          have hrl : rs.length = len := by omega
          rw [← Array.length_toList, m2, ← VRs_length m3, flat_len hxs]
          simp [hrl]
        by_cases h0 : len * i.size = 0
        · obtain ⟨ccs, m1, m2, m3⟩ := key ((Array.range (len * i.size)).map (#[][· % (#[] : Array Value).size]!)) (by simp)
          refine ⟨ccs, m2, m3, ?_⟩
          simp only [execOp, hoo, Instr.buildSlice, Sem.run_bind, run_underlying hu, Result.andThen_ok, run_sizeOf' hi]
          rw [if_neg (by omega)]
          rw [if_pos h0]
          simp only [Sem.run_pure, Sem.run_bind, Result.andThen_ok]
          rw [m1]
          simp only [newRow, Sem.run_bind, run_newObj, Result.andThen_ok, Sem.run_pure]
          rfl
        · obtain ⟨ccs, m1, m2, m3⟩ := key ((Array.range (len * i.size)).map (z.cells[· % z.cells.size]!)) (by simp)
          refine ⟨ccs, m2, m3, ?_⟩
          have hzr : (zeroValue el).run P C.w = .ok z C.w := by simp [zeroValue, run_typeInfo C.w hi, hz]
          simp only [execOp, hoo, Instr.buildSlice, Sem.run_bind, run_underlying hu, Result.andThen_ok, run_sizeOf' hi]
          rw [if_neg (by omega)]
          rw [if_neg h0]
          simp only [Sem.run_pure, Sem.run_bind, Result.andThen_ok, hzr]
          rw [m1]
          simp only [newRow, Sem.run_bind, run_newObj, Result.andThen_ok, Sem.run_pure]
          rfl
      obtain ⟨ccs, m1, m2, m3⟩ := hrun
      have hl2 : (rs.map AV.cells).length = len := by simp; omega
      have hv : VRs C (rs.map AV.cells).flatten (ccs.toList.take ((rs.map AV.cells).length * i.size)) := by
        rw [hl2, ← m1, ← Array.length_toList, List.take_length]; exact m2
      split at h
      · simp only [Option.some.injEq, Prod.mk.injEq] at h
        obtain ⟨rfl, rfl⟩ := h
        have := does_row hO hxs (cap := len) (t := el) (a := a) (P := P) (oo := oo) (by omega) (by omega) hv (by rw [hl2]; exact m3)
        rw [List.length_map] at this
        exact this
      · simp only [Option.some.injEq, Prod.mk.injEq] at h
        obtain ⟨rfl, rfl⟩ := h
        exact does_sl hO hxs (cap := len) (t := el) (by omega) hv (by rw [hl2]; exact m3)
    · cases h
  · cases h
end
end Go.Proofs.YtoobogpbejdocaaDoor.Ev
