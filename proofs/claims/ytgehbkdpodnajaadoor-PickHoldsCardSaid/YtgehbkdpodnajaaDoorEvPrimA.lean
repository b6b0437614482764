/-
  Operations that turn no memory: what the evaluator says of them is what the machine does.
-/
import Derived.Test.YtgehbkdpodnajaaDoorEvStep
import Derived.Test.YtgehbkdpodnajaaDoorEvChk
import Derived.Laws.Entries
import Derived.Laws.StructEq
import Derived.Laws.Slices
import Derived.ChangeKeysEq
set_option linter.unusedVariables false
set_option linter.unusedSimpArgs false
namespace Go.Proofs.YtgehbkdpodnajaaDoor.Ev
open Go.RowKit

def EnvR (C : Ctx) (e : Env) (a : Act) : Prop := ∀ t v, e.get t = some v → ∃ c, a.tmps[t]? = some c ∧ VR C v c
def GlobR (C : Ctx) (G : Nat → Option (List AV)) : Prop := ∀ g cs, G g = some cs → VRat C ⟨g, 0, none⟩ cs 0 ∧ ∃ t, C.w.shape? g = some (t, cs.length)
theorem EnvR.ext {C D : Ctx} (hx : Ext C D) {e : Env} {a : Act} (h : EnvR C e a) : EnvR D e a := fun t v ht => let ⟨c, h1, h2⟩ := h t v ht; ⟨c, h1, VR_ext hx h2⟩
theorem GlobR.ext {C D : Ctx} (hx : Ext C D) {G : Nat → Option (List AV)} (h : GlobR C G) : GlobR D G := fun g cs hg => let ⟨h1, t, h2⟩ := h g cs hg; ⟨VRat_ext hx h1, t, by rw [hx.shape g (shape_lt h2)]; exact h2⟩

/-- What an operation that is run to its end comes to. -/
def Does (P : Program) (a : Act) (oo : Oper) (C : Ctx) (r : AV) (st' : Store) : Prop :=
  ∃ (D : Ctx) (n : Next) (x : Value), (execOp a.eval oo).run P C.w = .ok n D.w ∧ (n = .value x ∨ n = .skip ∧ x = undef) ∧ Ext C D ∧ D.OK ∧ D.st = st' ∧ VR D r x
def PS (P : Program) (G : Nat → Option (List AV)) (bases : List Nat) (o : Op) (p : Prim) : Prop :=
  ∀ (C : Ctx) (e : Env) (a : Act) (oo : Oper) (r : AV) (st' : Store), oo.op = o → C.OK → GlobR C G → EnvR C e a → p.ev G bases e C.st = some (r, st') → Does P a oo C r st'
theorem Does.stay {P : Program} {a : Act} {oo : Oper} {C : Ctx} {r : AV} {x : Value} (hO : C.OK) (h : (execOp a.eval oo).run P C.w = .ok (.value x) C.w) (hv : VR C r x) : Does P a oo C r C.st :=
  ⟨C, _, x, h, .inl rfl, Ext.refl C, hO, rfl, hv⟩

section
variable {P : Program} {G : Nat → Option (List AV)} {bases : List Nat} {C : Ctx} {e : Env} {a : Act}
theorem VR_ofVal {v : Value} (h : okC v = true) : VR C (ofVal v) v := by
  cases v with
  | agg cs =>
    simp only [ofVal, VR]
    refine ⟨cs, rfl, VRs_mk (by simp) fun i x c h1 h2 => ?_⟩
    simp only [List.getElem?_map, h2, Option.map_some, Option.some.injEq] at h1
    subst h1
    have : c.oneCell' = true := by
      simp only [okC, List.all_eq_true] at h
      exact h c (List.mem_of_getElem? h2)
    exact ⟨by simp only [VR]; exact ⟨trivial, this⟩, this⟩
  | tuple _ => cases h
  | _ => simp only [ofVal, VR]; exact ⟨trivial, rfl⟩
theorem VR_one {x : AV} {c : Value} (h : VR C x c) (h1 : ∀ cs, x ≠ .agg cs) (h2 : x.tuple = false) : c.oneCell' = true := by
  cases x with
  | v x => simp only [VR] at h; rw [h.1]; exact h.2
  | agg cs => exact absurd rfl (h1 cs)
  | tup cs => cases h2
  | sl e xs => simp only [VR] at h; obtain ⟨_, _, rfl, _⟩ := h; rfl
  | rop cs => simp only [VR] at h; obtain ⟨_, rfl, _⟩ := h; rfl
  | own id gen off len => simp only [VR] at h; exact h.1
  | ref id gen i off => simp only [VR] at h; rcases h with ⟨_, _, _, _, rfl⟩ | h; · rfl
                        · exact h.1
  | fn f caps => simp only [VR] at h; obtain ⟨_, rfl, _⟩ := h; rfl
  | mp id => simp only [VR] at h; obtain ⟨_, _, _, _, _, rfl⟩ := h; rfl
  | it id => simp only [VR] at h; obtain ⟨_, _, _, _, _, _, rfl⟩ := h; rfl
theorem cells_one {c : Value} (h : c.oneCell' = true) : c.cells = #[c] := by cases c <;> first | rfl | cases h
theorem VR_cells {x : AV} {c : Value} (h : VR C x c) (h2 : x.tuple = false) : VRs C x.cells c.cells.toList := by
  cases x with
  | agg cs => simp only [VR] at h; obtain ⟨ccs, rfl, h⟩ := h; exact h
  | tup cs => cases h2
  | _ =>
    have h1 := VR_one h (by intro cs hc; cases hc) h2
    rw [cells_one h1]
    simp only [AV.cells, VRs]
    exact ⟨c, [], rfl, ⟨h, h1⟩, rfl⟩

theorem eval_tmp {t : Nat} {c : Value} (h : a.tmps[t]? = some c) : a.eval (.tmp t) = c := by simp [Act.eval, h]
theorem cOpd_ok {o : Operand} {x : Opd} (hc : cOpd o = some x) (hg : GlobR C G) (hE : EnvR C e a) {r : AV} (h : x.ev G e = some r) : VR C r (a.eval o) := by
  cases o with
  | tmp t =>
    simp only [cOpd, Option.some.injEq] at hc; subst hc
    obtain ⟨c, h1, h2⟩ := hE t r h
    rw [eval_tmp h1]; exact h2
  | const v =>
    simp only [cOpd] at hc
    split at hc
    · rename_i hv
      cases hc
      simp only [Opd.ev, Option.some.injEq] at h; subst h
      exact VR_ofVal hv
    · cases hc
  | global g =>
    simp only [cOpd, Option.some.injEq] at hc; subst hc
    simp only [Opd.ev] at h
    cases hgg : G g with
    | none => rw [hgg] at h; cases h
    | some cs =>
      rw [hgg] at h
      simp only [Option.some.injEq] at h; subst h
      simp only [VR]
      exact ⟨⟨g, 0, none⟩, rfl, rfl, (hg g cs hgg).1⟩
  | func f =>
    simp only [cOpd, Option.some.injEq] at hc; subst hc
    simp only [Opd.ev, Option.some.injEq] at h; subst h
    simp only [VR]
    exact ⟨#[], rfl, by simp [VRt]⟩
theorem cOpds_ok : ∀ {l : List Operand} {xs : List Opd}, cOpds l = some xs → GlobR C G → EnvR C e a → ∀ {rs : List AV}, Opd.evs G e xs = some rs → VRt C rs (l.map a.eval)
  | [], xs, hc, hg, hE, rs, h => by
    simp only [cOpds, Option.some.injEq] at hc; subst hc
    simp only [Opd.evs, Option.some.injEq] at h; subst h
    simp [VRt]
  | o :: l, xs, hc, hg, hE, rs, h => by
    simp only [cOpds, Option.bind_eq_some_iff, Option.some.injEq] at hc
    obtain ⟨y, h1, ys, h2, rfl⟩ := hc
    simp only [Opd.evs] at h
    cases k1 : y.ev G e with
    | none => rw [k1] at h; cases h
    | some r =>
      rw [k1] at h
      dsimp only at h
      cases k2 : Opd.evs G e ys with
      | none => rw [k2] at h; cases h
      | some rs' =>
        rw [k2] at h
        simp only [Option.some.injEq] at h; subst h
        simp only [List.map_cons, VRt]
        exact ⟨_, _, rfl, cOpd_ok h1 hg hE k1, cOpds_ok h2 hg hE k2⟩

theorem VR_plain {x c : Value} (h : VR C (.v x) c) : c = x := by simp only [VR] at h; exact h.1
theorem VR_v {x : Value} (h : x.oneCell' = true) : VR C (.v x) x := by simp only [VR]; exact ⟨trivial, h⟩

theorem ps_move {x : Operand} {p : Prim} {o : Op} (ho : o = .move x ∨ o = .assign x) (hc : ((cOpd x).bind fun x => some (Prim.mov x)) = some p) : PS P G bases o p := by
  intro C e a oo r st' hoo hO hg hE h
  simp only [Option.bind_eq_some_iff, Option.some.injEq] at hc
  obtain ⟨y, h1, rfl⟩ := hc
  simp only [Prim.ev] at h
  cases k1 : y.ev G e with
  | none => rw [k1] at h; cases h
  | some r1 =>
    rw [k1] at h
    simp only [Option.some.injEq, Prod.mk.injEq] at h
    obtain ⟨rfl, rfl⟩ := h
    refine Does.stay hO ?_ (cOpd_ok h1 hg hE k1)
    rcases ho with rfl | rfl <;> simp [execOp, hoo]
theorem ps_pick {c x y : Operand} {p : Prim} (hc : ((cOpd c).bind fun c => (cOpd x).bind fun a => (cOpd y).bind fun b => some (Prim.pick c a b)) = some p) : PS P G bases (.pick c x y) p := by
  intro C e a oo r st' hoo hO hg hE h
  simp only [Option.bind_eq_some_iff, Option.some.injEq] at hc
  obtain ⟨c', h1, x', h2, y', h3, rfl⟩ := hc
  simp only [Prim.ev] at h
  split at h
  · rename_i t k1
    have e1 := VR_plain (cOpd_ok h1 hg hE k1)
    cases t with
    | true =>
      simp only [if_true] at h
      cases k2 : x'.ev G e with
      | none => rw [k2] at h; cases h
      | some r1 =>
        rw [k2] at h
        simp only [Option.some.injEq, Prod.mk.injEq] at h
        obtain ⟨rfl, rfl⟩ := h
        exact Does.stay hO (by simp [execOp, hoo, e1, asBool]) (cOpd_ok h2 hg hE k2)
    | false =>
      simp only [Bool.false_eq_true, if_false] at h
      cases k2 : y'.ev G e with
      | none => rw [k2] at h; cases h
      | some r1 =>
        rw [k2] at h
        simp only [Option.some.injEq, Prod.mk.injEq] at h
        obtain ⟨rfl, rfl⟩ := h
        exact Does.stay hO (by simp [execOp, hoo, e1, asBool]) (cOpd_ok h3 hg hE k2)
  · cases h
theorem VR_ref {id gen i off : Nat} {c : Value} (h : VR C (.ref id gen i off) c) (hl : liveRef C.st id gen = true) :
    ∃ b o k, C.B[id]? = some (b, o) ∧ c = .pointer (some ⟨b, k + off, none⟩) ∧ (∀ off' : Nat, VR C (.ref id gen i off') (.pointer (some ⟨b, k + off', none⟩))) ∧
      ((∃ cs, C.st[id]? = some (.box cs) ∧ k = 0 ∧ o = 0) ∨ ∃ e xs nw, C.st[id]? = some (.row e gen xs nw) ∧ k = o + i * e) := by
  have h0 := h
  simp only [VR] at h
  rcases h with ⟨cs, b, h1, h2, rfl⟩ | ⟨_, e, g, xs, nw, h1, h2, h3⟩
  · exact ⟨b, 0, 0, h2, by simp, fun off' => by simp only [VR]; exact .inl ⟨cs, b, h1, h2, by simp⟩, .inl ⟨cs, h1, rfl, rfl⟩⟩
  · simp only [liveRef, h1, decide_eq_true_eq] at hl
    subst hl
    obtain ⟨b, o, k1, rfl⟩ := h3 rfl
    exact ⟨b, o, o + i * e, k1, rfl, fun off' => by simp only [VR]; exact .inr ⟨rfl, e, g, xs, nw, h1, h2, fun _ => ⟨b, o, k1, rfl⟩⟩, .inr ⟨e, xs, nw, h1, rfl⟩⟩
theorem ps_nilck {x : Operand} {p : Prim} (hc : ((cOpd x).bind fun x => some (Prim.nilck x)) = some p) : PS P G bases (.nilCheck x) p := by
  intro C e a oo r st' hoo hO hg hE h
  simp only [Option.bind_eq_some_iff, Option.some.injEq] at hc
  obtain ⟨y, h1, rfl⟩ := hc
  simp only [Prim.ev] at h
  split at h
  · rename_i id g i o k1
    split at h
    · rename_i hl
      simp only [Option.some.injEq, Prod.mk.injEq] at h
      obtain ⟨rfl, rfl⟩ := h
      have hv := cOpd_ok h1 hg hE k1
      obtain ⟨b, o', k, _, e1, _⟩ := VR_ref hv hl
      exact Does.stay (x := a.eval x) hO (by simp [execOp, hoo, e1]) hv
    · cases h
  · rename_i cs k1
    simp only [Option.some.injEq, Prod.mk.injEq] at h
    obtain ⟨rfl, rfl⟩ := h
    have hv := cOpd_ok h1 hg hE k1
    have hv' := hv
    simp only [VR] at hv'
    obtain ⟨ad, e1, _⟩ := hv'
    exact Does.stay (x := a.eval x) hO (by simp [execOp, hoo, e1]) hv
  · rename_i f cs k1
    simp only [Option.some.injEq, Prod.mk.injEq] at h
    obtain ⟨rfl, rfl⟩ := h
    have hv := cOpd_ok h1 hg hE k1
    have hv' := hv
    simp only [VR] at hv'
    obtain ⟨ad, e1, _⟩ := hv'
    exact Does.stay (x := a.eval x) hO (by simp [execOp, hoo, e1]) hv
  · cases h
/-- One operand is taken, what it is handed on. -/
theorem ev1 {y : Opd} {f : AV → Option (AV × Store)} {r : AV × Store} (h : (match y.ev G e with | some a => f a | none => none) = some r) : ∃ z, y.ev G e = some z ∧ f z = some r := by
  cases k : y.ev G e with
  | none => rw [k] at h; cases h
  | some z => rw [k] at h; exact ⟨z, rfl, h⟩

theorem binV_one {op : BinOp} {x y z : Value} (h : binV op x y = some z) : z.oneCell' = true := by
  unfold binV at h
  split at h
  · split at h
    · unfold binI at h
      split at h <;> (try split at h) <;> first | (cases h; done) | (cases h; rfl)
    · cases h
  · unfold binS at h
    split at h <;> (try split at h) <;> first | (cases h; done) | (cases h; rfl)
  · cases h
theorem run_binI {op : BinOp} {t : TypeId} {k : IntKind} {x y : Int} {z : Value} (h : binI op k x y = some z) (w : World) : (binOp op t (.int k x) (.int k y)).run P w = .ok z w := by
  unfold binI at h
  cases op <;> simp only [Option.some.injEq, reduceCtorEq] at h <;> first
    | (subst h; simp [binOp, Op.intArith, Op.intCmp]; done)
    | (split at h
       · cases h
       · rename_i h0
         simp only [Option.some.injEq] at h
         subst h
         simp [binOp, Op.intDiv, h0])
theorem run_binS {op : BinOp} {t : TypeId} {x y : ByteArray} {z : Value} (h : binS op x y = some z) (w : World) : (binOp op t (.string x) (.string y)).run P w = .ok z w := by
  unfold binS at h
  cases op <;> simp only [Option.some.injEq, reduceCtorEq] at h <;> first
    | (subst h; simp [binOp, Op.stringOp]; done)
    | (split at h
       · cases h
       · rename_i h0
         simp only [Option.some.injEq] at h
         subst h
         have h1 : ¬ ((x.size + y.size : Nat) : Int) > IntKind.i64.max := by simpa [IntKind.max, IntKind.signed, IntKind.bits] using h0
         simp only [binOp, Op.stringOp]
         rw [if_neg h1]
         rfl)
theorem run_binB {op : BinOp} {t : TypeId} {x y : Bool} {z : Value} (ht : P.underlying t = some .bool) (h : binB op x y = some z) (w : World) : (binOp op t (.bool x) (.bool y)).run P w = .ok z w := by
  unfold binB at h
  cases op <;> simp only [Option.some.injEq, reduceCtorEq] at h <;>
    (subst h; simp [binOp, run_equal_bool w t x y ht])
theorem run_eqGuard_one {op : BinOp} {t : TypeId} {x y : Operand} {v z : Value} (h : v ≠ .nilIface) (h2 : v.oneCell' = true) (w : World) : (eqGuard op t x y v z).run P w = .ok () w := by
  unfold eqGuard
  cases op <;> simp <;> (split <;> first | rfl | (exact absurd rfl h) | (cases h2))
theorem ps_bin {op : BinOp} {t yt : TypeId} {x y : Operand} {p : Prim}
    (hc : ((cOpd x).bind fun x => (cOpd y).bind fun y => some (Prim.bin op x y)) = some p) : PS P G bases (.binOp op t x y yt) p := by
  intro C e a oo r st' hoo hO hg hE h
  simp only [Option.bind_eq_some_iff, Option.some.injEq] at hc
  obtain ⟨x', h1, y', h2, rfl⟩ := hc
  simp only [Prim.ev] at h
  split at h
  · rename_i u k1
    split at h
    · rename_i v k2
      split at h
      · rename_i z k3
        simp only [Option.some.injEq, Prod.mk.injEq] at h
        obtain ⟨rfl, rfl⟩ := h
        have e1 := VR_plain (cOpd_ok h1 hg hE k1)
        have e2 := VR_plain (cOpd_ok h2 hg hE k2)
        have hr : (binOp op t u v).run P C.w = .ok z C.w ∧ u ≠ .nilIface ∧ u.oneCell' = true := by
          unfold binV at k3
          split at k3
          · split at k3
            · rename_i hk; subst hk; exact ⟨run_binI k3 _, by simp, rfl⟩
            · cases k3
          · exact ⟨run_binS k3 _, by simp, rfl⟩
          · cases k3
        refine Does.stay hO ?_ (VR_v (binV_one k3))
        simp only [execOp, hoo, e1, e2, Sem.run_bind, run_eqGuard_one hr.2.1 hr.2.2, Result.andThen_ok, hr.1, Sem.run_pure]
      · cases h
    · cases h
  · cases h
theorem ps_binb {op : BinOp} {t yt : TypeId} {x y : Operand} {p : Prim} (ht : P.underlying t = some .bool)
    (hc : ((cOpd x).bind fun x => (cOpd y).bind fun y => some (Prim.binb op x y)) = some p) : PS P G bases (.binOp op t x y yt) p := by
  intro C e a oo r st' hoo hO hg hE h
  simp only [Option.bind_eq_some_iff, Option.some.injEq] at hc
  obtain ⟨x', h1, y', h2, rfl⟩ := hc
  simp only [Prim.ev] at h
  split at h
  · rename_i u k1
    split at h
    · rename_i v k2
      split at h
      · rename_i z k3
        simp only [Option.some.injEq, Prod.mk.injEq] at h
        obtain ⟨rfl, rfl⟩ := h
        have e1 := VR_plain (cOpd_ok h1 hg hE k1)
        have e2 := VR_plain (cOpd_ok h2 hg hE k2)
        have hz : z.oneCell' = true := by
          unfold binB at k3
          split at k3 <;> first | (cases k3; done) | (cases k3; rfl)
        refine Does.stay hO ?_ (VR_v hz)
        simp only [execOp, hoo, e1, e2, Sem.run_bind, run_eqGuard_one (show Value.bool u ≠ .nilIface by simp) rfl, Result.andThen_ok, run_binB ht k3, Sem.run_pure]
      · cases h
    · cases h
  · cases h

/-! equality of structs -/
def eqVs : List TK → List Value → List Value → Option Bool
  | [], [], [] => some true
  | k :: ks, x :: xs, y :: ys => match eqV k x y with
    | some b => match eqVs ks xs ys with
      | some c => some (b && c)
      | none => none
    | none => none
  | _, _, _ => none
theorem eqVs_of : ∀ {ks : List TK} {xs ys : List AV} {cs ds : List Value} {b : Bool}, VRs C xs cs → VRs C ys ds → eqL ks xs ys = some b → eqVs ks cs ds = some b
  | [], [], [], cs, ds, b, h, k, e => by
    simp only [VRs] at h k; subst h; subst k; simpa [eqL, eqVs] using e
  | [], _ :: _, _, _, _, _, _, _, e => by simp [eqL] at e
  | [], [], _ :: _, _, _, _, _, _, e => by simp [eqL] at e
  | _ :: _, [], _, _, _, _, _, _, e => by simp [eqL] at e
  | _ :: _, _ :: _, [], _, _, _, _, _, e => by simp [eqL] at e
  | q :: ks, x :: xs, y :: ys, cs, ds, b, h, k, e => by
    simp only [VRs] at h k
    obtain ⟨c, r, rfl, ⟨h1, _⟩, h2⟩ := h
    obtain ⟨d, z, rfl, ⟨k1, _⟩, k2⟩ := k
    cases x <;> cases y <;> simp only [eqL, reduceCtorEq] at e
    rw [VR_plain h1, VR_plain k1]
    simp only [eqVs]
    split at e
    · rename_i b1 hb1
      rw [hb1]
      split at e
      · rename_i b2 hb2
        rw [eqVs_of h2 k2 hb2]; exact e
      · cases e
    · cases e
theorem eqVs_len : ∀ {ks : List TK} {xs ys : List Value} {b : Bool}, eqVs ks xs ys = some b → xs.length = ks.length ∧ ys.length = ks.length
  | [], [], [], _, _ => ⟨rfl, rfl⟩
  | [], _ :: _, _, _, e => by simp [eqVs] at e
  | [], [], _ :: _, _, e => by simp [eqVs] at e
  | _ :: _, [], _, _, e => by simp [eqVs] at e
  | _ :: _, _ :: _, [], _, e => by simp [eqVs] at e
  | q :: ks, x :: xs, y :: ys, b, e => by
    simp only [eqVs] at e
    split at e
    · split at e
      · rename_i b2 hb2
        have := eqVs_len hb2
        simp [this]
      · cases e
    · cases e
theorem eqVs_split : ∀ {ks ls : List TK} {xs ys : List Value} {b : Bool}, eqVs (ks ++ ls) xs ys = some b → ∃ b1 b2, eqVs ks (xs.take ks.length) (ys.take ks.length) = some b1 ∧ eqVs ls (xs.drop ks.length) (ys.drop ks.length) = some b2 ∧ b = (b1 && b2)
  | [], ls, xs, ys, b, h => ⟨true, b, by simp [eqVs], by simpa using h, by simp⟩
  | q :: ks, ls, [], _, b, h => by simp [eqVs] at h
  | q :: ks, ls, _ :: _, [], b, h => by simp [eqVs] at h
  | q :: ks, ls, x :: xs, y :: ys, b, h => by
    simp only [List.cons_append, eqVs] at h
    split at h
    · rename_i b1 hb1
      split at h
      · rename_i b2 hb2
        obtain ⟨c1, c2, k1, k2, rfl⟩ := eqVs_split hb2
        simp only [Option.some.injEq] at h
        refine ⟨b1 && c1, c2, by simp [eqVs, hb1, k1], by simpa using k2, by rw [← h, Bool.and_assoc]⟩
      · cases h
    · cases h
def aggD : TypeDesc → Bool
  | .struct _ => true
  | .array _ _ => true
  | _ => false
theorem run_isAgg {t : TypeId} {d : TypeDesc} (h : P.underlying t = some d) (w : World) : (isAgg t).run P w = .ok (aggD d) w := by
  unfold isAgg
  simp only [Sem.run_bind, run_underlying h, Result.andThen_ok]
  cases d <;> rfl
theorem run_sizeOf' {t : TypeId} {i : TypeInfo} (h : P.info? t = some i) (w : World) : (sizeOf t).run P w = .ok i.size w := by
  unfold sizeOf
  simp [run_typeInfo w h]
theorem part_leaf {t : TypeId} {d : TypeDesc} (h : P.underlying t = some d) (hd : aggD d = false) {X : Array Value} {off : Nat} {v : Value} (hv : X[off]? = some v) (w : World) : (part t X off).run P w = .ok v w := by
  unfold part
  simp only [Sem.run_bind, run_isAgg h, Result.andThen_ok, hd, Bool.false_eq_true, if_false]
  rw [hv]; rfl
theorem part_agg {t : TypeId} {d : TypeDesc} (h : P.underlying t = some d) (hd : aggD d = true) {i : TypeInfo} (hi : P.info? t = some i) {X : Array Value} {off : Nat} (w : World) : (part t X off).run P w = .ok (.agg (X.extract off (off + i.size))) w := by
  unfold part
  simp only [Sem.run_bind, run_isAgg h, Result.andThen_ok, hd, if_true, run_sizeOf' hi, Sem.run_pure]
theorem seg_one {X : Array Value} {off : Nat} (h : off < X.size) : (X.toList.drop off).take 1 = [X[off]] := by
  rw [List.drop_eq_getElem_cons (by simpa using h)]; simp
theorem ext_toList (Z : Array Value) (off n : Nat) : (Z.extract off (off + n)).toList = (Z.toList.drop off).take n := by simp [List.take_drop]
theorem eq_leaf {k : TK} {X Y : Array Value} {off : Nat} {b : Bool} (hX : off + 1 ≤ X.size) (hY : off + 1 ≤ Y.size) (he : eqVs [k] ((X.toList.drop off).take 1) ((Y.toList.drop off).take 1) = some b) :
    ∃ x y, X[off]? = some x ∧ Y[off]? = some y ∧ eqV k x y = some b := by
  have hx : off < X.size := by omega
  have hy : off < Y.size := by omega
  rw [seg_one hx, seg_one hy] at he
  refine ⟨_, _, Array.getElem?_eq_getElem hx, Array.getElem?_eq_getElem hy, ?_⟩
  simp only [eqVs] at he
  split at he
  · rename_i b1 hb1; simp at he; subst he; exact hb1
  · cases he
theorem eq_plain (w : World) : ∀ d, (∀ t ks, plainN P d t = some ks → ∀ D, d ≤ D → ∀ (X Y : Array Value) (off : Nat) (b : Bool), off + ks.length ≤ X.size → off + ks.length ≤ Y.size → eqVs ks ((X.toList.drop off).take ks.length) ((Y.toList.drop off).take ks.length) = some b →
      ∃ x y, (part t X off).run P w = .ok x w ∧ (part t Y off).run P w = .ok y w ∧ (Op.equalIn D t x y).run P w = .ok b w) ∧
    (∀ fs k ks, plainFs P d fs k = some ks → ∀ D, d ≤ D → ∀ (X Y : Array Value) (b : Bool), k + ks.length ≤ X.size → k + ks.length ≤ Y.size → eqVs ks ((X.toList.drop k).take ks.length) ((Y.toList.drop k).take ks.length) = some b → (Op.eqFields D X Y fs).run P w = .ok b w) := by
  intro d
  induction d with
  | zero =>
    refine ⟨fun t n h => by simp [plainN] at h, fun fs k ks h D hD X Y b hX hY he => ?_⟩
    cases fs with
    | nil =>
      simp only [plainFs, Option.some.injEq] at h; subst h
      simp [eqVs] at he; subst he; simp [Op.eqFields]
    | cons f fs => simp [plainFs] at h
  | succ d ih =>
    obtain ⟨ih1, ih2⟩ := ih
    constructor
    · intro t ks h D hD X Y off b hX hY he
      obtain ⟨D, rfl⟩ : ∃ m, D = m + 1 := ⟨D - 1, by omega⟩
      simp only [plainN] at h
      split at h
      · rename_i hu
        simp only [Option.some.injEq] at h; subst h
        obtain ⟨x, y, hx, hy, hv⟩ := eq_leaf hX hY he
        refine ⟨x, y, part_leaf hu rfl hx w, part_leaf hu rfl hy w, ?_⟩
        cases x <;> cases y <;> simp only [eqV, reduceCtorEq, Option.some.injEq] at hv
        subst hv; exact run_equalIn_bool' w D t _ _ hu
      · rename_i kk hu
        simp only [Option.some.injEq] at h; subst h
        obtain ⟨x, y, hx, hy, hv⟩ := eq_leaf hX hY he
        refine ⟨x, y, part_leaf hu rfl hx w, part_leaf hu rfl hy w, ?_⟩
        cases x <;> cases y <;> simp only [eqV, reduceCtorEq] at hv
        split at hv
        · rename_i hk
          subst hk
          simp only [Option.some.injEq] at hv; subst hv
          exact run_equalIn_int w D t _ kk _ _ hu
        · cases hv
      · rename_i hu
        simp only [Option.some.injEq] at h; subst h
        obtain ⟨x, y, hx, hy, hv⟩ := eq_leaf hX hY he
        refine ⟨x, y, part_leaf hu rfl hx w, part_leaf hu rfl hy w, ?_⟩
        cases x <;> cases y <;> simp only [eqV, reduceCtorEq, Option.some.injEq] at hv
        subst hv; exact run_equalIn_string w D t _ _ hu
      · rename_i fs hu
        split at h
        · rename_i hs
          simp only [Option.bind_eq_some_iff] at h
          obtain ⟨i, hi, m, hm, h⟩ := h
          split at h
          · rename_i hmi
            simp only [Option.some.injEq] at h; subst h
            have hx : (X.extract off (off + i.size)).size = i.size := by simp; omega
            have hy : (Y.extract off (off + i.size)).size = i.size := by simp; omega
            have hf : P.fieldsOf t = fs := by simp [Program.fieldsOf, hu]
            refine ⟨_, _, part_agg hu rfl hi w, part_agg hu rfl hi w, ?_⟩
            rw [run_equalIn_struct (P := P) w D t _ _ (by rw [hf]; exact hu) hs, hf]
            refine ih2 fs.toList 0 _ hm D (by omega) _ _ b (by omega) (by omega) ?_
            rw [ext_toList, ext_toList, List.drop_zero, List.drop_zero, List.take_take, List.take_take, Nat.min_eq_left (by omega)]
            exact he
          · cases h
        · cases h
      · cases h
    · intro fs k ks h D hD X Y b hX hY he
      obtain ⟨D, rfl⟩ : ∃ m, D = m + 1 := ⟨D - 1, by omega⟩
      cases fs with
      | nil =>
        simp only [plainFs, Option.some.injEq] at h; subst h
        simp [eqVs] at he; subst he; simp [Op.eqFields]
      | cons f fs =>
        simp only [plainFs] at h
        split at h
        · rename_i hn
          simp only [Option.bind_eq_some_iff, Option.some.injEq] at h
          obtain ⟨ms, hm, ls, h, rfl⟩ := h
          simp only [List.length_append] at hX hY he
          obtain ⟨b1, b2, e1, e2, rfl⟩ := eqVs_split he
          rw [List.take_take, Nat.min_eq_left (by omega), List.take_take, Nat.min_eq_left (by omega)] at e1
          rw [List.drop_take, List.drop_drop, List.drop_take, List.drop_drop] at e2
          rw [show ms.length + ls.length - ms.length = ls.length by omega] at e2
          obtain ⟨x, y, p1, p2, p3⟩ := ih1 f.type ms hm (D + 1) (by omega) X Y k b1 (by omega) (by omega) e1
          have p4 := ih2 fs (k + ms.length) ls h (D + 1) (by omega) X Y b2 (by omega) (by omega) e2
          rw [Op.eqFields]
          simp only [if_pos hn.1, hn.2, Sem.run_bind, p1, p2, p3, Result.andThen_ok]
          cases b1
          · simp
          · simpa using p4
        · cases h
theorem ps_aeq {neg : Bool} {op : BinOp} {t yt : TypeId} {x y : Operand} {p : Prim} {ks : List TK} {fs : Array Field} (ht : P.underlying t = some (.struct fs)) (hop : op = (if neg then .neq else .eql)) (hk : plainN P 200 t = some ks) (hq : P.eqGuardType P.depth t = false)
    (hc : ((cOpd x).bind fun x => (cOpd y).bind fun y => some (Prim.aeq neg ks x y)) = some p) : PS P G bases (.binOp op t x y yt) p := by
  intro C e a oo r st' hoo hO hg hE h
  simp only [Option.bind_eq_some_iff, Option.some.injEq] at hc
  obtain ⟨x', h1, y', h2, rfl⟩ := hc
  simp only [Prim.ev] at h
  split at h
  · rename_i u k1
    split at h
    · rename_i v k2
      split at h
      · rename_i b k3
        simp only [Option.some.injEq, Prod.mk.injEq] at h
        obtain ⟨rfl, rfl⟩ := h
        have e1 := cOpd_ok h1 hg hE k1
        have e2 := cOpd_ok h2 hg hE k2
        simp only [VR] at e1 e2
        obtain ⟨X, e1, f1⟩ := e1
        obtain ⟨Y, e2, f2⟩ := e2
        have he := eqVs_of f1 f2 k3
        obtain ⟨l1, l2⟩ := eqVs_len he
        have hks := hk
        rw [show (200 : Nat) = 199 + 1 from rfl] at hks
        simp only [plainN, ht] at hks
        split at hks
        · rename_i hs
          simp only [Option.bind_eq_some_iff] at hks
          obtain ⟨i, hi, ms, hm, hks⟩ := hks
          split at hks
          · simp only [Option.some.injEq] at hks; subst hks
            have hf : P.fieldsOf t = fs := by simp [Program.fieldsOf, ht]
            have hr : (Op.equalIn 10000 t (.agg X) (.agg Y)).run P C.w = .ok b C.w := by
              rw [show (10000 : Nat) = 9999 + 1 from rfl, run_equalIn_struct (P := P) C.w 9999 t _ _ (by rw [hf]; exact ht) hs, hf]
              refine (eq_plain C.w 199).2 fs.toList 0 ms hm 9999 (by omega) X Y b (by simp at l1; omega) (by simp at l2; omega) ?_
              rw [List.drop_zero, List.drop_zero, ← l1, List.take_length, l1, ← l2, List.take_length]
              exact he
            refine Does.stay hO (x := .bool (if neg then !b else b)) ?_ (VR_v rfl)
            simp only [execOp, hoo, e1, e2, Sem.run_bind, run_eqGuard_agg C.w op t x y X Y hq, Result.andThen_ok, Sem.run_pure]
            cases neg <;> simp at hop <;> subst hop <;> simp only [run_eql_struct, run_neq_struct, hr, Result.andThen_ok] <;> rfl
          · cases hks
        · cases hks
      · cases h
    · cases h
  · cases h
end
end Go.Proofs.YtgehbkdpodnajaaDoor.Ev
