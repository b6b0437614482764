import Derived.Test.YtoobogpbejdocaaDoorEvReg
import Derived.OrdersIn
set_option linter.unusedVariables false
set_option linter.unusedSectionVars false
set_option linter.unusedSimpArgs false
namespace Go.Proofs.YtoobogpbejdocaaDoor.Ev
inductive All2 {α β : Type} (R : α → β → Prop) : List α → List β → Prop where
  | nil : All2 R [] []
  | cons {a : α} {b : β} {l : List α} {m : List β} : R a b → All2 R l m → All2 R (a :: l) (b :: m)
def FW (ρ : Option Nat) : Fence := { Fence.wide with round := ρ }
theorem FW_depth (ρ : Option Nat) {p : Prop} : (FW ρ).depth.isSome = true → p := fun h => by simp [FW, Fence.wide] at h
def DoesW (ρ : Option Nat) (P : Program) (a : Act) (oo : Oper) (C : Ctx) (r : AV) (st' : Store) : Prop :=
  ∀ (next : Act → World → Prop) (Q : Exit → Act → World → Prop),
    (∀ D x, Ext C D → D.OK → D.st = st' → VR D r x → next (a.put oo.dst x) D.w) → oo.wpIn (FW ρ) 0 P a C.w next Q
theorem Does.w {ρ : Option Nat} {P : Program} {a : Act} {oo : Oper} (hnd : ∀ c, oo.op ≠ .defer c) {C : Ctx} {r : AV} {st' : Store} (h : Does P a oo C r st') : DoesW ρ P a oo C r st' := by
  intro next Q k
  obtain ⟨D, n, x, h1, h2, h3, h4, h5, h6⟩ := h
  refine ⟨fun _ _ => trivial, ?_⟩
  rw [Oper.semAt_eq _ _ _ hnd, h1]
  rcases h2 with rfl | ⟨rfl, rfl⟩
  · exact k D x h3 h4 h5 h6
  · exact k D _ h3 h4 h5 h6
structure OpR (ρ : Option Nat) (P : Program) (G : Nat → Option (List AV)) (raw : Raw) (bases : List Nat) (ops : Array Oper) (N : Nat) (o : Oper) (f : FO) : Prop where
  d : o.dst = f.d
  lt : ∀ d, f.d = some d → d < N
  g0 : f.g = none → o.guard = none
  g1 : ∀ c w, f.g = some (c, w) → ∃ j, o.guard = some (j, w) ∧ (ops[j]?).bind (·.dst) = some c
  b : ∀ C e a r st', C.OK → GlobR C G → EnvR C e a → f.b.ev G raw bases e C.st = some (r, st') → DoesW ρ P a o C r st'
  al : ∀ t z, o.op = .alloc t → f.b = .prim (.alloc z) → zeroC P t = some z
section
variable {ρ : Option Nat} {P : Program} {G : Nat → Option (List AV)} {raw : Raw} {bases : List Nat} {ops : Array Oper} {N : Nat}
theorem want_ok {o : Oper} {f : FO} (h : OpR ρ P G raw bases ops N o f) {C : Ctx} {e : Env} {a : Act} (hE : EnvR C e a) {b : Bool} (hw : f.want e = some b) : Region.wanted o (yielded ops a.tmps) = b := by
  unfold FO.want at hw
  unfold Region.wanted
  cases hg : f.g with
  | none =>
    rw [hg] at hw
    rw [h.g0 hg]
    simpa using hw
  | some x =>
    obtain ⟨c, w⟩ := x
    rw [hg] at hw
    obtain ⟨j, h1, h2⟩ := h.g1 c w hg
    rw [h1]
    dsimp only at hw ⊢
    split at hw
    · rename_i b' k1
      obtain ⟨cc, k2, k3⟩ := hE c _ k1
      have := VR_plain k3
      subst this
      simp only [yielded, h2, Option.bind_some, k2]
      simp only [Option.some.injEq] at hw
      subst hw
      cases b' <;> cases w <;> rfl
    · rename_i k1
      obtain ⟨cc, k2, k3⟩ := hE c _ k1
      simp only [VR, VRt] at k3
      obtain ⟨ccs, rfl, k4⟩ := k3
      simp only [yielded, h2, Option.bind_some, k2]
      simp only [Option.some.injEq] at hw
      subst hw
      rfl
    · cases hw
theorem EnvR_put {C D : Ctx} {e : Env} {a : Act} (hE : EnvR C e a) (hx : Ext C D) {d : Option Nat} {r : AV} {x : Value} (hv : VR D r x) (hd : ∀ t, d = some t → t < a.tmps.size) : EnvR D (Env.put e d r) (a.put d x) := by
  cases d with
  | none => exact hE.ext hx
  | some t =>
    intro t' v hg
    simp only [Env.put] at hg
    by_cases ht : t' = t
    · subst ht
      simp only [Env.get, if_true, Option.some.injEq] at hg
      subst hg
      exact ⟨x, by simp [Act.put, hd _ rfl], hv⟩
    · simp only [Env.get] at hg
      have ht' : t ≠ t' := fun h => ht h.symm
      simp only [ht, ht', if_false] at hg
      obtain ⟨c, h1, h2⟩ := hE t' v hg
      exact ⟨c, by simp [Act.put, Array.getElem?_setIfInBounds_ne ht', h1], VR_ext hx h2⟩
theorem VR_undef {C : Ctx} : VR C (.tup []) undef := by
  simp only [VR, VRt]
  exact ⟨#[], rfl, rfl⟩
theorem put_size (a : Act) (d : Option Nat) (x : Value) : (a.put d x).tmps.size = a.tmps.size := by cases d <;> simp [Act.put]
theorem put_defers (a : Act) (d : Option Nat) (x : Value) : (a.put d x).defers = a.defers := by cases d <;> simp [Act.put]
theorem seq_ok {Q : Exit → Act → World → Prop} : ∀ (l : List Oper) (fs : List FO) (k : Nat), (∀ j, l[j]? = ops[k + j]?) → All2 (OpR ρ P G raw bases ops N) l fs →
    ∀ (C : Ctx) (e : Env) (a : Act) (e' : Env) (st' : Store), C.OK → GlobR C G → EnvR C e a → a.tmps.size = N → FO.runs G raw bases fs e C.st = some (e', st') →
    (∀ D a', Ext C D → D.OK → D.st = st' → EnvR D e' a' → a'.tmps.size = N → a'.defers = a.defers → Q .normal a' D.w) → wpOpsIn (FW ρ) 0 P ops Q (List.range' k l.length) a C.w
  | [], fs, k, hl, hF, C, e, a, e', st', hO, hg, hE, hN, hr, hQ => by
    cases hF
    simp only [FO.runs, Option.some.injEq, Prod.mk.injEq] at hr
    obtain ⟨rfl, rfl⟩ := hr
    exact hQ C a (Ext.refl C) hO rfl hE hN rfl
  | o :: l, fs, k, hl, hF, C, e, a, e', st', hO, hg, hE, hN, hr, hQ => by
    cases hF with
    | cons ho hF =>
      rename_i f fs
      simp only [FO.runs] at hr
      cases k1 : f.run G raw bases e C.st with
      | none => rw [k1] at hr; cases hr
      | some z =>
        obtain ⟨r, st1⟩ := z
        rw [k1] at hr
        dsimp only at hr
        simp only [List.length_cons, List.range'_succ, wpOpsIn_cons]
        have hk : ops[k]? = some o := by have := hl 0; simpa using this.symm
        have hl' : ∀ j, l[j]? = ops[k + 1 + j]? := fun j => by have := hl (j + 1); simp only [List.getElem?_cons_succ] at this; rw [this, show k + (j + 1) = k + 1 + j by omega]
        have next : ∀ D x, Ext C D → D.OK → D.st = st1 → VR D r x → wpOpsIn (FW ρ) 0 P ops Q (List.range' (k + 1) l.length) (a.put o.dst x) D.w := by
          intro D x hx hO' hs hv
          refine seq_ok l fs (k + 1) hl' hF D (Env.put e f.d r) (a.put o.dst x) e' st' hO' (hg.ext hx) ?_ (by rw [put_size, hN]) (by rw [hs]; exact hr) ?_
          · rw [ho.d]
            exact EnvR_put hE hx hv fun t ht => by rw [hN]; exact ho.lt t ht
          · intro E a' hx2 hO2 hs2 hE2 hN2 hd2
            exact hQ E a' (hx.trans hx2) hO2 hs2 hE2 hN2 (by rw [hd2, put_defers])
        unfold FO.run at k1
        unfold wpOpIn
        rw [hk]
        dsimp only
        split at k1
        · rename_i kw
          rw [want_ok ho hE kw]
          simp only [if_true]
          exact (ho.b C e a r st1 hO hg hE k1 _ _ next)
        · rename_i kw
          rw [want_ok ho hE kw]
          simp only [Bool.false_eq_true, if_false]
          simp only [Option.some.injEq, Prod.mk.injEq] at k1
          obtain ⟨rfl, rfl⟩ := k1
          exact ⟨fun _ _ => trivial, next C _ (Ext.refl C) hO rfl VR_undef⟩
        · cases k1
end
end Go.Proofs.YtoobogpbejdocaaDoor.Ev
