import Derived.Test.YtjidmpcgkcaeaaaGreatDoorEvCode
set_option linter.unusedVariables false
set_option linter.unusedSimpArgs false
namespace Go.Proofs.YtjidmpcgkcaeaaaGreatDoor.Ev
def sigX : Sig → Exit
  | .norm => .normal
  | .exit i => .exit i
  | .ret => .ret
def inDom (e : Env) (dom : List Nat) : Prop := ∀ t v, e.get t = some v → t ∈ dom
theorem keep_get : ∀ {live : List Nat} {e : Env} {t : Nat} {v : AV}, (Env.keep e live).get t = some v → e.get t = some v ∧ t ∈ live
  | [], e, t, v, h => by simp [Env.keep, Env.get] at h
  | i :: l, e, t, v, h => by
    simp only [Env.keep] at h
    split at h
    · rename_i a k
      simp only [Env.get] at h
      split at h
      · rename_i hi
        subst hi
        exact ⟨by rw [k]; exact h, List.mem_cons_self⟩
      · obtain ⟨h1, h2⟩ := keep_get h
        exact ⟨h1, List.mem_cons_of_mem _ h2⟩
    · obtain ⟨h1, h2⟩ := keep_get h
      exact ⟨h1, List.mem_cons_of_mem _ h2⟩
theorem EnvR_keep {C : Ctx} {e : Env} {a : Act} (h : EnvR C e a) (live : List Nat) : EnvR C (e.keep live) a := fun t v ht => h t v (keep_get ht).1
theorem EnvR_comp {C D : Ctx} {e e' : Env} {a : Act} (h : EnvR C e a) (hs : ∀ (t : Nat) (v : AV), e'.get t = some v → ∃ v0, e.get t = some v0 ∧ ∀ c, VR C v0 c → VR D v c) : EnvR D e' a := fun t v ht => by
  obtain ⟨v0, h1, h2⟩ := hs t v ht
  obtain ⟨c, h3, h4⟩ := h t v0 h1
  exact ⟨c, h3, h2 c h4⟩
theorem EnvR_sub {C : Ctx} {e e1 : Env} {a : Act} (h : EnvR C e1 a) (hs : Sub e e1) : EnvR C e a := fun t v ht => h t v (hs t v ht)
section
variable {P : Program} {G : Nat → Option (List AV)} {raw : Raw} {bases : List Nat} {N : Nat}
def Ctx.drew (C : Ctx) : Ctx := ⟨{ C.w with drawn := C.w.drawn + 1 }, C.B, C.st, C.X⟩
theorem drew_ext (C : Ctx) : Ext C C.drew where
  X := rfl
  os := rfl
  tape := rfl
  out := rfl
  size := Nat.le_refl _
  keep := fun ad c h => h
  ids := fun i ob h => ⟨ob, h, Ob.next_refl ob, .inl ⟨by cases ob <;> simp [Ob.still], rfl⟩⟩
  shape := fun _ _ => rfl
  frame := fun _ _ _ => rfl
  fresh := fun i b o h => .inl ⟨i, o, h⟩
theorem drew_ok {C : Ctx} (hO : C.OK) : C.drew.OK where
  len := hO.len
  inj := hO.inj
  dis := hO.dis
  xlt := hO.xlt
  obs := fun i ob b o h1 h2 => ObR_ext (drew_ext C) rfl (hO.obs i ob b o h1 h2)
theorem items_ok (hr : RawOK P G raw) (hsc : RawSc raw) (hG : GRo G) (hm : P.follows .mixedOrders = true) {id : Nat} {ops : Array Oper} {draw : Bool} {l : List Item} {dom : List Nat} {fl : Fl} {dom' : List Nat}
    (hc : chk P N (.region id ops draw) (.items l) dom = some (fl, dom')) (hfl : fl = .reg (Item.fos none l)) {C : Ctx} {e : Env} {a : Act} {e' : Env} {st' : Store} (hO : C.OK) (hg : GlobR C G) (hE : EnvR C e a) (hN : a.tmps.size = N) (hd : inDom e dom)
    (h : Item.runs G raw bases l e C.st = some (e', st')) : ∀ Q : Exit → Act → World → Prop, (∀ D a', Ext C D → D.OK → D.st = st' → EnvR D e' a' → a'.tmps.size = N → a'.defers = a.defers → Q .normal a' D.w) → (Code.region id ops draw).wp P Q a C.w := by
  simp only [chk] at hc
  split at hc
  · rename_i hb
    simp only [Option.bind_eq_some_iff, Option.some.injEq, Prod.mk.injEq] at hc
    obtain ⟨F', h1, h2, rfl⟩ := hc
    rw [hfl] at h2
    simp only [Fl.reg.injEq] at h2
    subst h2
    simp only [Bool.and_eq_true] at hb
    obtain ⟨⟨w1, w2⟩, w3⟩ := hb
    have hall := cFOs_ok (bases := bases) hr hsc hG ops.toList _ h1 w2
    obtain ⟨e2, k1, k2, k3, k4⟩ := take_l (G := G) (raw := raw) (bases := bases) l none dom e e C.st e' st' h (fun t v ht => ht) hd rfl (fun t ht => by cases ht) (by simpa [gts] using w1)
    intro Q hQ
    cases draw with
    | false =>
      apply wp_region
      have := seq_ok (Q := Q) ops.toList (Item.fos none l) 0 (fun j => by simp) hall C e a e2 st' hO hg hE hN k1 (fun D a' q1 q2 q3 q4 q5 q6 => hQ D a' q1 q2 q3 (EnvR_sub q4 k2) q5 q6)
      simpa [List.range_eq_range'] using this
    | true =>
      simp only [Bool.not_true, Bool.false_or] at w3
      have hA := anyB_ok w3
      obtain ⟨s, s0, s1, s2⟩ := runs_states _ _ _ _ _ k1
      apply wp_region_any hm
      have hlen : ops.size = (Item.fos none l).length := hA.len
      have hopr : ∀ (i : Nat) (o : Oper) (f : FO), ops[i]? = some o → (Item.fos none l)[i]? = some f → OpR P G raw bases ops N o f := fun i o f ho hf => All2_get hall i o f (by rw [Array.getElem?_toList]; exact ho) hf
      refine any_ok (C0 := C.drew) (a0 := a) (N := N) hA hopr s2 (drew_ok hO) (hg.ext (drew_ext C)) ?_ ops.size _ a _ ?_ (.inl ?_)
      · intro listed a' w' hlist hI
        obtain ⟨C', m, rfl, x1, x2, x3, x4, x5, x6⟩ := hI.ex
        have hst : (s m).2 = st' := by
          have hmn : (s (Item.fos none l).length).2 = (s m).2 := by
            have := st_eq (i := m) s2 ((Item.fos none l).length - m) (by omega) (fun j f q1 q2 q3 => by
              cases hw : f.b.cl.wr with
              | false => rfl
              | true =>
                have := (x5 j f q3 hw).1 (hlist j (List.getElem?_eq_some_iff.1 q3).1)
                omega)
            rw [show m + ((Item.fos none l).length - m) = (Item.fos none l).length by omega] at this
            exact this
          rw [← hmn, s1]
        refine hQ C' a' ((drew_ext C).trans x1) x2 (by rw [x3, hst]) ?_ hI.tm hI.df
        refine EnvR_sub x6 ?_
        intro t v ht
        have hok : okT (Item.fos none l) listed t = true := okT_iff.2 fun j f hf hdd => hlist j (List.getElem?_eq_some_iff.1 hf).1
        rw [eH_none, eL_get, if_pos hok, s1, k2 t v ht]
      · unfold left
        have := List.length_filter_le (fun j => !(Array.replicate ops.size false).getD j true) (List.range (Item.fos none l).length)
        rw [List.length_range] at this
        omega
      · refine ⟨by simp [hlen], ?_, ⟨C.drew, 0, rfl, Ext.refl _, drew_ok hO, by rw [s0]; rfl, Nat.zero_le _, ?_, ?_⟩, hN, rfl⟩
        · intro i j hi
          by_cases hi2 : i < ops.size
          · simp [Array.getD, hi2] at hi
          · simp [Array.getD, hi2] at hi
        · intro j f hf hw
          constructor
          · intro hi
            by_cases hi2 : j < ops.size
            · simp [Array.getD, hi2] at hi
            · simp [Array.getD, hi2] at hi
          · intro hi; omega
        · intro t v ht
          have hff : ∀ (j : Nat) (f : FO), (Item.fos none l)[j]? = some f → (Array.replicate ops.size false).getD j false = false := by
            intro j f hf
            have hj := (List.getElem?_eq_some_iff.1 hf).1
            rw [← hlen] at hj
            simp [Array.getD, hj]
          have hno : noT (Item.fos none l) (Array.replicate ops.size false) t = true := noT_iff.2 fun j f hf _ => hff j f hf
          have h0 : (eL (Item.fos none l) s (Array.replicate ops.size false)).get t = e.get t := by
            rw [eL_get, if_pos hno, s0]
            by_cases hw : okT (Item.fos none l) (Array.replicate ops.size false) t = true
            · rw [if_pos hw]
              rw [okT_iff] at hw
              have := env_eq (i := 0) (t := t) s2 (Item.fos none l).length (by omega) (fun j f _ _ hf hdd => by have h1 := hw j f hf hdd; rw [hff j f hf] at h1; cases h1)
              rw [Nat.zero_add, s0] at this
              rw [this]
              dsimp only
              cases e.get t <;> rfl
            · rw [if_neg hw]
          rw [eH_none, h0] at ht
          obtain ⟨c, q1, q2⟩ := hE t v ht
          exact ⟨c, q1, VR_ext (drew_ext C) q2⟩
  · cases hc
theorem least {p : Nat → Prop} (h : ∃ k, p k) : ∃ k, p k ∧ ∀ j, j < k → ¬ p j := by
  obtain ⟨k, hk⟩ := h
  induction k using Nat.strongRecOn with
  | _ k ih =>
    by_cases hq : ∃ j, j < k ∧ p j
    · obtain ⟨j, h1, h2⟩ := hq
      exact ih j h1 h2
    · exact ⟨k, hk, fun j hj hp => hq ⟨j, hj, hp⟩⟩
theorem chk_inv {code : Code} {ir : IR} {dom : List Nat} {r : Fl × List Nat} (h : chk P N code ir dom = some r) :
    ((code = .skip ∨ ∃ l, code = .label l) ∧ ir = .skip) ∨ (∃ id ops draw l, code = .region id ops draw ∧ ir = .items l) ∨ (∃ a b x y, code = .seq a b ∧ ir = .seq x y) ∨ (∃ t a b x y, code = .cond (.tmp t) a b ∧ ir = .cond (.t t) x y) ∨ (∃ v a b x y, code = .cond (.const (.bool v)) a b ∧ ir = .cond (.c (.v (.bool v))) x y) ∨
    (∃ id b live x, code = .block id b ∧ ir = .block id live x) ∨ (∃ b live x, code = .loop b ∧ ir = .loop live x) ∨ (∃ i live, code = .exit i ∧ ir = .exit i live) ∨ (∃ live, code = .ret ∧ ir = .ret live) ∨ (∃ k n, ir = .cond (.c (.v (.int k n))) .skip .skip) ∨ (∃ b x, code = .scope b ∧ ir = .seq x .skip) := by
  unfold chk at h
  split at h
  · simp
  · simp
  · simp
  · simp
  · split at h
    · rename_i hq; subst hq; simp
    · cases h
  · split at h
    · rename_i hq; subst hq; simp
    · cases h
  · split at h
    · rename_i hq; subst hq; simp
    · cases h
  · simp
  · split at h
    · rename_i hq; subst hq; simp
    · cases h
  · simp
  · simp
  · simp
  · cases h
theorem iter_norm {body : Env → Store → Option (Sig × Env × Store)} {cp : Env → Store → Env × Store} : ∀ {n : Nat} {e : Env} {st : Store} {s : Sig} {e' : Env} {st' : Store}, iter body cp n e st = some (s, e', st') → s ≠ .norm
  | 0, e, st, s, e', st', h => by cases h
  | n + 1, e, st, s, e', st', h => by
    simp only [iter] at h
    cases k : body (cp e st).1 (cp e st).2 with
    | none => rw [k] at h; cases h
    | some z =>
      obtain ⟨s1, e1, st1⟩ := z
      rw [k] at h
      cases s1
      · exact iter_norm h
      · cases h; intro hs; cases hs
      · cases h; intro hs; cases hs
theorem dom_ok (n : Nat) : ∀ (ir : IR) (code : Code) (dom : List Nat) (fl : Fl) (dom' : List Nat), chk P N code ir dom = some (fl, dom') → ∀ (e : Env) (st : Store) (e' : Env) (st' : Store), inDom e dom → IR.run G raw bases n ir e st = some (.norm, e', st') → inDom e' dom' := by
  intro ir
  induction ir with
  | skip =>
    intro code dom fl dom' hc e st e' st' hd h
    rcases chk_inv hc with ⟨hsk, _⟩ | ⟨_, _, _, _, _, h0⟩ | ⟨_, _, _, _, _, h0⟩ | ⟨_, _, _, _, _, _, h0⟩ | ⟨_, _, _, _, _, _, h0⟩ | ⟨_, _, _, _, _, h0⟩ | ⟨_, _, _, _, h0⟩ | ⟨_, _, _, h0⟩ | ⟨_, _, h0⟩ | ⟨_, _, h0⟩ | ⟨_, _, _, h0⟩ <;> first | (cases h0; done) | skip
    rcases hsk with rfl | ⟨_, rfl⟩
    · cases hc
      cases h
      exact hd
    · cases hc
      cases h
      exact hd
  | items l =>
    intro code dom fl dom' hc e st e' st' hd h
    rcases chk_inv hc with ⟨_, h0⟩ | ⟨id, ops, draw, _, rfl, h0⟩ | ⟨_, _, _, _, _, h0⟩ | ⟨_, _, _, _, _, _, h0⟩ | ⟨_, _, _, _, _, _, h0⟩ | ⟨_, _, _, _, _, h0⟩ | ⟨_, _, _, _, h0⟩ | ⟨_, _, _, h0⟩ | ⟨_, _, h0⟩ | ⟨_, _, h0⟩ | ⟨_, _, _, h0⟩ <;> first | (cases h0; done) | skip
    simp only [chk] at hc
    split at hc
    · rename_i hb
      simp only [Option.bind_eq_some_iff, Option.some.injEq, Prod.mk.injEq] at hc
      obtain ⟨F', h1, h2, rfl⟩ := hc
      simp only [Bool.and_eq_true] at hb
      obtain ⟨⟨w1, w2⟩, w3⟩ := hb
      simp only [IR.run] at h
      split at h
      · rename_i e1 st1 k1
        cases h
        obtain ⟨e2, q1, q2, q3, q4⟩ := take_l (G := G) (raw := raw) (bases := bases) l none dom e e st e' st' k1 (fun t v ht => ht) hd rfl (fun t ht => by cases ht) (by simpa [gts] using w1)
        exact q4
      · cases h
    · cases hc
  | seq x y ihx ihy =>
    intro code dom fl dom' hc e st e' st' hd h
    rcases chk_inv hc with ⟨_, h0⟩ | ⟨_, _, _, _, _, h0⟩ | ⟨a, b, _, _, rfl, h0⟩ | ⟨_, _, _, _, _, _, h0⟩ | ⟨_, _, _, _, _, _, h0⟩ | ⟨_, _, _, _, _, h0⟩ | ⟨_, _, _, _, h0⟩ | ⟨_, _, _, h0⟩ | ⟨_, _, h0⟩ | ⟨_, _, h0⟩ | ⟨b, _, rfl, h0⟩ <;> first | (cases h0; done) | skip
    · cases h0
      simp only [chk, Option.bind_eq_some_iff, Option.some.injEq, Prod.mk.injEq] at hc
      obtain ⟨⟨f1, d1⟩, h1, ⟨f2, d2⟩, h2, h3, rfl⟩ := hc
      simp only [IR.run] at h
      cases k : IR.run G raw bases n x e st with
      | none => rw [k] at h; cases h
      | some z =>
        obtain ⟨s1, e1, st1⟩ := z
        rw [k] at h
        cases s1
        · exact ihy b d1 f2 d2 h2 e1 st1 e' st' (ihx a dom f1 d1 h1 e st e1 st1 hd k) h
        · cases h
        · cases h
    · cases h0
      simp only [chk, Option.bind_eq_some_iff, Option.some.injEq, Prod.mk.injEq] at hc
      obtain ⟨⟨f1, d1⟩, h1, h3, rfl⟩ := hc
      simp only [IR.run] at h
      cases k : IR.run G raw bases n x e st with
      | none => rw [k] at h; cases h
      | some z =>
        obtain ⟨s1, e1, st1⟩ := z
        rw [k] at h
        cases s1
        · cases h; exact ihx b dom f1 d1 h1 e st e' st' hd k
        · cases h
        · cases h
  | cond c x y ihx ihy =>
    intro code dom fl dom' hc e st e' st' hd h
    rcases chk_inv hc with ⟨_, h0⟩ | ⟨_, _, _, _, _, h0⟩ | ⟨_, _, _, _, _, h0⟩ | ⟨t, a, b, _, _, rfl, h0⟩ | ⟨v0, a, b, _, _, rfl, h0⟩ | ⟨_, _, _, _, _, h0⟩ | ⟨_, _, _, _, h0⟩ | ⟨_, _, _, h0⟩ | ⟨_, _, h0⟩ | ⟨_, _, h0⟩ | ⟨_, _, _, h0⟩ <;> first | (cases h0; done) | skip
    · cases h0
      simp only [chk, if_true, Option.bind_eq_some_iff, Option.some.injEq, Prod.mk.injEq] at hc
      obtain ⟨⟨f1, d1⟩, h1, ⟨f2, d2⟩, h2, h3, rfl⟩ := hc
      simp only [IR.run] at h
      split at h
      · split at h
        · exact fun q v hq => List.mem_append.2 (.inl (ihx a dom f1 d1 h1 e st e' st' hd h q v hq))
        · exact fun q v hq => List.mem_append.2 (.inr (ihy b dom f2 d2 h2 e st e' st' hd h q v hq))
      · cases h
    · cases h0
      simp only [chk, if_true, Option.bind_eq_some_iff, Option.some.injEq, Prod.mk.injEq] at hc
      obtain ⟨⟨f1, d1⟩, h1, ⟨f2, d2⟩, h2, h3, rfl⟩ := hc
      simp only [IR.run] at h
      split at h
      · split at h
        · exact fun q v hq => List.mem_append.2 (.inl (ihx a dom f1 d1 h1 e st e' st' hd h q v hq))
        · exact fun q v hq => List.mem_append.2 (.inr (ihy b dom f2 d2 h2 e st e' st' hd h q v hq))
      · cases h
    · cases h0; cases h
  | block id live x ih =>
    intro code dom fl dom' hc e st e' st' hd h
    rcases chk_inv hc with ⟨_, h0⟩ | ⟨_, _, _, _, _, h0⟩ | ⟨_, _, _, _, _, h0⟩ | ⟨_, _, _, _, _, _, h0⟩ | ⟨_, _, _, _, _, _, h0⟩ | ⟨_, b, _, _, rfl, h0⟩ | ⟨_, _, _, _, h0⟩ | ⟨_, _, _, h0⟩ | ⟨_, _, h0⟩ | ⟨_, _, h0⟩ | ⟨_, _, _, h0⟩ <;> first | (cases h0; done) | skip
    cases h0
    simp only [chk, if_true, Option.bind_eq_some_iff, Option.some.injEq, Prod.mk.injEq] at hc
    obtain ⟨⟨f1, d1⟩, h1, h3, rfl⟩ := hc
    simp only [IR.run] at h
    split at h
    · simp only [Option.some.injEq, Prod.mk.injEq, true_and] at h
      exact fun q v hq => compact_get (by rw [h]; exact hq)
    · split at h
      · simp only [Option.some.injEq, Prod.mk.injEq, true_and] at h
        exact fun q v hq => compact_get (by rw [h]; exact hq)
      · cases h
    · rename_i hn1 hn2
      exact absurd h (hn1 _ _)
  | loop live x ih =>
    intro code dom fl dom' hc e st e' st' hd h
    simp only [IR.run] at h
    exact absurd rfl (iter_norm h)
  | exit i live => intro code dom fl dom' hc e st e' st' hd h; cases h
  | ret live => intro code dom fl dom' hc e st e' st' hd h; cases h
theorem IR_ok (hr : RawOK P G raw) (hsc : RawSc raw) (hG : GRo G) (hm : P.follows .mixedOrders = true) (n : Nat) : ∀ (ir : IR) (code : Code) (dom : List Nat) (fl : Fl) (dom' : List Nat), chk P N code ir dom = some (fl, dom') → fl = ir.fl →
    ∀ (C : Ctx) (e : Env) (a : Act) (s : Sig) (e' : Env) (st' : Store), C.OK → GlobR C G → EnvR C e a → a.tmps.size = N → inDom e dom → IR.run G raw bases n ir e C.st = some (s, e', st') →
    ∀ Q : Exit → Act → World → Prop, (∀ D a', Ext C D → D.OK → D.st = st' → EnvR D e' a' → a'.tmps.size = N → a'.defers = a.defers → Q (sigX s) a' D.w) → code.wp P Q a C.w := by
  intro ir
  induction ir with
  | skip =>
    intro code dom fl dom' hc hfl C e a s e' st' hO hg hE hN hd h Q hQ
    rcases chk_inv hc with ⟨hsk, _⟩ | ⟨_, _, _, _, _, h0⟩ | ⟨_, _, _, _, _, h0⟩ | ⟨_, _, _, _, _, _, h0⟩ | ⟨_, _, _, _, _, _, h0⟩ | ⟨_, _, _, _, _, h0⟩ | ⟨_, _, _, _, h0⟩ | ⟨_, _, _, h0⟩ | ⟨_, _, h0⟩ | ⟨_, _, h0⟩ | ⟨_, _, _, h0⟩ <;> first | (cases h0; done) | skip
    cases h
    rcases hsk with rfl | ⟨l, rfl⟩
    · exact wp_skip (hQ C a (Ext.refl C) hO rfl hE hN rfl)
    · exact wp_label (hQ C a (Ext.refl C) hO rfl hE hN rfl)
  | items l =>
    intro code dom fl dom' hc hfl C e a s e' st' hO hg hE hN hd h Q hQ
    rcases chk_inv hc with ⟨_, h0⟩ | ⟨id, ops, draw, _, rfl, h0⟩ | ⟨_, _, _, _, _, h0⟩ | ⟨_, _, _, _, _, _, h0⟩ | ⟨_, _, _, _, _, _, h0⟩ | ⟨_, _, _, _, _, h0⟩ | ⟨_, _, _, _, h0⟩ | ⟨_, _, _, h0⟩ | ⟨_, _, h0⟩ | ⟨_, _, h0⟩ | ⟨_, _, _, h0⟩ <;> first | (cases h0; done) | skip
    simp only [IR.run] at h
    split at h
    · rename_i e1 st1 k1
      cases h
      exact items_ok hr hsc hG hm hc hfl hO hg hE hN hd k1 Q hQ
    · cases h
  | seq x y ihx ihy =>
    intro code dom fl dom' hc hfl C e a s e' st' hO hg hE hN hd h Q hQ
    rcases chk_inv hc with ⟨_, h0⟩ | ⟨_, _, _, _, _, h0⟩ | ⟨c1, c2, _, _, rfl, h0⟩ | ⟨_, _, _, _, _, _, h0⟩ | ⟨_, _, _, _, _, _, h0⟩ | ⟨_, _, _, _, _, h0⟩ | ⟨_, _, _, _, h0⟩ | ⟨_, _, _, h0⟩ | ⟨_, _, h0⟩ | ⟨_, _, h0⟩ | ⟨c1, _, rfl, h0⟩ <;> first | (cases h0; done) | skip
    · cases h0
      simp only [chk, Option.bind_eq_some_iff, Option.some.injEq, Prod.mk.injEq] at hc
      obtain ⟨⟨f1, d1⟩, h1, ⟨f2, d2⟩, h2, h3, rfl⟩ := hc
      rw [hfl] at h3
      simp only [IR.fl, Fl.two.injEq] at h3
      simp only [IR.run] at h
      apply wp_seq
      cases k : IR.run G raw bases n x e C.st with
      | none => rw [k] at h; cases h
      | some z =>
        obtain ⟨s1, e1, st1⟩ := z
        rw [k] at h
        cases s1 with
        | norm =>
          simp only at h
          refine ihx c1 dom f1 d1 h1 h3.1 C e a .norm e1 st1 hO hg hE hN hd k _ ?_
          intro D a' q1 q2 q3 q4 q5 q6
          show c2.wp P Q a' D.w
          refine ihy c2 d1 f2 d2 h2 h3.2 D e1 a' s e' st' q2 (hg.ext q1) q4 q5 (dom_ok n x c1 dom f1 d1 h1 e C.st e1 st1 hd k) (by rw [q3]; exact h) Q ?_
          exact fun D2 a2 r1 r2 r3 r4 r5 r6 => hQ D2 a2 (q1.trans r1) r2 r3 r4 r5 (by rw [r6, q6])
        | exit i =>
          cases h
          exact ihx c1 dom f1 d1 h1 h3.1 C e a (.exit i) _ _ hO hg hE hN hd k _ (fun D a' q1 q2 q3 q4 q5 q6 => hQ D a' q1 q2 q3 q4 q5 q6)
        | ret =>
          cases h
          exact ihx c1 dom f1 d1 h1 h3.1 C e a .ret _ _ hO hg hE hN hd k _ (fun D a' q1 q2 q3 q4 q5 q6 => hQ D a' q1 q2 q3 q4 q5 q6)
    · cases h0
      simp only [chk, Option.bind_eq_some_iff, Option.some.injEq, Prod.mk.injEq] at hc
      obtain ⟨⟨f1, d1⟩, h1, h3, rfl⟩ := hc
      rw [hfl] at h3
      simp only [IR.fl, Fl.two.injEq] at h3
      simp only [IR.run] at h
      apply wp_scope_straight
      cases k : IR.run G raw bases n x e C.st with
      | none => rw [k] at h; cases h
      | some z =>
        obtain ⟨s1, e1, st1⟩ := z
        rw [k] at h
        cases s1 <;> cases h <;> exact ihx c1 dom f1 d1 h1 h3.1 C e a _ _ _ hO hg hE hN hd k _ (fun D a' q1 q2 q3 q4 q5 q6 => hQ D a' q1 q2 q3 q4 q5 q6)
  | cond c x y ihx ihy =>
    intro code dom fl dom' hc hfl C e a s e' st' hO hg hE hN hd h Q hQ
    rcases chk_inv hc with ⟨_, h0⟩ | ⟨_, _, _, _, _, h0⟩ | ⟨_, _, _, _, _, h0⟩ | ⟨t, c1, c2, _, _, rfl, h0⟩ | ⟨v0, c1, c2, _, _, rfl, h0⟩ | ⟨_, _, _, _, _, h0⟩ | ⟨_, _, _, _, h0⟩ | ⟨_, _, _, h0⟩ | ⟨_, _, h0⟩ | ⟨_, _, h0⟩ | ⟨_, _, _, h0⟩ <;> first | (cases h0; done) | skip
    · cases h0
      simp only [chk, if_true, Option.bind_eq_some_iff, Option.some.injEq, Prod.mk.injEq] at hc
      obtain ⟨⟨f1, d1⟩, h1, ⟨f2, d2⟩, h2, h3, rfl⟩ := hc
      rw [hfl] at h3
      simp only [IR.fl, Fl.two.injEq] at h3
      simp only [IR.run] at h
      split at h
      · rename_i b hb
        obtain ⟨cc, g1, g2⟩ := hE t _ hb
        have := VR_plain g2
        subst this
        refine wp_cond (t := b) (eval_tmp g1) ?_
        split at h
        · rename_i hb2
          subst hb2
          exact ihx c1 dom f1 d1 h1 h3.1 C e a s e' st' hO hg hE hN hd h Q hQ
        · rename_i hb2
          rw [if_neg hb2]
          exact ihy c2 dom f2 d2 h2 h3.2 C e a s e' st' hO hg hE hN hd h Q hQ
      · cases h
    · cases h0
      simp only [chk, if_true, Option.bind_eq_some_iff, Option.some.injEq, Prod.mk.injEq] at hc
      obtain ⟨⟨f1, d1⟩, h1, ⟨f2, d2⟩, h2, h3, rfl⟩ := hc
      rw [hfl] at h3
      simp only [IR.fl, Fl.two.injEq] at h3
      simp only [IR.run] at h
      split at h
      · rename_i b hb
        simp only [Opd.ev, Option.some.injEq, AV.v.injEq, Value.bool.injEq] at hb
        subst hb
        refine wp_cond (t := v0) rfl ?_
        split at h
        · rename_i hb2
          subst hb2
          exact ihx c1 dom f1 d1 h1 h3.1 C e a s e' st' hO hg hE hN hd h Q hQ
        · rename_i hb2
          rw [if_neg hb2]
          exact ihy c2 dom f2 d2 h2 h3.2 C e a s e' st' hO hg hE hN hd h Q hQ
      · cases h
    · cases h0; cases h
  | block id live x ih =>
    intro code dom fl dom' hc hfl C e a s e' st' hO hg hE hN hd h Q hQ
    rcases chk_inv hc with ⟨_, h0⟩ | ⟨_, _, _, _, _, h0⟩ | ⟨_, _, _, _, _, h0⟩ | ⟨_, _, _, _, _, _, h0⟩ | ⟨_, _, _, _, _, _, h0⟩ | ⟨_, c1, _, _, rfl, h0⟩ | ⟨_, _, _, _, h0⟩ | ⟨_, _, _, h0⟩ | ⟨_, _, h0⟩ | ⟨_, _, h0⟩ | ⟨_, _, _, h0⟩ <;> first | (cases h0; done) | skip
    cases h0
    simp only [chk, if_true, Option.bind_eq_some_iff, Option.some.injEq, Prod.mk.injEq] at hc
    obtain ⟨⟨f1, d1⟩, h1, h3, rfl⟩ := hc
    rw [hfl] at h3
    simp only [IR.fl] at h3
    simp only [IR.run] at h
    apply wp_block
    split at h
    · rename_i e1 st1 k
      simp only [Option.some.injEq, Prod.mk.injEq] at h
      obtain ⟨rfl, h⟩ := h
      refine ih c1 dom f1 d1 h1 h3 C e a .norm _ _ hO hg hE hN hd k _ ?_
      intro D a' q1 q2 q3 q4 q5 q6
      rw [← q3] at h
      obtain ⟨D2, z1, z2, z3, z4, z5⟩ := compact_ok q1 q2 h
      rw [← z1]
      exact hQ D2 a' z2 z3 z4 (EnvR_comp q4 z5) q5 q6
    · rename_i i e1 st1 k
      refine ih c1 dom f1 d1 h1 h3 C e a (.exit i) e1 st1 hO hg hE hN hd k _ ?_
      intro D a' q1 q2 q3 q4 q5 q6
      simp only [sigX, Exit.inBlock]
      split at h
      · rename_i hi
        rw [if_pos hi]
        simp only [Option.some.injEq, Prod.mk.injEq] at h
        obtain ⟨rfl, h⟩ := h
        rw [← q3] at h
        obtain ⟨D2, z1, z2, z3, z4, z5⟩ := compact_ok q1 q2 h
        rw [← z1]
        exact hQ D2 a' z2 z3 z4 (EnvR_comp q4 z5) q5 q6
      · rename_i hi
        rw [if_neg hi]
        cases h
        exact hQ D a' q1 q2 q3 q4 q5 q6
    · rename_i hn1 hn2
      cases s with
      | norm => exact absurd h (hn1 _ _)
      | exit i => exact absurd h (hn2 _ _ _)
      | ret => exact ih c1 dom f1 d1 h1 h3 C e a .ret e' st' hO hg hE hN hd h _ (fun D a' q1 q2 q3 q4 q5 q6 => hQ D a' q1 q2 q3 q4 q5 q6)
  | loop live x ih =>
    intro code dom fl dom' hc hfl C e a s e' st' hO hg hE hN hd h Q hQ
    rcases chk_inv hc with ⟨_, h0⟩ | ⟨_, _, _, _, _, h0⟩ | ⟨_, _, _, _, _, h0⟩ | ⟨_, _, _, _, _, _, h0⟩ | ⟨_, _, _, _, _, _, h0⟩ | ⟨_, _, _, _, _, h0⟩ | ⟨c1, _, _, rfl, h0⟩ | ⟨_, _, _, h0⟩ | ⟨_, _, h0⟩ | ⟨_, _, h0⟩ | ⟨_, _, _, h0⟩ <;> first | (cases h0; done) | skip
    cases h0
    simp only [chk, Option.bind_eq_some_iff, Option.some.injEq, Prod.mk.injEq] at hc
    obtain ⟨⟨f1, d1⟩, h1, h3, rfl⟩ := hc
    rw [hfl] at h3
    simp only [IR.fl] at h3
    simp only [IR.run] at h
    let J : Act → World → Nat → Prop := fun a1 w1 k => ∃ (D : Ctx) (e1 : Env), D.w = w1 ∧ Ext C D ∧ D.OK ∧ EnvR D e1 a1 ∧ a1.tmps.size = N ∧ a1.defers = a.defers ∧ iter (IR.run G raw bases n x) (compact bases C.st.length live) k e1 D.st = some (s, e', st')
    let μ : Act → World → Nat := fun a1 w1 => Classical.epsilon fun k => J a1 w1 k ∧ ∀ j, j < k → ¬ J a1 w1 j
    have hμ : ∀ a1 w1, (∃ k, J a1 w1 k) → J a1 w1 (μ a1 w1) ∧ ∀ j, j < μ a1 w1 → ¬ J a1 w1 j := fun a1 w1 hk => Classical.epsilon_spec (least hk)
    refine wp_loop (fun a1 w1 => ∃ k, J a1 w1 k) μ ⟨n, C, e, rfl, Ext.refl C, hO, hE, hN, rfl, h⟩ ?_
    intro a1 w1 hI
    obtain ⟨hJ, hmin⟩ := hμ a1 w1 hI
    generalize hk : μ a1 w1 = k at hJ hmin
    obtain ⟨D, e1, rfl, r1, r2, r3, r4, r5, r6⟩ := hJ
    cases k with
    | zero => cases r6
    | succ k =>
      simp only [iter] at r6
      generalize hcp : compact bases C.st.length live e1 D.st = cp at r6
      obtain ⟨e3, st3⟩ := cp
      have hd2 : inDom e3 live := fun t v ht => compact_get (by rw [hcp]; exact ht)
      obtain ⟨D3, z1, z2, z3, z4, z5⟩ := compact_ok r1 r2 hcp
      have hE3 : EnvR D3 e3 a1 := EnvR_comp r3 z5
      subst z4
      rw [← z1]
      cases q : IR.run G raw bases n x e3 D3.st with
      | none => rw [q] at r6; cases r6
      | some z =>
        obtain ⟨s2, e2, st2⟩ := z
        rw [q] at r6
        cases s2 with
        | norm =>
          simp only at r6
          refine ih c1 live f1 d1 h1 h3 D3 e3 a1 .norm e2 st2 z3 (hg.ext z2) hE3 r4 hd2 q _ ?_
          intro D2 a2 q1 q2 q3 q4 q5 q6
          have hJ2 : J a2 D2.w k := ⟨D2, e2, rfl, z2.trans q1, q2, q4, q5, by rw [q6, r5], by rw [q3]; exact r6⟩
          refine ⟨⟨k, hJ2⟩, ?_⟩
          rcases Nat.lt_or_ge (μ a2 D2.w) (k + 1) with hlt | hge
          · exact hlt
          · exact absurd hJ2 ((hμ a2 D2.w ⟨k, hJ2⟩).2 k (by omega))
        | exit i =>
          cases r6
          exact ih c1 live f1 d1 h1 h3 D3 e3 a1 (.exit i) e' st' z3 (hg.ext z2) hE3 r4 hd2 q _ (fun D2 a2 q1 q2 q3 q4 q5 q6 => hQ D2 a2 (z2.trans q1) q2 q3 q4 q5 (by rw [q6, r5]))
        | ret =>
          cases r6
          exact ih c1 live f1 d1 h1 h3 D3 e3 a1 .ret e' st' z3 (hg.ext z2) hE3 r4 hd2 q _ (fun D2 a2 q1 q2 q3 q4 q5 q6 => hQ D2 a2 (z2.trans q1) q2 q3 q4 q5 (by rw [q6, r5]))
  | exit i live =>
    intro code dom fl dom' hc hfl C e a s e' st' hO hg hE hN hd h Q hQ
    rcases chk_inv hc with ⟨_, h0⟩ | ⟨_, _, _, _, _, h0⟩ | ⟨_, _, _, _, _, h0⟩ | ⟨_, _, _, _, _, _, h0⟩ | ⟨_, _, _, _, _, _, h0⟩ | ⟨_, _, _, _, _, h0⟩ | ⟨_, _, _, _, h0⟩ | ⟨_, _, rfl, h0⟩ | ⟨_, _, h0⟩ | ⟨_, _, h0⟩ | ⟨_, _, _, h0⟩ <;> first | (cases h0; done) | skip
    cases h0
    cases h
    exact wp_exit (hQ C a (Ext.refl C) hO rfl (EnvR_keep hE _) hN rfl)
  | ret live =>
    intro code dom fl dom' hc hfl C e a s e' st' hO hg hE hN hd h Q hQ
    rcases chk_inv hc with ⟨_, h0⟩ | ⟨_, _, _, _, _, h0⟩ | ⟨_, _, _, _, _, h0⟩ | ⟨_, _, _, _, _, _, h0⟩ | ⟨_, _, _, _, _, _, h0⟩ | ⟨_, _, _, _, _, h0⟩ | ⟨_, _, _, _, h0⟩ | ⟨_, _, _, h0⟩ | ⟨_, rfl, h0⟩ | ⟨_, _, h0⟩ | ⟨_, _, _, h0⟩ <;> first | (cases h0; done) | skip
    cases h
    exact wp_ret (hQ C a (Ext.refl C) hO rfl (EnvR_keep hE _) hN rfl)
end
end Go.Proofs.YtjidmpcgkcaeaaaGreatDoor.Ev
