import Derived.Test.YtoobogpbejdocaaDoorEvRun
set_option linter.unusedVariables false
set_option linter.unusedSectionVars false
set_option linter.unusedSimpArgs false
namespace Go.Proofs.YtoobogpbejdocaaDoor.Ev
def cRV (P : Program) : List ResultVar → Option (List RV)
  | [] => some []
  | .tmp t :: l => (cRV P l).bind fun r => some (.tmp t :: r)
  | .cell a t :: l => (aggN P t).bind fun n => (cRV P l).bind fun r => some (.cell a n :: r)
def FnChk (P : Program) (f : Nat) (fd : FnD) : Prop :=
  ∃ fn c d, f < yB ∧ P.funcs[f]? = some fn ∧ (∀ (args : Array Value) (w : World), (callFunc f args).run P w = .ok (.enter f args) w) ∧ fn.body = some c ∧ fd.nargs ≤ fn.ntmps ∧ cRV P fn.results.toList = some fd.results ∧ chk P fn.ntmps c fd.body (List.range fd.nargs) = some (fd.body.fl, d)
def cFn (P : Program) (fn : Func) (fd : FnD) : Option (List RV × Fl) :=
  fn.body.bind fun c => if fd.nargs ≤ fn.ntmps then (cRV P fn.results.toList).bind fun rs => (chk P fn.ntmps c fd.body (List.range fd.nargs)).bind fun r => some (rs, r.1) else none
theorem FnChk_of {P : Program} {f : Nat} {fn : Func} {fd : FnD} (hf : P.funcs[f]? = some fn) (he : ∀ (args : Array Value) (w : World), (callFunc f args).run P w = .ok (.enter f args) w) (h : cFn P fn fd = some (fd.results, fd.body.fl)) (hlt : f < yB := by decide) : FnChk P f fd := by
  simp only [cFn, Option.bind_eq_some_iff] at h
  obtain ⟨c, h1, h⟩ := h
  split at h
  · rename_i h2
    simp only [Option.bind_eq_some_iff, Option.some.injEq, Prod.mk.injEq] at h
    obtain ⟨rs, h3, ⟨r, d⟩, h4, rfl, rfl⟩ := h
    exact ⟨fn, c, d, hlt, hf, he, h1, h2, h3, h4⟩
  · cases h
def preB : IR → Bool
  | .items [.op (some d) (.alloc _), .op none (.store _ (.t d') (.t _))] => d == d'
  | _ => false
theorem pre_both {G : Nat → Option (List AV)} {raw : Raw} {x : IR} (hp : preB x = true) {n : Nat} {e e1 : Env} {st st1 : Store} {id : Nat} {ob : Ob} {s : Sig} (hid : id < st.length) (h : IR.run G raw [] n x e (st.set id ob) = some (s, e1, st1)) :
    s = .norm ∧ ∃ st0, IR.run G raw [] n x e st = some (.norm, e1, st0) ∧ st1 = st0.set id ob ∧ st0[id]? = st[id]? := by
  unfold preB at hp
  split at hp
  rotate_left
  · cases hp
  rename_i d z k d' t
  have hd : d = d' := by simpa using hp
  subst hd
  have q1 : (st.set id ob ++ [Ob.box z])[st.length]? = some (.box z) := by rw [List.getElem?_append_right (by simp)]; simp
  have q2 : (st ++ [Ob.box z])[st.length]? = some (.box z) := by rw [List.getElem?_append_right (by simp)]; simp
  simp only [IR.run, Item.runs, Item.run, Prim.ev, Opd.ev, Env.put, Env.get, if_true, List.length_set] at h ⊢
  cases ht : Env.get ((d, AV.ref st.length 0 0 0) :: e) t with
  | none => simp only [Env.get] at ht; rw [ht] at h; cases h
  | some v =>
    simp only [Env.get] at ht
    rw [ht] at h ⊢
    dsimp only at h ⊢
    by_cases hbt : v.tuple = true
    · rw [if_pos hbt] at h; cases h
    · rw [if_neg hbt] at h ⊢
      simp only [stAt, q1, q2] at h ⊢
      by_cases c1 : v.cells.length = k ∧ okSt [] st.length v.cells = true
      · rw [if_pos c1] at h ⊢
        by_cases c2 : True ∧ True ∧ 0 + k ≤ z.length
        · simp only [true_and] at c2
          simp only [true_and, if_pos c2, Option.some.injEq, Prod.mk.injEq] at h ⊢
          obtain ⟨rfl, rfl, rfl⟩ := h
          refine ⟨rfl, _, ⟨rfl, rfl⟩, ?_, ?_⟩
          · rw [← List.set_append_left _ _ hid, List.set_comm _ _ (show id ≠ st.length by omega)]
          · rw [List.getElem?_set_ne (by omega), List.getElem?_append_left hid]
        · simp only [true_and] at c2
          simp only [true_and, if_neg c2] at h
          cases h
      · rw [if_neg c1] at h; cases h
def chkL (P : Program) (C : LoopC) (d : LoopD) : Option Fl := match C.asg with
  | .skip => (chk P C.n C.body d.body d.vars).map (·.1)
  | asg => match d.body with
    | .seq x y => if preB x = true then (chk P C.n asg x d.vars).bind fun r1 => (chk P C.n C.body y r1.2).map fun r2 => Fl.two r1.1 r2.1 else none
    | _ => none
def LoopChk (P : Program) (k : Nat) (d : LoopD) : Prop :=
  yB ≤ k ∧ d.vars = (LC k).ps.toList ++ (LC k).vars ∧ d.body.plain = true ∧ nodupB d.vars = true ∧ (LC k).ps.toList.all (fun t => decide (t < (LC k).n)) = true ∧
    (((LC k).asg = .skip ∧ ∃ d', chk P (LC k).n (LC k).body d.body d.vars = some (d.body.fl, d')) ∨ ∃ x y d1 d2, d.body = .seq x y ∧ preB x = true ∧ chk P (LC k).n (LC k).asg x d.vars = some (x.fl, d1) ∧ chk P (LC k).n (LC k).body y d1 = some (y.fl, d2))
theorem LoopChk_of {P : Program} {k : Nat} {d : LoopD} (h0 : yB ≤ k) (h1 : (decide (d.vars = (LC k).ps.toList ++ (LC k).vars) && d.body.plain && nodupB d.vars && (LC k).ps.toList.all fun t => decide (t < (LC k).n)) = true) (h2 : chkL P (LC k) d = some d.body.fl) : LoopChk P k d := by
  simp only [Bool.and_eq_true, decide_eq_true_eq] at h1
  obtain ⟨⟨⟨a, b⟩, c⟩, e⟩ := h1
  refine ⟨h0, a, b, c, e, ?_⟩
  unfold chkL at h2
  split at h2
  · rename_i hs
    simp only [Option.map_eq_some_iff] at h2
    obtain ⟨⟨x, d'⟩, h2, rfl⟩ := h2
    exact .inl ⟨hs, d', h2⟩
  · split at h2
    · rename_i x y hb
      split at h2
      · rename_i hp
        simp only [Option.bind_eq_some_iff, Option.map_eq_some_iff] at h2
        obtain ⟨⟨f1, d1⟩, h3, ⟨f2, d2⟩, h4, h5⟩ := h2
        rw [hb] at h5
        simp only [IR.fl, Fl.two.injEq] at h5
        obtain ⟨rfl, rfl⟩ := h5
        exact .inr ⟨x, y, d1, d2, hb, hp, h3, h4⟩
      · cases h2
    · cases h2
structure FnsOK (P : Program) (E : Prog) : Prop where
  fn : ∀ f fd, E.fn f = some fd → FnChk P f fd
  np : ∀ k, yB ≤ k → E.prim k = none
  loop : ∀ k d, E.loop k = some d → LoopChk P k d
def PrimOK (P : Program) (E : Prog) : Prop :=
  ∀ (f : Nat) (p : List AV → Store → Option (AV × Store)) (az : List AV) (C : Ctx) (r : AV) (st' : Store) (cargs : List Value), E.prim f = some p → p az C.st = some (r, st') → C.OK → GlobR C E.glob → VRt C az cargs → CallsF P f cargs C.w (Rets C r st')
section
variable {P : Program} {C : Ctx}
theorem argEnv_get : ∀ {az : List AV} {k t : Nat} {v : AV}, (argEnv az k).get t = some v → ∃ i, t = k + i ∧ az[i]? = some v
  | [], k, t, v, h => by simp [argEnv, Env.get] at h
  | a :: az, k, t, v, h => by
    simp only [argEnv, Env.get] at h
    split at h
    · rename_i hk
      exact ⟨0, by omega, by simpa using h⟩
    · obtain ⟨i, h1, h2⟩ := argEnv_get h
      exact ⟨i + 1, by omega, by simpa using h2⟩
theorem results_run (hO : C.OK) {e : Env} {a : Act} (hE : EnvR C e a) {fv : ResultVar → Sem Value} (fv1 : ∀ t, fv (.tmp t) = pure (a.tmps.getD t undef)) (fv2 : ∀ x t, fv (.cell x t) = (asAddr (a.tmps.getD x undef) >>= fun z => loadVar t z)) : ∀ (l : List ResultVar) (rs : List RV) (vs : List AV), cRV P l = some rs → RV.evs C.st e rs = some vs →
    ∃ cs : List Value, (l.mapM (m := Sem) fv).run P C.w = .ok cs C.w ∧ VRt C vs cs
  | [], rs, vs, h, k => by
    simp only [cRV, Option.some.injEq] at h; subst h
    simp only [RV.evs, Option.some.injEq] at k; subst k
    exact ⟨[], by simp, rfl⟩
  | .tmp t :: l, rs, vs, h, k => by
    simp only [cRV, Option.bind_eq_some_iff, Option.some.injEq] at h
    obtain ⟨rs', h1, rfl⟩ := h
    simp only [RV.evs] at k
    split at k
    · rename_i v k1
      split at k
      · rename_i vs' k2
        cases k
        obtain ⟨cs, m1, m2⟩ := results_run hO hE fv1 fv2 l rs' vs' h1 k2
        obtain ⟨c, n1, n2⟩ := hE t v k1
        refine ⟨c :: cs, ?_, ?_⟩
        · have : a.tmps.getD t undef = c := by simp [n1]
          simp only [List.mapM_cons, fv1, Sem.run_bind, Sem.run_pure, Result.andThen_ok, m1, this]
        · simp only [VRt]; exact ⟨c, cs, rfl, n2, m2⟩
      · cases k
    · cases k
  | .cell x t :: l, rs, vs, h, k => by
    simp only [cRV, Option.bind_eq_some_iff, Option.some.injEq] at h
    obtain ⟨n, h0, rs', h1, rfl⟩ := h
    simp only [RV.evs] at k
    split at k
    · rename_i v k1
      split at k
      · rename_i vs' k2
        cases k
        obtain ⟨cs, m1, m2⟩ := results_run hO hE fv1 fv2 l rs' vs' h1 k2
        simp only [RV.ev] at k1
        split at k1
        · rename_i z k3
          split at k1
          · rename_i qs k4
            obtain ⟨c, n1, n2⟩ := hE x z k3
            obtain ⟨ad, rfl, hs, f⟩ := ld_sound hO n2 k4
            obtain ⟨y, o1, o2⟩ := run_loadVar h0 hs f k1
            refine ⟨y :: cs, ?_, ?_⟩
            · have : a.tmps.getD x undef = .pointer (some ad) := by simp [n1]
              have hasA : (asAddr (.pointer (some ad))).run P C.w = .ok ad C.w := rfl
              simp only [List.mapM_cons, fv2, Sem.run_bind, Sem.run_pure, Result.andThen_ok, m1, this, hasA, o1]
            · simp only [VRt]; exact ⟨y, cs, rfl, o2, m2⟩
          · cases k1
        · cases k1
      · cases k
    · cases k
theorem tup_ok {vs : List AV} {cs : List Value} (h : VRt C vs cs) : VR C (tupOf vs) (if h : cs.toArray.size = 1 then cs.toArray[0] else .tuple cs.toArray) := by
  cases vs with
  | nil => simp only [VRt] at h; subst h; simp only [tupOf, VR, VRt]; exact ⟨#[], by simp, rfl⟩
  | cons a az =>
    cases az with
    | nil =>
      simp only [VRt] at h
      obtain ⟨c, r, rfl, h1, rfl⟩ := h
      simp only [tupOf]
      exact h1
    | cons b az =>
      have hl := VRt_length h
      simp only [List.length_cons] at hl
      simp only [tupOf, VR]
      refine ⟨cs.toArray, ?_, by simpa using h⟩
      rw [dif_neg]
      simp
      omega
theorem fin_run (hO : C.OK) {e : Env} {a : Act} (hE : EnvR C e a) {fn : Func} {rs : List RV} (hc : cRV P fn.results.toList = some rs) {vs : List AV} (h : RV.evs C.st e rs = some vs) :
    ∃ v, (results fn a.tmps).run P C.w = .ok v C.w ∧ VR C (tupOf vs) v := by
  unfold results
  rw [Array.mapM_eq_mapM_toList]
  generalize hq : (fun x : ResultVar => _ : ResultVar → Sem Value) = fv
  have q1 : ∀ t, fv (.tmp t) = pure (a.tmps.getD t undef) := fun t => by rw [← hq]
  have q2 : ∀ x t, fv (.cell x t) = (asAddr (a.tmps.getD x undef) >>= fun z => loadVar t z) := fun x t => by rw [← hq]
  obtain ⟨cs, h1, h2⟩ := results_run hO hE q1 q2 _ _ _ hc h
  refine ⟨_, ?_, tup_ok h2⟩
  simp only [Sem.run_bind, Sem.run_map, h1, Result.andThen_ok, Sem.run_pure]
end
theorem compactV_ok {C D : Ctx} {bases : List Nat} {v0 r : AV} {st' : Store} {x : Value} (hx : Ext C D) (hO : D.OK) (h : compactV bases C.st.length (v0, D.st) = (r, st')) (hv : VR D v0 x) : ∃ D', D'.w = D.w ∧ Ext C D' ∧ D'.OK ∧ D'.st = st' ∧ VR D' r x := by
  unfold compactV at h
  split at h
  · rename_i v k
    simp only [Prod.mk.injEq] at h
    obtain ⟨rfl, rfl⟩ := h
    obtain ⟨D', z1, z2, z3, z4, z5⟩ := compact_ok (bases := bases) (live := [0]) (e := [(0, v0)]) hx hO rfl
    obtain ⟨v1, k1, k2⟩ := z5 0 _ k
    simp only [Env.get, if_true, Option.some.injEq] at k1
    subst k1
    exact ⟨D', z1, z2, z3, z4, k2 _ hv⟩
  · simp only [Prod.mk.injEq] at h
    obtain ⟨rfl, rfl⟩ := h
    exact ⟨D, rfl, hx, hO, rfl, hv⟩
def takeW (w : World) : List Nat → World
  | [] => w
  | x :: l => takeW (w.putObj x (.deferred none)) l
theorem take_ok {C D : Ctx} : ∀ {l : List Nat} {E : Ctx}, Marks C D l → Ext C D → Ext C E → E.OK → E.B = D.B → E.st = D.st → Ex3 D E → (∀ x, x ∈ l → E.w.heap[x]? = some (.deferred (some []))) →
    ∃ E' : Ctx, E'.w = takeW E.w l ∧ Ext C E' ∧ E'.OK ∧ E'.st = D.st ∧ Ex3 D E'
  | [], E, _, _, h1, h2, _, h4, h5, _ => ⟨E, rfl, h1, h2, h4, h5⟩
  | x :: l, E, hm, h0, h1, h2, h3, h4, h5, h6 => by
    have hx := h6 x List.mem_cons_self
    obtain ⟨m1, m2, m3⟩ := hm.at_ x List.mem_cons_self
    have hlt := heap_lt hx
    have hot : ∀ k, k ≠ x → (E.w.putObj x (.deferred none)).heap[k]? = E.w.heap[k]? := fun k hk => World.putObj_heap_other hk
    have hat : (E.w.putObj x (.deferred none)).heap[x]? = some (.deferred none) := World.putObj_heap_same hlt
    have hsh : ∀ b, (E.w.putObj x (.deferred none)).shape? b = E.w.shape? b := fun b => by
      by_cases e : b = x
      · subst e
        unfold World.shape?
        rw [hat, hx]
      · exact shape_of_heap (hot b e)
    have hcell : ∀ ad c, E.w.cell? ad = some c → (E.w.putObj x (.deferred none)).cell? ad = some c := fun ad c h => by
      refine (cell_of_heap (hot _ fun e => ?_)).trans h
      unfold World.cell? at h
      rw [e, hx] at h
      cases h
    have e3 : Ex3 E ⟨E.w.putObj x (.deferred none), E.B, E.st, E.X⟩ := ⟨fun ad c h => ⟨hcell ad c h.1, h.2⟩, fun i ob h => ⟨ob, h, Ob.next_refl ob, .inl ⟨by cases ob <;> simp [Ob.still], rfl⟩⟩, fun b _ => hsh b⟩
    have hE' : Ext C ⟨E.w.putObj x (.deferred none), E.B, E.st, E.X⟩ := ⟨h1.X, h1.os, h1.tape, h1.out, by simpa using h1.size, fun ad c h => e3.keep ad c (h1.keep ad c h), h1.ids, fun b hb => (hsh b).trans (h1.shape b hb), fun b hb hn => (hot b (by omega)).trans (h1.frame b hb hn), h1.fresh⟩
    have hO' : Ctx.OK ⟨E.w.putObj x (.deferred none), E.B, E.st, E.X⟩ := ⟨h2.len, h2.inj, h2.dis, fun b off h => by simpa using h2.xlt b off h, fun i ob b o k1 k2 => ObR_ex3 e3 (hot b fun e => by
      subst e
      have k3 : E.B[i]? = some (b, o) := k2
      rw [h3] at k3
      exact m3 i o k3) (h2.obs i ob b o k1 k2)⟩
    have e4 : Ex3 D ⟨E.w.putObj x (.deferred none), E.B, E.st, E.X⟩ := ⟨fun ad c h => e3.keep ad c (h5.keep ad c h), h5.ids, fun b hb => (hsh b).trans (h5.shape b hb)⟩
    have hnd := List.nodup_cons.1 hm.nd
    exact take_ok (l := l) ⟨hnd.2, fun y hy => hm.at_ y (List.mem_cons_of_mem _ hy)⟩ h0 hE' hO' h3 h4 e4 fun y hy => (hot y fun e => by subst e; exact hnd.1 hy).trans (h6 y (List.mem_cons_of_mem _ hy))
theorem leaves_take {P : Program} {fn : Func} {tmps : Array Value} {R : Ending → World → Prop} : ∀ {l : List Nat} {w : World}, l.Nodup → (∀ x, x ∈ l → w.heap[x]? = some (.deferred (some []))) → (∃ v, (results fn tmps).run P (takeW w l) = .ok v (takeW w l) ∧ R (.returned v) (takeW w l)) →
    LeavesInM Fence.wide 0 P fn tmps R (l.map markD) .returning w
  | [], w, _, _, h => h
  | x :: l, w, hn, hx, h => by
    have hnd := List.nodup_cons.1 hn
    refine ⟨by simp, .inl ⟨x, w.putObj x (.deferred none), rfl, run_takeDeferred (hx x List.mem_cons_self), ?_⟩⟩
    exact leaves_take hnd.2 (fun y hy => (World.putObj_heap_other fun e => by subst e; exact hnd.1 hy).trans (hx y (List.mem_cons_of_mem _ hy))) h
theorem fold_get : ∀ (l : List (Nat × Value)) (T : Array Value), (l.map (·.1)).Nodup →
    (l.foldl (fun tmps (t, a) => tmps.setIfInBounds t a) T).size = T.size ∧
    (∀ (j p : Nat) (v : Value), l[j]? = some (p, v) → p < T.size → (l.foldl (fun tmps (t, a) => tmps.setIfInBounds t a) T)[p]? = some v) ∧ ∀ t, t ∉ l.map (·.1) → (l.foldl (fun tmps (t, a) => tmps.setIfInBounds t a) T)[t]? = T[t]?
  | [], T, _ => ⟨rfl, fun j p v h => by simp at h, fun t _ => rfl⟩
  | (q, x) :: l, T, hn => by
    simp only [List.map_cons, List.nodup_cons] at hn
    obtain ⟨h1, h2, h3⟩ := fold_get l (T.setIfInBounds q x) hn.2
    simp only [List.foldl_cons]
    refine ⟨by rw [h1]; simp, fun j p v hj hp => ?_, fun t ht => ?_⟩
    · cases j with
      | zero =>
        simp only [List.getElem?_cons_zero, Option.some.injEq, Prod.mk.injEq] at hj
        obtain ⟨rfl, rfl⟩ := hj
        rw [h3 q hn.1]
        simp [hp]
      | succ j => exact h2 j p v (by simpa using hj) (by simpa using hp)
    · simp only [List.map_cons, List.mem_cons, not_or] at ht
      rw [h3 t ht.2]
      simp [Array.getElem?_setIfInBounds, Ne.symm ht.1]
theorem bindEnv_get : ∀ {ts : List Nat} {l : List AV} {t : Nat} {v : AV}, (bindEnv ts l).get t = some v → ∃ j : Nat, ts[j]? = some t ∧ l[j]? = some v
  | [], l, t, v, h => by simp [bindEnv, Env.get] at h
  | q :: ts, [], t, v, h => by simp [bindEnv, Env.get] at h
  | q :: ts, a :: l, t, v, h => by
    simp only [bindEnv, Env.get] at h
    split at h
    · rename_i e
      subst e
      exact ⟨0, by simp, by simpa using h⟩
    · obtain ⟨j, h1, h2⟩ := bindEnv_get h
      exact ⟨j + 1, by simpa using h1, by simpa using h2⟩
theorem nodup_of : ∀ {l : List Nat}, nodupB l = true → l.Nodup
  | [], _ => .nil
  | x :: l, h => by
    simp only [nodupB, Bool.and_eq_true, Bool.not_eq_true', List.contains_eq_mem, decide_eq_false_iff_not] at h
    exact List.nodup_cons.2 ⟨h.1, nodup_of h.2⟩
theorem compactV_v {bases : List Nat} {n0 : Nat} {x : Value} {st st' : Store} {r : AV} (h : compactV bases n0 (.v x, st) = (r, st')) : r = .v x := by
  unfold compactV compact at h
  simp only [Env.keep, Env.get, if_true] at h
  split at h
  · rename_i v k
    simp only [Prod.mk.injEq] at h
    obtain ⟨rfl, _⟩ := h
    split at k
    · split at k
      · simpa [renEnv, AV.ren, Env.get] using k.symm
      · simpa [Env.get] using k.symm
    · simpa [Env.get] using k.symm
  · simp only [Prod.mk.injEq] at h
    exact h.1.symm
theorem callF_ok {P : Program} {E : Prog} (hm : P.follows .mixedOrders = true) (hG : GRo E.glob) (hp : PrimOK P E) (hs : PrimSc E) (hf : FnsOK P E) : ∀ n, RawOK P E.glob (callF E n)
  | 0 => ⟨fun f az bases C r st' cargs _ h => (by cases h), fun k az env C r st' cargs cs id b o q _ _ _ _ h => (by cases h)⟩
  | n + 1 => ⟨fun f az bases C r st' cargs hlt h hO hg hv => (by
    have ih := callF_ok hm hG hp hs hf n
    simp only [callF] at h
    split at h
    · rename_i p k1
      exact hp f p az C r st' cargs k1 h hO hg hv
    · split at h
      · rename_i fd k2
        split at h
        · rename_i hlen
          obtain ⟨fn, c, d, _, f1, f2, f3, f4, f5, f6⟩ := hf.fn f fd k2
          refine ⟨f2, (callsIn_wide (n := 0)).1 (callsIn_of_wp_marks f1 f3 trivial ?_)⟩
          have hsz : cargs.length = fd.nargs := by rw [← VRt_length hv, hlen]
          have hE : EnvR C (argEnv az 0) { tmps := cargs.toArray ++ Array.replicate (fn.ntmps - cargs.toArray.size) undef, defers := [] } := by
            intro t v ht
            obtain ⟨i, rfl, hi⟩ := argEnv_get ht
            obtain ⟨c', m1, m2⟩ := VRt_get hv i v hi
            refine ⟨c', ?_, m2⟩
            rw [Nat.zero_add, Array.getElem?_append_left (by have := (List.getElem?_eq_some_iff.1 m1).1; simpa using this)]
            simpa using m1
          have hd : inDom (argEnv az 0) (List.range fd.nargs) := by
            intro t v ht
            obtain ⟨i, rfl, hi⟩ := argEnv_get ht
            have := (List.getElem?_eq_some_iff.1 hi).1
            rw [List.mem_range]
            omega
          have fin' : ∀ (x : Exit) (s : Sig) (e1 : Env) (vs : List AV), (x = .normal ∨ x = .ret) → sigX s = x → ∀ st1, IR.run E.glob (callF E n) bases n fd.body (argEnv az 0) C.st = some (s, e1, st1) → RV.evs st1 e1 fd.results = some vs → compactV bases C.st.length (tupOf vs, st1) = (r, st') →
              c.wpIn Fence.wide 0 P (bodyPostM Fence.wide 0 P fn (Rets C r st')) { tmps := cargs.toArray ++ Array.replicate (fn.ntmps - cargs.toArray.size) undef, defers := [] } C.w := by
            intro x s e1 vs hx hsx st1 k3 k4 hrv
            refine IR_ok (ρ := none) ih (callF_sc hs n) hG hm n fd.body c (List.range fd.nargs) _ d f6 rfl (.inl rfl) C (argEnv az 0) _ s e1 st1 hO hg hE (by simp; omega) hd k3 _ ?_
            intro D a' q1 q2 q3 q4 q5 q6
            obtain ⟨l, m1, m2⟩ := q6
            rw [List.append_nil] at m2
            obtain ⟨D1, d1, d2, d3, d4, d5⟩ := take_ok m1 q1 q1 q2 rfl rfl (Ext.refl D).e3 fun x hx => (m1.at_ x hx).2.1
            have hE1 : EnvR D1 e1 a' := fun t v ht => by
              obtain ⟨cc, g1, g2⟩ := q4 t v ht
              exact ⟨cc, g1, VR_ex3 d5 g2⟩
            obtain ⟨v, r1, r2⟩ := fin_run d3 hE1 f5 (by rw [d4, q3]; exact k4)
            rw [← q3, ← d4] at hrv
            obtain ⟨D2, z1, z2, z3, z4, z5⟩ := compactV_ok d2 d3 hrv r2
            have lv : LeavesInM Fence.wide 0 P fn a'.tmps (Rets C r st') a'.defers .returning D.w := by
              rw [m2]
              refine leaves_take m1.nd (fun x hx => (m1.at_ x hx).2.1) ?_
              rw [← d1]
              exact ⟨v, r1, D2, z1, z2, z3, z4, z5⟩
            rw [hsx]
            rcases hx with rfl | rfl
            · exact lv
            · exact lv
          cases hq : fin fd.results (IR.run E.glob (callF E n) bases n fd.body (argEnv az 0) C.st) with
          | none => rw [hq] at h; cases h
          | some q =>
            rw [hq] at h
            simp only [finC, Option.some.injEq] at h
            unfold fin at hq
            split at hq
            · rename_i e1 st1 k3
              split at hq
              · rename_i vs k4
                simp only [Option.some.injEq] at hq
                subst hq
                exact fin' .normal .norm e1 vs (.inl rfl) rfl st1 k3 k4 h
              · cases hq
            · rename_i e1 st1 k3
              split at hq
              · rename_i vs k4
                simp only [Option.some.injEq] at hq
                subst hq
                exact fin' .ret .ret e1 vs (.inr rfl) rfl st1 k3 k4 h
              · cases hq
            · cases hq
        · cases h
      · split at h
        · rename_i d k2
          exact absurd (hf.loop f d k2).1 (by omega)
        · cases h),
    fun k az env C r st' cargs cs id b o q hst hB hh hA h hO hg hv hvc => (by
    have ih := callF_ok hm hG hp hs hf n
    have hbig := hA.big
    have hlen : env.length = (LC k).vars.length := by rw [VRt_length hvc, hA.len]
    simp only [callF, hf.np k hbig] at h
    split at h
    · rename_i fd k2
      obtain ⟨_, _, _, hlt, _⟩ := hf.fn k fd k2
      omega
    · split at h
      rotate_left
      · cases h
      rename_i d k2
      split at h
      rotate_left
      · cases h
      rename_i hla
      obtain ⟨_, h2, h3, h4, h5, h6⟩ := hf.loop k d k2
      have hla : az.length = (LC k).ps.size := by
        have hl := hla.1
        rw [h2] at hl
        simp only [List.length_append, Array.length_toList, hlen] at hl
        omega
      refine ⟨hla, ?_⟩
      have hnd := nodup_of h4
      rw [h2] at hnd
      have hlc : cargs.length = (LC k).ps.size := by rw [← VRt_length hv, hla]
      have hmap : (((LC k).ps.zip cargs.toArray).toList.map (·.1)) = (LC k).ps.toList := by
        rw [Array.toList_zip, List.map_fst_zip (by simp [hlc])]
      obtain ⟨g1, g2, g3⟩ := fold_get ((LC k).ps.zip cargs.toArray).toList q.tmps (by rw [hmap]; exact (List.nodup_append.1 hnd).1)
      rw [Array.foldl_toList] at g1 g2 g3
      rw [hA.ps]
      have hE : EnvR C (bindEnv d.vars (az ++ env)) { tmps := ((LC k).ps.zip cargs.toArray).foldl (fun tmps (t, a) => tmps.setIfInBounds t a) q.tmps, defers := [] } := by
        intro t v ht
        obtain ⟨j, j1, j2⟩ := bindEnv_get ht
        rw [h2] at j1
        by_cases hj : j < (LC k).ps.size
        · rw [List.getElem?_append_left (by simpa using hj)] at j1
          rw [List.getElem?_append_left (by omega)] at j2
          obtain ⟨c, c1, c2⟩ := VRt_get hv j v j2
          refine ⟨c, g2 j t c ?_ ?_, c2⟩
          · rw [Array.toList_zip, List.getElem?_zip_eq_some]
            exact ⟨j1, by simpa using c1⟩
          · rw [hA.n]
            have := List.all_eq_true.1 h5 t (List.mem_of_getElem? j1)
            simpa using this
        · rw [List.getElem?_append_right (by simpa using hj), Array.length_toList] at j1
          rw [List.getElem?_append_right (by omega), hla] at j2
          obtain ⟨c, c1, c2⟩ := VRt_get hvc _ v j2
          refine ⟨c, ?_, c2⟩
          have hnt : t ∉ (LC k).ps.toList := fun hm => (List.nodup_append.1 hnd).2.2 t hm t (List.mem_of_getElem? j1) rfl
          show (((LC k).ps.zip cargs.toArray).foldl (fun tmps (t, a) => tmps.setIfInBounds t a) q.tmps)[t]? = some c
          rw [g3 t (by rw [hmap]; exact hnt), hA.at_ _ t j1]
          exact c1
      generalize hT : ((LC k).ps.zip cargs.toArray).foldl (fun tmps (t, a) => tmps.setIfInBounds t a) q.tmps = T at hE g1
      have hTn : T.size = (LC k).n := by rw [g1, hA.n]
      have hid : id < C.st.length := (List.getElem?_eq_some_iff.1 hst).1
      have hdm : inDom (bindEnv d.vars (az ++ env)) d.vars := fun t v ht => by
        obtain ⟨j, j1, _⟩ := bindEnv_get ht
        exact List.mem_of_getElem? j1
      have go : ∀ (D : Ctx) (a' : Act) (q2 : Loop) (cs2 : List Value) (e : Env) (y : IR) (dm d2 : List Nat) (s : Sig) (e1 : Env) (st1 : Store), Ext C D → D.OK → D.st[id]? = some (.loop k env .rdy) → D.B[id]? = some (b, o) → D.w.heap[b]? = some (.loop q2) → LoopAt k .rdy q2 cs2 → VRt D env cs2 → EnvR D e a' → a'.tmps.size = (LC k).n → inDom e dm → y.plain = true →
          chk P (LC k).n (LC k).body y dm = some (y.fl, d2) → IR.run E.glob (callF E n) [] n y e (D.st.set id (.loop k env .busy)) = some (s, e1, st1) → compactV [] C.st.length (.v (.int .i64 (numOf s)), st1) = (r, st') →
          ∃ w₂, (Instr.beginRound b).run P D.w = .ok () w₂ ∧ q.body.wpIn (FW (some b)) 0 P (RoundQ C r st') a' w₂ := by
        intro D a' q2 cs2 e y dm d2 s e1 st1 x1 x2 x3 x4 x5 x6 x7 x8 x9 x10 x11 x12 x13 x14
        have hA1 : LoopAt k .busy { q2 with state := .busy } cs2 := ⟨x6.big, x6.ps, x6.asg, x6.body, x6.n, rfl, x6.len, x6.at_⟩
        obtain ⟨hx1, hO1⟩ := turn_loop x2 x3 x4 x5 hA1 x7
        refine ⟨_, run_beginRound x5 x6.s.1, ?_⟩
        rw [hA.body]
        refine IR_ok (ρ := some b) ih (callF_sc hs n) hG hm n y (LC k).body dm _ d2 x12 rfl (.inr x11) _ _ _ s e1 st1 hO1 (hg.ext (x1.trans hx1)) (x8.ext hx1) x9 x10 x13 _ ?_
        intro D3 a3 q1 q2 q3 q4 q5 q6
        rw [← q3] at x14
        have hr := compactV_v x14
        obtain ⟨D2, z1, z2, z3, z4, z5⟩ := compactV_ok (x := .int .i64 (numOf s)) ((x1.trans hx1).trans q1) q2 x14 (VR_v rfl)
        exact ⟨s, D2, rfl, hr, z1, z2, z3, z4⟩
      have hsl : (C.st.set id (.loop k env .busy)).length = C.st.length := List.length_set
      cases hq : IR.run E.glob (callF E n) [] n d.body (bindEnv d.vars (az ++ env)) (C.st.set id (.loop k env .busy)) with
      | none => rw [hq] at h; cases h
      | some z =>
        obtain ⟨s, e1, st1⟩ := z
        rw [hq] at h
        simp only [finL, finC, Option.some.injEq, hsl] at h
        rcases h6 with ⟨ha, d', h6⟩ | ⟨x, y, d1, d2, hb, hpb, h6, h7⟩
        · rw [hA.asg, ha]
          exact wpIn_skip (go C _ q cs _ d.body d.vars d' s e1 st1 (Ext.refl C) hO hst hB hh hA hvc hE hTn hdm h3 h6 hq h)
        · rw [hb] at hq h3
          simp only [IR.run] at hq
          simp only [IR.plain, Bool.and_eq_true] at h3
          cases hx : IR.run E.glob (callF E n) [] n x (bindEnv d.vars (az ++ env)) (C.st.set id (.loop k env .busy)) with
          | none => rw [hx] at hq; cases hq
          | some p =>
            obtain ⟨s0, e0, st0⟩ := p
            obtain ⟨rfl, st2, hx2, rfl, hst2⟩ := pre_both hpb hid hx
            rw [hx] at hq
            dsimp only at hq
            rw [hA.asg]
            refine IR_ok (ρ := some b) ih (callF_sc hs n) hG hm n x (LC k).asg d.vars _ d1 h6 rfl (.inr h3.1) C _ _ .norm e0 st2 hO hg hE hTn hdm hx2 _ ?_
            intro D a' q1 q2 q3 q4 q5 q6
            have i1 : D.st[id]? = some (.loop k env .rdy) := by rw [q3, hst2, hst]
            obtain ⟨ob', j1, j2, j3⟩ := q1.ids id _ hst
            have i2 : D.B[id]? = some (b, o) := by
              rcases j3 with ⟨_, j3⟩ | j3
              · rw [j3, hB]
              · rw [i1] at j1; cases j1
                exact absurd j3 (by simp [Ob.moved])
            obtain ⟨qq, cs2, hh2, hA2, hvc2⟩ := q2.obs id _ b o i1 i2
            exact go D a' qq cs2 e0 y d1 d2 s e1 st1 q1 q2 i1 i2 hh2 hA2 hvc2 q4 q5 (dom_ok n x _ _ _ _ h6 _ _ _ _ hdm hx2) h3.2 h7 (by rw [q3]; exact hq) h)⟩
theorem call_ok {P : Program} {E : Prog} (hm : P.follows .mixedOrders = true) (hG : GRo E.glob) (hp : PrimOK P E) (hs : PrimSc E) (hf : FnsOK P E) {f : Nat} (hlt : f < yB) {az : List AV} {r : AV} {st' : Store} {cargs : List Value} {C : Ctx}
    (h : callL E f az [] C.st = some (r, st')) (hO : C.OK) (hg : GlobR C E.glob) (hv : VRt C az cargs) : CallsF P f cargs C.w (Rets C r st') := by
  obtain ⟨n, hn⟩ := call_iff.1 h
  exact (callF_ok hm hG hp hs hf n).1 f az [] C r st' cargs hlt hn hO hg hv
end Go.Proofs.YtoobogpbejdocaaDoor.Ev
