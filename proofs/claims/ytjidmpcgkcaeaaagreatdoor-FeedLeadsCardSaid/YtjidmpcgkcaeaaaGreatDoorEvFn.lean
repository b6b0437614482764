import Derived.Test.YtjidmpcgkcaeaaaGreatDoorEvRun
set_option linter.unusedVariables false
set_option linter.unusedSimpArgs false
namespace Go.Proofs.YtjidmpcgkcaeaaaGreatDoor.Ev
def cRV (P : Program) : List ResultVar → Option (List RV)
  | [] => some []
  | .tmp t :: l => (cRV P l).bind fun r => some (.tmp t :: r)
  | .cell a t :: l => (aggN P t).bind fun n => (cRV P l).bind fun r => some (.cell a n :: r)
def FnChk (P : Program) (f : Nat) (fd : FnD) : Prop :=
  ∃ fn c d, P.funcs[f]? = some fn ∧ (∀ (args : Array Value) (w : World), (callFunc f args).run P w = .ok (.enter f args) w) ∧ fn.body = some c ∧ fd.nargs ≤ fn.ntmps ∧ cRV P fn.results.toList = some fd.results ∧ chk P fn.ntmps c fd.body (List.range fd.nargs) = some (fd.body.fl, d)
def cFn (P : Program) (fn : Func) (fd : FnD) : Option (List RV × Fl) :=
  fn.body.bind fun c => if fd.nargs ≤ fn.ntmps then (cRV P fn.results.toList).bind fun rs => (chk P fn.ntmps c fd.body (List.range fd.nargs)).bind fun r => some (rs, r.1) else none
theorem FnChk_of {P : Program} {f : Nat} {fn : Func} {fd : FnD} (hf : P.funcs[f]? = some fn) (he : ∀ (args : Array Value) (w : World), (callFunc f args).run P w = .ok (.enter f args) w) (h : cFn P fn fd = some (fd.results, fd.body.fl)) : FnChk P f fd := by
  simp only [cFn, Option.bind_eq_some_iff] at h
  obtain ⟨c, h1, h⟩ := h
  split at h
  · rename_i h2
    simp only [Option.bind_eq_some_iff, Option.some.injEq, Prod.mk.injEq] at h
    obtain ⟨rs, h3, ⟨r, d⟩, h4, rfl, rfl⟩ := h
    exact ⟨fn, c, d, hf, he, h1, h2, h3, h4⟩
  · cases h
def PrimOK (P : Program) (E : Prog) : Prop :=
  ∀ (f : Nat) (p : List AV → Store → Option (AV × Store)) (as : List AV) (C : Ctx) (r : AV) (st' : Store) (cargs : List Value), E.prim f = some p → p as C.st = some (r, st') → C.OK → GlobR C E.glob → VRt C as cargs → CallsF P f cargs C.w (Rets C r st')
section
variable {P : Program} {C : Ctx}
theorem argEnv_get : ∀ {as : List AV} {k t : Nat} {v : AV}, (argEnv as k).get t = some v → ∃ i, t = k + i ∧ as[i]? = some v
  | [], k, t, v, h => by simp [argEnv, Env.get] at h
  | a :: as, k, t, v, h => by
    simp only [argEnv, Env.get] at h
    split at h
    · rename_i hk
      exact ⟨0, by omega, by simpa using h⟩
    · obtain ⟨i, h1, h2⟩ := argEnv_get h
      exact ⟨i + 1, by omega, by simpa using h2⟩
theorem results_run (hO : C.OK) {e : Env} {a : Act} (hE : EnvR C e a) {fv : ResultVar → Sem Value} (fv1 : ∀ t, fv (.tmp t) = pure (a.tmps.getD t undef)) (fv2 : ∀ x t, fv (.cell x t) = (asAddr (a.tmps.getD x undef) >>= fun z => loadVar t z)) : ∀ (l : List ResultVar) (rs : List RV) (vs : List AV), cRV P l = some rs → RV.evs C.st e rs = some vs →
    ∃ cs : List Value, (l.mapM (m := Sem) fv).run P C.w = .ok cs C.w ∧ VRt C vs cs
  | [], rs, vs, h, k => by
    simp only [cRV, Option.some.injEq] at h; subst h
    simp only [RV.evs, Option.some.injEq] at k; subst k
    exact ⟨[], by simp, rfl⟩
  | .tmp t :: l, rs, vs, h, k => by
    simp only [cRV, Option.bind_eq_some_iff, Option.some.injEq] at h
    obtain ⟨rs', h1, rfl⟩ := h
    simp only [RV.evs] at k
    split at k
    · rename_i v k1
      split at k
      · rename_i vs' k2
        cases k
        obtain ⟨cs, m1, m2⟩ := results_run hO hE fv1 fv2 l rs' vs' h1 k2
        obtain ⟨c, n1, n2⟩ := hE t v k1
        refine ⟨c :: cs, ?_, ?_⟩
        · have : a.tmps.getD t undef = c := by simp [n1]
          simp only [List.mapM_cons, fv1, Sem.run_bind, Sem.run_pure, Result.andThen_ok, m1, this]
        · simp only [VRt]; exact ⟨c, cs, rfl, n2, m2⟩
      · cases k
    · cases k
  | .cell x t :: l, rs, vs, h, k => by
    simp only [cRV, Option.bind_eq_some_iff, Option.some.injEq] at h
    obtain ⟨n, h0, rs', h1, rfl⟩ := h
    simp only [RV.evs] at k
    split at k
    · rename_i v k1
      split at k
      · rename_i vs' k2
        cases k
        obtain ⟨cs, m1, m2⟩ := results_run hO hE fv1 fv2 l rs' vs' h1 k2
        simp only [RV.ev] at k1
        split at k1
        · rename_i z k3
          split at k1
          · rename_i qs k4
            obtain ⟨c, n1, n2⟩ := hE x z k3
            obtain ⟨ad, rfl, hs, f⟩ := ld_sound hO n2 k4
            obtain ⟨y, o1, o2⟩ := run_loadVar h0 hs f k1
            refine ⟨y :: cs, ?_, ?_⟩
            · have : a.tmps.getD x undef = .pointer (some ad) := by simp [n1]
              have hasA : (asAddr (.pointer (some ad))).run P C.w = .ok ad C.w := rfl
              simp only [List.mapM_cons, fv2, Sem.run_bind, Sem.run_pure, Result.andThen_ok, m1, this, hasA, o1]
            · simp only [VRt]; exact ⟨y, cs, rfl, o2, m2⟩
          · cases k1
        · cases k1
      · cases k
    · cases k
theorem tup_ok {vs : List AV} {cs : List Value} (h : VRt C vs cs) : VR C (tupOf vs) (if h : cs.toArray.size = 1 then cs.toArray[0] else .tuple cs.toArray) := by
  cases vs with
  | nil => simp only [VRt] at h; subst h; simp only [tupOf, VR, VRt]; exact ⟨#[], by simp, rfl⟩
  | cons a as =>
    cases as with
    | nil =>
      simp only [VRt] at h
      obtain ⟨c, r, rfl, h1, rfl⟩ := h
      simp only [tupOf]
      exact h1
    | cons b as =>
      have hl := VRt_length h
      simp only [List.length_cons] at hl
      simp only [tupOf, VR]
      refine ⟨cs.toArray, ?_, by simpa using h⟩
      rw [dif_neg]
      simp
      omega
theorem fin_run (hO : C.OK) {e : Env} {a : Act} (hE : EnvR C e a) {fn : Func} {rs : List RV} (hc : cRV P fn.results.toList = some rs) {vs : List AV} (h : RV.evs C.st e rs = some vs) :
    ∃ v, (results fn a.tmps).run P C.w = .ok v C.w ∧ VR C (tupOf vs) v := by
  unfold results
  rw [Array.mapM_eq_mapM_toList]
  generalize hq : (fun x : ResultVar => _ : ResultVar → Sem Value) = fv
  have q1 : ∀ t, fv (.tmp t) = pure (a.tmps.getD t undef) := fun t => by rw [← hq]
  have q2 : ∀ x t, fv (.cell x t) = (asAddr (a.tmps.getD x undef) >>= fun z => loadVar t z) := fun x t => by rw [← hq]
  obtain ⟨cs, h1, h2⟩ := results_run hO hE q1 q2 _ _ _ hc h
  refine ⟨_, ?_, tup_ok h2⟩
  simp only [Sem.run_bind, Sem.run_map, h1, Result.andThen_ok, Sem.run_pure]
end
theorem compactV_ok {C D : Ctx} {bases : List Nat} {v0 r : AV} {st' : Store} {x : Value} (hx : Ext C D) (hO : D.OK) (h : compactV bases C.st.length (v0, D.st) = (r, st')) (hv : VR D v0 x) : ∃ D', D'.w = D.w ∧ Ext C D' ∧ D'.OK ∧ D'.st = st' ∧ VR D' r x := by
  unfold compactV at h
  split at h
  · rename_i v k
    simp only [Prod.mk.injEq] at h
    obtain ⟨rfl, rfl⟩ := h
    obtain ⟨D', z1, z2, z3, z4, z5⟩ := compact_ok (bases := bases) (live := [0]) (e := [(0, v0)]) hx hO rfl
    obtain ⟨v1, k1, k2⟩ := z5 0 _ k
    simp only [Env.get, if_true, Option.some.injEq] at k1
    subst k1
    exact ⟨D', z1, z2, z3, z4, k2 _ hv⟩
  · simp only [Prod.mk.injEq] at h
    obtain ⟨rfl, rfl⟩ := h
    exact ⟨D, rfl, hx, hO, rfl, hv⟩
theorem callF_ok {P : Program} {E : Prog} (hm : P.follows .mixedOrders = true) (hG : GRo E.glob) (hp : PrimOK P E) (hs : PrimSc E) (hf : ∀ f fd, E.fn f = some fd → FnChk P f fd) : ∀ n, RawOK P E.glob (callF E n)
  | 0 => fun f as bases C r st' cargs h => by cases h
  | n + 1 => fun f as bases C r st' cargs h hO hg hv => by
    have ih := callF_ok hm hG hp hs hf n
    simp only [callF] at h
    split at h
    · rename_i p k1
      exact hp f p as C r st' cargs k1 h hO hg hv
    · split at h
      · rename_i fd k2
        split at h
        · rename_i hlen
          obtain ⟨fn, c, d, f1, f2, f3, f4, f5, f6⟩ := hf f fd k2
          refine ⟨f2, calls_of_wp f1 f3 ?_⟩
          have hsz : cargs.length = fd.nargs := by rw [← VRt_length hv, hlen]
          have hE : EnvR C (argEnv as 0) { tmps := cargs.toArray ++ Array.replicate (fn.ntmps - cargs.toArray.size) undef, defers := [] } := by
            intro t v ht
            obtain ⟨i, rfl, hi⟩ := argEnv_get ht
            obtain ⟨c', m1, m2⟩ := VRt_get hv i v hi
            refine ⟨c', ?_, m2⟩
            rw [Nat.zero_add, Array.getElem?_append_left (by have := (List.getElem?_eq_some_iff.1 m1).1; simpa using this)]
            simpa using m1
          have hd : inDom (argEnv as 0) (List.range fd.nargs) := by
            intro t v ht
            obtain ⟨i, rfl, hi⟩ := argEnv_get ht
            have := (List.getElem?_eq_some_iff.1 hi).1
            rw [List.mem_range]
            omega
          have fin' : ∀ (x : Exit) (s : Sig) (e1 : Env) (vs : List AV), (x = .normal ∨ x = .ret) → sigX s = x → ∀ st1, IR.run E.glob (callF E n) bases n fd.body (argEnv as 0) C.st = some (s, e1, st1) → RV.evs st1 e1 fd.results = some vs → compactV bases C.st.length (tupOf vs, st1) = (r, st') →
              c.wp P (bodyPost P fn (Rets C r st')) { tmps := cargs.toArray ++ Array.replicate (fn.ntmps - cargs.toArray.size) undef, defers := [] } C.w := by
            intro x s e1 vs hx hsx st1 k3 k4 hrv
            refine IR_ok ih (callF_sc hs n) hG hm n fd.body c (List.range fd.nargs) _ d f6 rfl C (argEnv as 0) _ s e1 st1 hO hg hE (by simp; omega) hd k3 _ ?_
            intro D a' q1 q2 q3 q4 q5 q6
            obtain ⟨v, r1, r2⟩ := fin_run q2 q4 f5 (by rw [q3]; exact k4)
            rw [← q3] at hrv
            obtain ⟨D2, z1, z2, z3, z4, z5⟩ := compactV_ok q1 q2 hrv r2
            rw [hsx]
            rcases hx with rfl | rfl
            · exact ⟨q6, v, r1, D2, z1, z2, z3, z4, z5⟩
            · exact ⟨q6, v, r1, D2, z1, z2, z3, z4, z5⟩
          cases hq : fin fd.results (IR.run E.glob (callF E n) bases n fd.body (argEnv as 0) C.st) with
          | none => rw [hq] at h; cases h
          | some q =>
            rw [hq] at h
            simp only [finC, Option.some.injEq] at h
            unfold fin at hq
            split at hq
            · rename_i e1 st1 k3
              split at hq
              · rename_i vs k4
                simp only [Option.some.injEq] at hq
                subst hq
                exact fin' .normal .norm e1 vs (.inl rfl) rfl st1 k3 k4 h
              · cases hq
            · rename_i e1 st1 k3
              split at hq
              · rename_i vs k4
                simp only [Option.some.injEq] at hq
                subst hq
                exact fin' .ret .ret e1 vs (.inr rfl) rfl st1 k3 k4 h
              · cases hq
            · cases hq
        · cases h
      · cases h
theorem call_ok {P : Program} {E : Prog} (hm : P.follows .mixedOrders = true) (hG : GRo E.glob) (hp : PrimOK P E) (hs : PrimSc E) (hf : ∀ f fd, E.fn f = some fd → FnChk P f fd) {f : Nat} {as : List AV} {r : AV} {st' : Store} {cargs : List Value} {C : Ctx}
    (h : callL E f as [] C.st = some (r, st')) (hO : C.OK) (hg : GlobR C E.glob) (hv : VRt C as cargs) : CallsF P f cargs C.w (Rets C r st') := by
  obtain ⟨n, hn⟩ := call_iff.1 h
  exact callF_ok hm hG hp hs hf n f as [] C r st' cargs hn hO hg hv
end Go.Proofs.YtjidmpcgkcaeaaaGreatDoor.Ev
