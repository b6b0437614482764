import Derived.Test.YtoobogpbejdocaaGreatDoorEvItem
import Derived.Test.YtoobogpbejdocaaGreatDoorEvCall
import Derived.Scope
set_option linter.unusedVariables false
set_option linter.unusedSectionVars false
set_option linter.unusedSimpArgs false
namespace Go.Proofs.YtoobogpbejdocaaGreatDoor.Ev
def cCallV (o : Op) (m : Mode) : Option Bod :=
  match o with
  | .call c => (match c.callee with
    | .value f => (cOpd f).bind fun f' => (cOpds c.args.toList).bind fun az => some (.call m f' az)
    | _ => none)
  | _ => none
def cBod (P : Program) (o : Op) : Bod → Option Bod
  | .prim h => (cPrim P o h).map .prim
  | .primr h ex => (cPrim P o h).map fun p => .primr p ex
  | .call m _ _ => cCallV o m
def cGuard (ops : Array Oper) (o : Oper) : Option (Option (Nat × Bool)) :=
  match o.guard with
  | none => some none
  | some (j, w) => match (ops[j]?).bind (·.dst) with
    | some c => some (some (c, w))
    | none => none
def cFO (P : Program) (ops : Array Oper) (o : Oper) (h : FO) : Option FO :=
  (cBod P o.op h.b).bind fun b => (cGuard ops o).bind fun g => some ⟨o.dst, b, g⟩
def cFOs (P : Program) (ops : Array Oper) : List Oper → List FO → Option (List FO)
  | [], [] => some []
  | o :: os, h :: hs => (cFO P ops o h).bind fun f => (cFOs P ops os hs).bind fun fs => some (f :: fs)
  | _, _ => none
def befs : List Oper → List (List Nat) → List (List Nat)
  | [], acc => acc
  | o :: os, acc => befs os (acc ++ [((o.after.toList.filter fun e => Region.binds .any e).flatMap fun e => e.on :: acc.getD e.on []).eraseDups])
def pairOf (F : List FO) (M : List (List Nat)) : Option (Nat × Nat) :=
  (List.range F.length).findSome? fun (q : Nat) => match F[q]? with
    | some ⟨some _, .prim (.alloc _), none⟩ => (List.range q).findSome? fun (p : Nat) => match F[p]? with
      | some f => bif f.b.cl.wr && !(M.getD q []).contains p then some (p, q) else none
      | none => none
    | _ => none
def pairB (ops : List Oper) (F : List FO) (M : List (List Nat)) (p q : Nat) : Bool :=
  decide (p < q) && (match F[p]? with | some f => f.b.cl.wr | none => false) &&
  (match ops[q]?, F[q]? with
    | some o, some ⟨some _, .prim (.alloc _), none⟩ => (match o.op with | .alloc _ => true | _ => false)
    | _, _ => false) &&
  ((List.range F.length).all fun i => i == p || i == q || (M.getD i []).contains p || (!(M.getD i []).contains q && match ops[i]? with
    | some o => o.after.toList.all fun e => !Region.binds .any e || !(e.on == q)
    | none => true)) &&
  !(M.getD p []).contains q &&
  ((List.range q).all fun j => decide (j ≤ p) || match F[j]? with | some g => !g.b.cl.wr | none => true)
def anyB (ops : List Oper) (F : List FO) : Bool :=
  let M := befs ops []
  let pq := pairOf F M
  ops.length == F.length && M.length == F.length && (match pq with | some (p, q) => pairB ops F M p q | none => true) &&
  (List.range F.length).all fun i => match ops[i]?, F[i]? with
    | some o, some f =>
      (o.after.toList.all fun e => !Region.binds .any e || decide (e.on < i)) &&
      ((M.getD i []).all fun j => o.after.toList.any fun e => Region.binds .any e && (j == e.on || (M.getD e.on []).contains j)) &&
      (List.range F.length).all fun j => match F[j]? with
        | some g =>
          (match g.d with
            | some d => (!(f.tmps.contains d) || (decide (j < i) && (M.getD i []).contains j) || (decide (i < j) && (M.getD j []).contains i)) && (!(f.d == some d) || i == j)
            | none => true) &&
          (!(decide (j < i)) || !(clash g.b.cl f.b.cl) || ((M.getD i []).contains j || (exB F (F.take j) g.b f.b || (match pq with | some (p, q) => p == j && q == i | none => false))))
        | none => false
    | _, _ => false
inductive Fl where
  | nil
  | lp (c : LoopC)
  | reg (F : List FO)
  | two (a b : Fl)
noncomputable def IR.fl : IR → Fl
  | .skip => .nil
  | .items l => .reg (Item.fos none l)
  | .seq a b => .two a.fl b.fl
  | .cond _ a b => .two a.fl b.fl
  | .block _ _ b => b.fl
  | .loop _ b => b.fl
  | .exit _ _ => .nil
  | .ret _ => .nil
  | .rfn _ k _ _ => .lp (LC k)
def dLt (N : Nat) (f : FO) : Bool := match f.d with
  | some d => decide (d < N)
  | none => true
def chk (P : Program) (N : Nat) : Code → IR → List Nat → Option (Fl × List Nat)
  | .skip, .skip, dom => some (.nil, dom)
  | .label _, .skip, dom => some (.nil, dom)
  | .region _ ops draw, .items l, dom =>
    if (Item.wfs [] dom l && (Item.fos none l).all (dLt N) && (!draw || anyB ops.toList (Item.fos none l))) = true then
      (cFOs P ops ops.toList (Item.fos none l)).bind fun F' => some (.reg F', Item.dsts l ++ dom)
    else none
  | .seq a b, .seq x y, dom => (chk P N a x dom).bind fun r1 => (chk P N b y r1.2).bind fun r2 => some (.two r1.1 r2.1, r2.2)
  | .cond (.tmp t) a b, .cond (.t t') x y, dom => if t = t' then (chk P N a x dom).bind fun r1 => (chk P N b y dom).bind fun r2 => some (.two r1.1 r2.1, r1.2 ++ r2.2) else none
  | .cond (.const (.bool v)) a b, .cond (.c (.v (.bool v'))) x y, dom => if v = v' then (chk P N a x dom).bind fun r1 => (chk P N b y dom).bind fun r2 => some (.two r1.1 r2.1, r1.2 ++ r2.2) else none
  | .block id b, .block id' live x, dom => if id = id' then (chk P N b x dom).bind fun r => some (r.1, live) else none
  | .loop b, .loop live x, dom => (chk P N b x live).bind fun r => some (r.1, [])
  | .exit i, .exit j _, _ => if i = j then some (.nil, []) else none
  | .ret, .ret _, _ => some (.nil, [])
  | .scope b, .seq x .skip, dom => (chk P N b x dom).bind fun r => some (.two r.1 .nil, r.2)
  | .rangeFunc (.tmp t) ps asg body, .rfn (.t t') k vars live, dom => if t = t' ∧ yB ≤ k then some (.lp ⟨ps, vars, body, N, asg⟩, live) else none
  | _, .cond (.c (.v (.int _ _))) .skip .skip, _ => some (.two .nil .nil, [])
  | _, _, _ => none
theorem anyB_ok {ops : Array Oper} {F : List FO} (h : anyB ops.toList F = true) : AnyOK ops F (befs ops.toList []) (pairOf F (befs ops.toList [])) := by
  unfold anyB at h
  simp only [Bool.and_eq_true, beq_iff_eq, List.all_eq_true, List.mem_range] at h
  obtain ⟨⟨⟨h1, h2⟩, hpp⟩, h3⟩ := h
  have hl : ops.size = F.length := by rw [← h1]; simp
  have at_ : ∀ (i : Nat) (o : Oper) (f : FO), ops[i]? = some o → F[i]? = some f → _ := fun i o f ho hf => by
    have := h3 i (List.getElem?_eq_some_iff.1 hf).1
    rw [Array.getElem?_toList, ho, hf] at this
    simp only [Bool.and_eq_true] at this
    exact this
  have hF : ∀ (i : Nat) (o : Oper), ops[i]? = some o → ∃ f, F[i]? = some f := fun i o ho => by
    have := (Array.getElem?_eq_some_iff.1 ho).1
    exact ⟨F[i], List.getElem?_eq_getElem (by omega)⟩
  have hOp : ∀ (i : Nat) (f : FO), F[i]? = some f → ∃ o, ops[i]? = some o := fun i f hf => by
    have := (List.getElem?_eq_some_iff.1 hf).1
    exact ⟨ops[i], Array.getElem?_eq_getElem (by omega)⟩
  constructor
  · exact hl
  · intro i j hj
    have hi : i < F.length := by
      rcases Nat.lt_or_ge i F.length with h | h
      · exact h
      · rw [List.getD_eq_getElem?_getD, List.getElem?_eq_none (by omega)] at hj
        simp at hj
    obtain ⟨o, ho⟩ := hOp i _ (List.getElem?_eq_getElem hi)
    obtain ⟨⟨_, h5⟩, _⟩ := at_ i o _ ho (List.getElem?_eq_getElem hi)
    rw [List.all_eq_true] at h5
    have h6 := h5 j hj
    rw [List.any_eq_true] at h6
    obtain ⟨e, h7, h8⟩ := h6
    simp only [Bool.and_eq_true, Bool.or_eq_true, beq_iff_eq, List.contains_eq_mem, decide_eq_true_eq] at h8
    exact ⟨o, ho, e, by simpa using h7, h8.1, h8.2⟩
  · intro i o ho x hx hb
    obtain ⟨f, hf⟩ := hF i o ho
    obtain ⟨⟨h4, _⟩, _⟩ := at_ i o f ho hf
    rw [List.all_eq_true] at h4
    have := h4 x (by simpa using hx)
    simpa [hb] using this
  · intro i j f g d hf hg h4 h5
    obtain ⟨o, ho⟩ := hOp i f hf
    obtain ⟨_, h6⟩ := at_ i o f ho hf
    rw [List.all_eq_true] at h6
    have h7 := h6 j (List.mem_range.2 (List.getElem?_eq_some_iff.1 hg).1)
    rw [hg] at h7
    simp only [h5, h4, Bool.and_eq_true] at h7
    simpa using h7.1.2
  · intro i j f g t hf ht hg h5
    obtain ⟨o, ho⟩ := hOp i f hf
    obtain ⟨_, h6⟩ := at_ i o f ho hf
    rw [List.all_eq_true] at h6
    have h7 := h6 j (List.mem_range.2 (List.getElem?_eq_some_iff.1 hg).1)
    rw [hg] at h7
    simp only [h5, Bool.and_eq_true, Bool.or_eq_true, Bool.not_eq_true', List.contains_eq_mem, decide_eq_true_eq, decide_eq_false_iff_not] at h7
    rcases h7.1.1 with (h | h) | h
    · exact absurd ht h
    · exact .inl h
    · exact .inr h
  · intro i j f g hij hf hg hc
    obtain ⟨o, ho⟩ := hOp j g hg
    obtain ⟨_, h6⟩ := at_ j o g ho hg
    rw [List.all_eq_true] at h6
    have h7 := h6 i (List.mem_range.2 (List.getElem?_eq_some_iff.1 hf).1)
    rw [hf] at h7
    simp only [Bool.and_eq_true, Bool.or_eq_true, Bool.not_eq_true', List.contains_eq_mem, decide_eq_true_eq, decide_eq_false_iff_not, hc, hij] at h7
    rcases h7.2 with (h | h) | h
    · exact absurd trivial h
    · exact absurd h (by simp)
    · rcases h with h | h | h
      · exact .inl h
      · exact .inr (.inl h)
      · refine .inr (.inr ?_)
        split at h
        · rename_i p q hpq
          rw [hpq]
          simp only [Bool.and_eq_true, beq_iff_eq] at h
          rw [h.1, h.2]
        · cases h
  · intro p q hpq
    rw [hpq] at hpp
    unfold pairB at hpp
    simp only [Bool.and_eq_true, decide_eq_true_eq, Bool.not_eq_true', List.contains_eq_mem, decide_eq_false_iff_not] at hpp
    obtain ⟨⟨⟨⟨⟨k1, k2⟩, k3⟩, k4⟩, k5⟩, k6⟩ := hpp
    rw [List.all_eq_true] at k4 k6
    have hin : ∀ i : Nat, ∀ j, j ∈ (befs ops.toList []).getD i [] → i < F.length := fun i j hj => by
      rcases Nat.lt_or_ge i F.length with h | h
      · exact h
      · rw [List.getD_eq_getElem?_getD, List.getElem?_eq_none (by omega)] at hj
        simp at hj
    constructor
    · exact k1
    · split at k2
      · rename_i f hf
        exact ⟨f, hf, k2⟩
      · cases k2
    · split at k3
      · rename_i o d z ho hf
        split at k3
        · rename_i t hop
          exact ⟨o, t, z, d, by rw [← Array.getElem?_toList]; exact ho, hop, hf⟩
        · cases k3
      · cases k3
    · intro i o hip hiq ho hx
      obtain ⟨f, hf⟩ := hF i o ho
      have := k4 i (List.mem_range.2 (List.getElem?_eq_some_iff.1 hf).1)
      rw [Array.getElem?_toList, ho] at this
      simp only [Bool.or_eq_true, beq_iff_eq, hip, hiq, false_or, Bool.and_eq_true, decide_eq_true_eq] at this
      rcases this with h | ⟨_, h⟩
      · exact h
      · rw [List.all_eq_true] at h
        obtain ⟨x, hx1, hx2, hx3⟩ := hx
        have h9 := h x (by simpa using hx1)
        simp [hx2, hx3] at h9
    · intro i hip hiq hq
      have := k4 i (List.mem_range.2 (hin i q hq))
      simp only [Bool.or_eq_true, beq_iff_eq, hip, hiq, false_or, Bool.and_eq_true, decide_eq_true_eq, Bool.not_eq_true', decide_eq_false_iff_not] at this
      rcases this with h | ⟨h, _⟩
      · exact h
      · exact absurd hq h
    · exact k5
    · intro j g h4 h5 hg
      have := k6 j (List.mem_range.2 h5)
      rw [hg] at this
      simp only [Bool.or_eq_true, decide_eq_true_eq, Bool.not_eq_true'] at this
      rcases this with h | h
      · omega
      · exact h
section
variable {ρ : Option Nat} {P : Program} {G : Nat → Option (List AV)} {raw : Raw} {bases : List Nat} {N : Nat}
theorem call_wp (hr : RawOK P G raw) (hsc : RawSc raw) (hG : GRo G) {o : Op} {m : Mode} {b : Bod} (hc : cCallV o m = some b) {C : Ctx} {e : Env} {a : Act} {oo : Oper} (hoo : oo.op = o) (hO : C.OK) (hg : GlobR C G) (hE : EnvR C e a)
    {r : AV} {st' : Store} (h : b.ev G raw bases e C.st = some (r, st')) : DoesW ρ P a oo C r st' := by
  unfold cCallV at hc
  split at hc
  · rename_i c
    split at hc
    · rename_i fo hcal
      simp only [Option.bind_eq_some_iff, Option.some.injEq] at hc
      obtain ⟨f', h1, az, h2, rfl⟩ := hc
      simp only [Bod.ev] at h
      split at h
      · rename_i fv k1
        split at h
        · rename_i avs k2
          have hnd : ∀ c, oo.op ≠ .defer c := fun c h => by rw [hoo] at h; cases h
          rcases callM_ok hr hsc hG hO hg (cOpd_ok h1 hg hE k1) (cOpds_ok h2 hg hE k2) h with ⟨f, ccs, k3, k4, k7⟩ | ⟨b, fn, tmps, asg, body, k3, k4, k7⟩
          rotate_left
          · intro next Q hnext
            have hrun : (execOp a.eval oo).run P C.w = .ok (.round b fn tmps asg body) C.w := by
              unfold execOp
              rw [hoo]
              simp only [resolve, hcal, k3, Deferred.ofValue, Sem.run_bind, Sem.run_pure, Result.andThen_ok, invoke]
              rw [show #[] ++ Array.map a.eval c.args = (c.args.toList.map a.eval).toArray from Array.toList_inj.1 (by simp)]
              exact k4
            refine ⟨fun _ _ => trivial, ?_⟩
            rw [Oper.semAt_eq _ _ _ hnd, hrun]
            refine ⟨FW_depth ρ, RoundIn.mono (F := Fence.wide) k7 ?_⟩
            intro e' w' he
            cases e' with
            | returned v =>
              obtain ⟨D, rfl, h5, h6, h7, h8⟩ := he
              exact hnext D v h5 h6 h7 h8
            | panicked _ => exact he.elim
            | outgrown => exact he.elim
          intro next Q hnext
          have hrun : (execOp a.eval oo).run P C.w = .ok (.enter f ((c.args.toList.map a.eval) ++ ccs.toList).toArray) C.w := by
            unfold execOp
            rw [hoo]
            simp only [resolve, hcal, k3, Deferred.ofValue, Sem.run_bind, Sem.run_pure, Result.andThen_ok, invoke]
            rw [k4]
            congr 2
            simp
          refine ⟨fun _ _ => trivial, ?_⟩
          rw [Oper.semAt_eq _ _ _ hnd, hrun]
          refine ⟨FW_depth ρ, CallsIn.mono (F := Fence.wide) (callsIn_wide.2 k7) ?_⟩
          intro e' w' he
          cases e' with
          | returned v =>
            obtain ⟨D, rfl, h5, h6, h7, h8⟩ := he
            exact hnext D v h5 h6 h7 h8
          | panicked _ => exact he.elim
          | outgrown => exact he.elim
        · cases h
      · cases h
    · cases hc
  · cases hc
theorem cPrim_nd {o : Op} {h p : Prim} (hc : cPrim P o h = some p) : ∀ c, o ≠ .defer c := fun c e => by subst e; cases hc
theorem cFO_ok (hr : RawOK P G raw) (hsc : RawSc raw) (hG : GRo G) {ops : Array Oper} {o : Oper} {f : FO} (h : cFO P ops o f = some f) (hd : dLt N f = true) : OpR ρ P G raw bases ops N o f := by
  simp only [cFO, Option.bind_eq_some_iff, Option.some.injEq] at h
  obtain ⟨b, h1, g, h2, h3⟩ := h
  obtain ⟨d, b', g'⟩ := f
  simp only [FO.mk.injEq] at h3
  obtain ⟨h4, rfl, rfl⟩ := h3
  refine ⟨h4, ?_, ?_, ?_, ?_, ?_⟩
  rotate_left 4
  · intro t z ho hz
    simp only at hz
    subst hz
    simp only [cBod, ho, cPrim, Option.map_eq_some_iff, Option.bind_eq_some_iff, Option.some.injEq] at h1
    obtain ⟨p', ⟨z', h5, h6⟩, h7⟩ := h1
    cases h7; cases h6
    exact h5
  · intro d' hd'
    simp only at hd'
    subst hd'
    simpa [dLt] using hd
  · intro hg
    simp only at hg
    subst hg
    unfold cGuard at h2
    split at h2
    · assumption
    · split at h2 <;> cases h2
  · intro c w hg
    simp only at hg
    subst hg
    unfold cGuard at h2
    split at h2
    · cases h2
    · rename_i j w' hq
      split at h2
      · rename_i c' hc'
        simp only [Option.some.injEq, Prod.mk.injEq] at h2
        obtain ⟨rfl, rfl⟩ := h2
        exact ⟨j, hq, hc'⟩
      · cases h2
  · intro C e a r st' hO hg hE hev
    cases b with
    | prim p =>
      simp only [cBod, Option.map_eq_some_iff] at h1
      obtain ⟨p', h5, h6⟩ := h1
      cases h6
      exact (cPrim_ok h5 C e a o r st' rfl hO hg hE hev).w (cPrim_nd h5)
    | primr p ex =>
      simp only [cBod, Option.map_eq_some_iff] at h1
      obtain ⟨p', h5, h6⟩ := h1
      cases h6
      simp only [Bod.ev] at hev
      split at hev
      · split at hev
        · exact (cPrim_ok h5 C e a o r st' rfl hO hg hE hev).w (cPrim_nd h5)
        · cases hev
      · cases hev
    | call m f az => exact call_wp hr hsc hG h1 rfl hO hg hE hev
theorem cFOs_ok (hr : RawOK P G raw) (hsc : RawSc raw) (hG : GRo G) {ops : Array Oper} : ∀ (l : List Oper) (F : List FO), cFOs P ops l F = some F → F.all (dLt N) = true → All2 (OpR ρ P G raw bases ops N) l F
  | [], [], _, _ => .nil
  | [], f :: F, h, _ => by cases h
  | o :: l, [], h, _ => by cases h
  | o :: l, f :: F, h, hd => by
    simp only [cFOs, Option.bind_eq_some_iff, Option.some.injEq, List.cons.injEq] at h
    obtain ⟨f', h1, F', h2, rfl, rfl⟩ := h
    simp only [List.all_cons, Bool.and_eq_true] at hd
    exact .cons (cFO_ok hr hsc hG h1 hd.1) (cFOs_ok hr hsc hG l _ h2 hd.2)
theorem All2_get {α β : Type} {R : α → β → Prop} : ∀ {l : List α} {m : List β}, All2 R l m → ∀ (i : Nat) (a : α) (b : β), l[i]? = some a → m[i]? = some b → R a b
  | _, _, .nil, i, a, b, h, _ => by simp at h
  | _, _, .cons h1 h2, 0, a, b, h, k => by simp only [List.getElem?_cons_zero, Option.some.injEq] at h k; subst h; subst k; exact h1
  | _, _, .cons h1 h2, i + 1, a, b, h, k => by simp only [List.getElem?_cons_succ] at h k; exact All2_get h2 i a b h k
end
end Go.Proofs.YtoobogpbejdocaaGreatDoor.Ev
