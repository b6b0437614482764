import Derived.Test.YtjidmpcgkcaeaaaGreatDoorEvSa
import Derived.Test.YtjidmpcgkcaeaaaGreatDoorEvSg21
set_option linter.unusedVariables false
set_option linter.unusedSectionVars false
set_option linter.unusedSimpArgs false
namespace Go.Proofs.YtjidmpcgkcaeaaaGreatDoor.Ev
attribute [local congr] bind_congr_head
attribute [local go_sem] AV.cells AV.tuple elems boxQ callN_any compact_same compact_new aggOf
abbrev limS : Int := 1048576
inductive Steps (E : Prog) : StT → StT → List EvT → List (StT × StT × CmT) → Bool → Prop
  | nil {x y : StT} : Steps E x y [] [] true
  | stop {x y : StT} {v : EvT} {r : List EvT} {x' y' : StT} {c : CmT} {e : Int} (he : e ≠ 0) (h1 : callP E f_state_Do [stA x, vA v, vi limS] = some (ansA x' c e)) (h2 : callP E f_usufructref16_Do [stA y, vA v, vi limS] = some (ansA y' c e)) : Steps E x y (v :: r) [] false
  | go {x y : StT} {v : EvT} {r : List EvT} {x' y' : StT} {c : CmT} {T : List (StT × StT × CmT)} {b : Bool} (h1 : callP E f_state_Do [stA x, vA v, vi limS] = some (ansA x' c 0)) (h2 : callP E f_usufructref16_Do [stA y, vA v, vi limS] = some (ansA y' c 0))
      (q : Eqv x' y') (ok : XOK x') (g : Grow x x' v 0) (t : Steps E x' y' r T b) : Steps E x y (v :: r) ((x', y', c) :: T) b
theorem steps_ex {E : Prog} (hk : LOK E) : ∀ (l : List EvT) (x y : StT), XOK x → NN x → Eqv x y → (∀ v, v ∈ l → shortS v = 0) → ∃ (T : List (StT × StT × CmT)) (b : Bool), Steps E x y l T b
  | [], x, y, _, _, _, _ => ⟨[], true, .nil⟩
  | v :: r, x, y, hx, hn, q, hs => by
    obtain ⟨s1, s2⟩ := short_ev (hs v List.mem_cons_self)
    obtain ⟨x', y', c, e, d1, d2, q', ok', nn', g, _⟩ := do_both hk.hE hk.hv hk.hi hk.hin hk.hdl x y hx hn q v s1 s2 limS
    by_cases he : e = 0
    · subst he
      obtain ⟨T, b, t⟩ := steps_ex hk r x' y' ok' nn' q' fun w hw => hs w (List.mem_cons_of_mem _ hw)
      exact ⟨(x', y', c) :: T, b, .go d1 d2 q' ok' g t⟩
    · exact ⟨[], false, .stop he d1 d2⟩
def lastX (x : StT) : List (StT × StT × CmT) → StT
  | [] => x
  | (x', _, _) :: T => lastX x' T
def lastY (y : StT) : List (StT × StT × CmT) → StT
  | [] => y
  | (_, y', _) :: T => lastY y' T
theorem steps_last {E : Prog} {x y : StT} {l : List EvT} {T : List (StT × StT × CmT)} {b : Bool} (t : Steps E x y l T b) : Eqv x y → XOK x → Eqv (lastX x T) (lastY y T) ∧ XOK (lastX x T) := by
  induction t with
  | nil => exact fun q h => ⟨q, h⟩
  | stop => exact fun q h => ⟨q, h⟩
  | go _ _ q ok _ _ ih => exact fun _ _ => ih q ok
def zeroS : SgT := ⟨0, eTx, 0, 0, 0, 0, false, 0, 0⟩
def sgAt (S : List SgT) (k : Int) : SgT × Bool := match S[(fidx (isId k) S 0).toNat]? with | some s => if 0 ≤ fidx (isId k) S 0 then (s, true) else (zeroS, false) | none => (zeroS, false)
theorem sgAt_no {S : List SgT} {k : Int} (h : fidx (isId k) S 0 = -1) : sgAt S k = (zeroS, false) := by
  unfold sgAt
  rw [h]
  split <;> simp
theorem sgAt_yes {S : List SgT} {k : Int} {i : Nat} {s : SgT} (h : fidx (isId k) S 0 = (i : Int)) (hs : S[i]? = some s) : sgAt S k = (s, true) := by
  unfold sgAt
  rw [h, Int.toNat_natCast, hs]
  simp
def phS (S : List SgT) (k : Int) : Int := if (sgAt S k).2 = true then (sgAt S k).1.phase else -1
theorem fn_stFind {E : Prog} (hE : Std E fns) (x : StT) (hl : x.sagas.list.length ≤ 1048576) (k : Int) : callP E f_state_Find [stA x, vi k] = some (.tup [sA (sgAt x.sagas.list k).1, vb (sgAt x.sagas.list k).2]) := by
  have hf := fn_findS hE k x.sagas (by omega)
  rw [hE.run rfl rfl]
  rcases fidx_cases (isId k) x.sagas.list 0 with ⟨h1, _⟩ | ⟨i, s, h1, h2, _, _⟩
  · rw [h1] at hf
    rw [sgAt_no h1]
    simp -implicitDefEqProofs only [go_sem, ir_state_Find, hf, ro_def, ro_sg]
    try rfl
  · rw [Nat.zero_add] at h1
    rw [h1] at hf
    rw [sgAt_yes h1 h2]
    have h3 : ¬ ((i : Int) < 0) := by omega
    simp -implicitDefEqProofs only [go_sem, ir_state_Find, hf, h2, h3, ro_def, ro_sg, Int.natCast_nonneg, SgT.cells]
theorem fn_fdPhase {E : Prog} (hE : Std E fns) (x : StT) (hl : x.sagas.list.length ≤ 1048576) (k : Int) : callP E f_feed_phase [stA x, vi k] = some (vi (phS x.sagas.list k)) := by
  have hf := fn_stFind hE x hl k
  unfold phS
  rw [hE.run rfl rfl]
  cases hb : (sgAt x.sagas.list k).2 with
  | false =>
    rw [hb] at hf
    simp -implicitDefEqProofs only [go_sem, ir_feed_phase, hf, ro_def, ro_sg]
  | true =>
    rw [hb] at hf
    simp -implicitDefEqProofs only [go_sem, ir_feed_phase, hf, ro_def, ro_sg]
structure ChT where
  at_ : Int
  saga : Int
  was : Int
  is_ : Int
def ChT.cells (c : ChT) : List AV := [vi c.at_, vi c.saga, vi c.was, vi c.is_]
theorem ro_ch : Ro ChT.cells := fun _ => rfl
def chg (i : Nat) (x x' : StT) (v : EvT) : List ChT :=
  if v.kind ≠ 0 ∧ phS x.sagas.list v.saga ≠ phS x'.sagas.list v.saga then [⟨i, v.saga, phS x.sagas.list v.saga, phS x'.sagas.list v.saga⟩] else []
def chgs (i : Nat) (x : StT) : List EvT → List (StT × StT × CmT) → List ChT
  | v :: r, (x', _, _) :: T => chg i x x' v ++ chgs (i + 1) x' r T
  | _, _ => []
theorem chg_in {i : Nat} {x x' : StT} {v : EvT} {c : ChT} (h : c ∈ chg i x x' v) : c.at_ = i := by
  unfold chg at h
  split at h
  · simp only [List.mem_singleton] at h; rw [h]
  · cases h
theorem chgs_in : ∀ (l : List EvT) (T : List (StT × StT × CmT)) (i : Nat) (x : StT) (c : ChT), c ∈ chgs i x l T → (i : Int) ≤ c.at_ ∧ c.at_ < ((i + l.length : Nat) : Int)
  | [], _, i, x, c, h => by simp [chgs] at h
  | v :: r, [], i, x, c, h => by simp [chgs] at h
  | v :: r, (x', y', cm) :: T, i, x, c, h => by
    rw [chgs, List.mem_append] at h
    rcases h with h | h
    · have := chg_in h
      simp only [List.length_cons]; omega
    · have := chgs_in r T (i + 1) x' c h
      simp only [List.length_cons]; omega
theorem chgs_len : ∀ (l : List EvT) (T : List (StT × StT × CmT)) (i : Nat) (x : StT), (chgs i x l T).length ≤ l.length
  | [], _, i, x => by simp [chgs]
  | v :: r, [], i, x => by simp [chgs]
  | v :: r, (x', y', cm) :: T, i, x => by
    have h1 := chgs_len r T (i + 1) x'
    have h2 : (chg i x x' v).length ≤ 1 := by unfold chg; split <;> simp
    rw [chgs, List.length_append, List.length_cons]; omega
def fromC (k : Int) (C : List ChT) : List ChT := C.filter fun c => decide (k ≤ c.at_)
theorem from_all {k : Int} : ∀ {C : List ChT}, (∀ c, c ∈ C → k ≤ c.at_) → fromC k C = C := fun h => List.filter_eq_self.2 fun c hc => decide_eq_true (h c hc)
theorem from_none {k : Int} {C : List ChT} (h : ∀ c, c ∈ C → c.at_ < k) : fromC k C = [] := List.filter_eq_nil_iff.2 fun c hc => by
  have := h c hc
  simp only [decide_eq_true_eq]; omega
structure PgI (C : List ChT) (n : Int) (m t : Nat) (at_ : Int) : Prop where
  fr : fromC at_ C = C.drop (t * m)
  le : at_ ≤ n
  nn : 0 ≤ at_
  en : C.length ≤ t * m → 0 < t → at_ = n
abbrev stFo (x : StT) : Store := [.box [x.defs.av 3 DefT.cells, x.sagas.av 9 SgT.cells, vi x.next]]
theorem chg_no {i : Nat} {x x' : StT} {v : EvT} (h : v.kind = 0 ∨ phS x.sagas.list v.saga = phS x'.sagas.list v.saga) : chg i x x' v = [] := by
  unfold chg
  rw [if_neg]
  rintro ⟨h1, h2⟩
  rcases h with h | h
  · exact h1 h
  · exact h2 h
theorem chg_yes {i : Nat} {x x' : StT} {v : EvT} (h1 : ¬ v.kind = 0) (h2 : ¬ phS x.sagas.list v.saga = phS x'.sagas.list v.saga) : chg i x x' v = [⟨i, v.saga, phS x.sagas.list v.saga, phS x'.sagas.list v.saga⟩] := by
  unfold chg
  rw [if_pos ⟨h1, h2⟩]
def Junk (G : Store) : Prop := ∃ (g : Nat) (v : EvT) (x : StT) (c : CmT), G = [.box v.cells, .box [x.defs.av 3 DefT.cells, x.sagas.av 9 SgT.cells, vi x.next], .box [vi c.saga, vi c.step, vb c.undo, vi c.try_, vs c.party, vs c.key]] ∨
  ∃ o : List ChT, G = [.row 4 g (o.map ChT.cells) false, .box v.cells, .box [x.defs.av 3 DefT.cells, x.sagas.av 9 SgT.cells, vi x.next], .box [vi c.saga, vi c.step, vb c.undo, vi c.try_, vs c.party, vs c.key]]
set_option maxHeartbeats 4000000 in
theorem follow_loop {E : Prog} (hE : Std E fns) (l : Sl EvT) (hl : l.list.length ≤ 60) {L : Env × Store → Option (Sig × Env × Store)}
    (hL : ∀ e st, L (e, st) = (IR.runL E.glob (callL E) [] ir_feed_follow_L0 e st).bind (seqK fun e st => L (compact [] 1 [2, 3, 12, 13, 14] e st)))
    {rest : List EvT} {x y : StT} {T : List (StT × StT × CmT)} {b : Bool} (t : Steps E x y rest T b) :
    ∀ (i : Nat) (out : List ChT) (g : Nat), XOK x → l.list.drop i = rest → i ≤ l.list.length → out.length ≤ i →
    ∃ (g' : Nat) (x' : StT) (G : Store), (b = false → Junk G) ∧ L ([(2, (bld 4 ChT.cells g (stFo x) out).1), (3, .ref 0 0 0 0), (12, lv l), (13, vi l.list.length), (14, vi i)], (bld 4 ChT.cells g (stFo x) out).2) =
      if b = true then some (.exit 0, [(2, (bld 4 ChT.cells g' (stFo (lastX x T)) (out ++ chgs i x rest T)).1), (3, .ref 0 0 0 0)], (bld 4 ChT.cells g' (stFo (lastX x T)) (out ++ chgs i x rest T)).2)
      else some (.ret, [(2, .v (.slice none 0 0)), (3, .ref 0 0 0 0), (4, vb false)], .box [x'.defs.av 3 DefT.cells, x'.sagas.av 9 SgT.cells, vi x'.next] :: G) := by
  induction t with
  | @nil x y =>
    intro i out g hx h0 hi ho
    have h1 := drop_nil' h0 hi
    refine ⟨g, x, [], fun h => (by cases h), ?_⟩
    rw [hL, if_pos rfl, chgs, List.append_nil, lastX]
    by_cases hne : out = []
    · subst hne
      simp -implicitDefEqProofs only [go_sem, ir_feed_follow_L0, h1, bld_nil, ro_ev, ro_def, ro_sg, ro_ch]
    · simp -implicitDefEqProofs only [go_sem, ir_feed_follow_L0, h1, bld_ne hne, ro_ev, ro_def, ro_sg, ro_ch]
    all_goals intro _ _ _; simp [chgs]
  | @stop x y v r x' y' c e he d1 d2 =>
    intro i out g hx h0 hi ho
    obtain ⟨h1, h2, h3, h4, h5⟩ := drop_cons h0
    unfold ansA at d1
    by_cases hne : out = []
    · subst hne
      refine ⟨g, x, _, fun _ => ⟨g, v, x', c, .inl rfl⟩, ?_⟩
      · rw [hL, if_neg (by decide)]
        simp -implicitDefEqProofs only [go_sem, ir_feed_follow_L0, h1, h3, EvT.cells, d1, he, bld_nil, ro_ev, ro_def, ro_sg, ro_step, ro_ch, Int.natCast_nonneg]
    · refine ⟨g, x, _, fun _ => ⟨g, v, x', c, .inr ⟨out, rfl⟩⟩, ?_⟩
      · rw [hL, if_neg (by decide)]
        simp -implicitDefEqProofs only [go_sem, ir_feed_follow_L0, h1, h3, EvT.cells, d1, he, bld_ne hne, ro_ev, ro_def, ro_sg, ro_step, ro_ch, Int.natCast_nonneg]
  | @go x y v r x' y' c T b d1 d2 q ok gr t ih =>
    intro i out g hx h0 hi ho
    obtain ⟨h1, h2, h3, h4, h5⟩ := drop_cons h0
    have h6 := wrap_succ (i := i) (by omega)
    have p1 := fn_fdPhase hE x hx.sl v.saga
    have p2 := fn_fdPhase hE x' ok.sl v.saga
    have hb : (out.length + 1) * 32 ≤ 140737488355328 := by omega
    unfold ansA at d1
    rw [chgs, lastX]
    by_cases k0 : v.kind = 0
    · rw [chg_no (.inl k0), List.nil_append]
      obtain ⟨g', z, G, hJ, ih⟩ := ih (i + 1) out g ok h2 h4 (by omega)
      refine ⟨g', z, G, hJ, ?_⟩
      rw [← ih, hL]
      obtain ⟨kd, nw, sg, nm, ⟨r1, r2, r3, r4, r5⟩, df⟩ := v
      dsimp only at *
      subst k0
      by_cases hne : out = []
      · subst hne
        simp -implicitDefEqProofs only [go_sem, ir_feed_follow_L0, h1, h3, h6, EvT.cells, d1, p1, p2, bld_nil, ro_ev, ro_def, ro_sg, ro_step, ro_ch, Int.natCast_nonneg]
      · simp -implicitDefEqProofs only [go_sem, ir_feed_follow_L0, h1, h3, h6, EvT.cells, d1, p1, p2, bld_ne hne, ro_ev, ro_def, ro_sg, ro_step, ro_ch, Int.natCast_nonneg]
    · by_cases pe : phS x.sagas.list v.saga = phS x'.sagas.list v.saga
      · rw [chg_no (.inr pe), List.nil_append]
        obtain ⟨g', z, G, hJ, ih⟩ := ih (i + 1) out g ok h2 h4 (by omega)
        refine ⟨g', z, G, hJ, ?_⟩
        rw [← ih, hL]
        rw [pe] at p1
        by_cases hne : out = []
        · subst hne
          simp -implicitDefEqProofs only [go_sem, ir_feed_follow_L0, h1, h3, h6, EvT.cells, d1, k0, p1, p2, bld_nil, ro_ev, ro_def, ro_sg, ro_step, ro_ch, Int.natCast_nonneg]
        · simp -implicitDefEqProofs only [go_sem, ir_feed_follow_L0, h1, h3, h6, EvT.cells, d1, k0, p1, p2, bld_ne hne, ro_ev, ro_def, ro_sg, ro_step, ro_ch, Int.natCast_nonneg]
      · rw [chg_yes k0 pe, ← List.append_assoc]
        by_cases hne : out = []
        · subst hne
          obtain ⟨g', z, G, hJ, ih⟩ := ih (i + 1) [⟨i, v.saga, phS x.sagas.list v.saga, phS x'.sagas.list v.saga⟩] 0 ok h2 h4 (by simp)
          refine ⟨g', z, G, hJ, ?_⟩
          rw [List.nil_append, ← ih, hL]
          simp -implicitDefEqProofs only [go_sem, ir_feed_follow_L0, h1, h3, h6, EvT.cells, ChT.cells, d1, k0, pe, p1, p2, bld_nil, bld_ne (List.cons_ne_nil _ _), ro_ev, ro_def, ro_sg, ro_step, ro_ch, Int.natCast_nonneg]
        · obtain ⟨g', z, G, hJ, ih⟩ := ih (i + 1) (out ++ [⟨i, v.saga, phS x.sagas.list v.saga, phS x'.sagas.list v.saga⟩]) (g + 1) ok h2 h4 (by simp; omega)
          refine ⟨g', z, G, hJ, ?_⟩
          rw [← ih, hL]
          simp -implicitDefEqProofs only [go_sem, ir_feed_follow_L0, h1, h3, h6, EvT.cells, ChT.cells, d1, k0, pe, p1, p2, bld_ne hne, bld_ne (ne_app out _), hb, ro_ev, ro_def, ro_sg, ro_step, ro_ch, Int.natCast_nonneg]
abbrev x0 : StT := ⟨.nil, .nil, 0⟩
theorem fn_follow {E : Prog} (hE : Std E fns) (l : Sl EvT) (hl : l.list.length ≤ 60) {y : StT} {T : List (StT × StT × CmT)} {b : Bool} (t : Steps E x0 y l.list T b) :
    ∃ (C : Sl ChT) (x : StT), callP E f_feed_follow [lv l] = some (.tup [C.av 4 ChT.cells, stA x, vb b]) ∧ (b = true → C.list = chgs 0 x0 l.list T ∧ x = lastX x0 T) ∧ (b = false → C.list = []) := by
  obtain ⟨g, z, G, hJ, h⟩ := follow_loop hE l hl (loopL_eq (IR.runL E.glob (callL E) [] ir_feed_follow_L0) (compact [] 1 [2, 3, 12, 13, 14])) t 0 [] 0 gok0 rfl (by omega) (by simp)
  simp only [Int.natCast_zero, bld_nil, List.nil_append, stFo, avN] at h
  cases b with
  | false =>
    refine ⟨.nil, z, ?_, fun h => (by cases h), fun _ => rfl⟩
    rw [if_neg (by decide)] at h
    rw [hE.run rfl rfl]
    obtain ⟨g1, v, x, c, rfl | ⟨o, rfl⟩⟩ := hJ rfl
    · simp only [EvT.cells] at h
      simp -implicitDefEqProofs only [go_sem, ir_feed_follow, h, ro_ev, ro_def, ro_sg, ro_ch, ro_step]
      rfl
    · simp only [EvT.cells] at h
      simp -implicitDefEqProofs only [go_sem, ir_feed_follow, h, ro_ev, ro_def, ro_sg, ro_ch, ro_step]
      rfl
  | true =>
    rw [if_pos rfl] at h
    generalize hC : chgs 0 x0 l.list T = C at h ⊢
    refine ⟨slOf C, lastX x0 T, ?_, fun _ => ⟨slOf_list C, rfl⟩, fun h => (by cases h)⟩
    generalize lastX x0 T = X at h ⊢
    by_cases hne : C = []
    · subst hne
      simp only [bld_nil] at h
      rw [hE.run rfl rfl]
      simp -implicitDefEqProofs only [go_sem, ir_feed_follow, h, ro_ev, ro_def, ro_sg, ro_ch]
      rfl
    · simp only [bld_ne hne, List.length_cons, List.length_nil, List.cons_append, List.nil_append, Nat.zero_add] at h
      rw [slOf_ne hne, hE.run rfl rfl]
      simp -implicitDefEqProofs only [go_sem, ir_feed_follow, h, avM, take_map_all, ro_ev, ro_def, ro_sg, ro_ch]
theorem of_loop {E : Prog} (hE : Std E fns) (l : Sl EvT) (X : StT) (k : Int) (C : Sl ChT) (hC : C.list.length ≤ 60) {L : Env × Store → Option (Sig × Env × Store)}
    (hL : ∀ e st, L (e, st) = (IR.runL E.glob (callL E) [] ir_feed_Of_L0 e st).bind (seqK fun e st => L (compact [] 1 [0, 1, 4, 30, 31, 32] e st))) :
    ∀ (rest : List ChT) (i : Nat) (out : List ChT) (g : Nat), C.list.drop i = rest → i ≤ C.list.length → out.length ≤ i →
    ∃ g' : Nat, L ([(0, lv l), (1, vi k), (4, (bld 4 ChT.cells g (stFo X) out).1), (30, C.av 4 ChT.cells), (31, vi C.list.length), (32, vi i)], (bld 4 ChT.cells g (stFo X) out).2) =
      some (.exit 1, [(0, lv l), (4, (bld 4 ChT.cells g' (stFo X) (out ++ fromC k rest)).1)], (bld 4 ChT.cells g' (stFo X) (out ++ fromC k rest)).2)
  | [], i, out, g, h, hi, ho => by
    have h1 := drop_nil' h hi
    refine ⟨g, ?_⟩
    rw [hL, fromC, List.filter_nil, List.append_nil]
    by_cases hne : out = []
    · subst hne
      simp -implicitDefEqProofs only [go_sem, ir_feed_Of_L0, h1, bld_nil, ro_ev, ro_def, ro_sg, ro_ch]
    · simp -implicitDefEqProofs only [go_sem, ir_feed_Of_L0, h1, bld_ne hne, ro_ev, ro_def, ro_sg, ro_ch]
  | c :: rest, i, out, g, h, hi, ho => by
    obtain ⟨h1, h2, h3, h4, h5⟩ := drop_cons h
    have h6 := wrap_succ (i := i) (by omega)
    have hb : (out.length + 1) * 32 ≤ 140737488355328 := by omega
    by_cases cp : k ≤ c.at_
    · have e : fromC k (c :: rest) = [c] ++ fromC k rest := by unfold fromC; rw [List.filter_cons, if_pos (by simpa using cp)]; rfl
      rw [e, ← List.append_assoc]
      by_cases hne : out = []
      · subst hne
        obtain ⟨g', ih⟩ := of_loop hE l X k C hC hL rest (i + 1) [c] 0 h2 h4 (by simp)
        refine ⟨g', ?_⟩
        rw [List.nil_append, ← ih, hL]
        simp -implicitDefEqProofs only [go_sem, ir_feed_Of_L0, h1, h3, h6, ChT.cells, cp, bld_nil, bld_ne (List.cons_ne_nil _ _), ro_ev, ro_def, ro_sg, ro_ch, Int.natCast_nonneg]
      · obtain ⟨g', ih⟩ := of_loop hE l X k C hC hL rest (i + 1) (out ++ [c]) (g + 1) h2 h4 (by simp; omega)
        refine ⟨g', ?_⟩
        rw [← ih, hL]
        simp -implicitDefEqProofs only [go_sem, ir_feed_Of_L0, h1, h3, h6, ChT.cells, cp, bld_ne hne, bld_ne (ne_app out c), hb, ro_ev, ro_def, ro_sg, ro_ch, Int.natCast_nonneg]
    · have e : fromC k (c :: rest) = fromC k rest := by unfold fromC; rw [List.filter_cons, if_neg (by simpa using cp)]
      obtain ⟨g', ih⟩ := of_loop hE l X k C hC hL rest (i + 1) out g h2 h4 (by omega)
      refine ⟨g', ?_⟩
      rw [e, ← ih, hL]
      by_cases hne : out = []
      · subst hne
        simp -implicitDefEqProofs only [go_sem, ir_feed_Of_L0, h1, h3, h6, ChT.cells, cp, bld_nil, ro_ev, ro_def, ro_sg, ro_ch, Int.natCast_nonneg]
      · simp -implicitDefEqProofs only [go_sem, ir_feed_Of_L0, h1, h3, h6, ChT.cells, cp, bld_ne hne, ro_ev, ro_def, ro_sg, ro_ch, Int.natCast_nonneg]
def ofA (C : List ChT) (n e : Int) : AV := .tup [(slOf C).av 4 ChT.cells, vi n, vi e]
section
variable {E : Prog} (hE : Std E fns) (l : Sl EvT) (C : Sl ChT) (X : StT)
include hE
theorem fn_of_bad (h : callP E f_feed_follow [lv l] = some (.tup [C.av 4 ChT.cells, stA X, vb false])) (k : Int) : callP E f_feed_Of [lv l, vi k] = some (ofA [] 0 3) := by
  rw [hE.run rfl rfl]
  simp -implicitDefEqProofs only [go_sem, ir_feed_Of, h, ro_ev, ro_def, ro_sg, ro_ch]
  rfl
theorem fn_of (h : callP E f_feed_follow [lv l] = some (.tup [C.av 4 ChT.cells, stA X, vb true])) (hC : C.list.length ≤ 60) (k : Int) (hk : ¬ (k < 0 ∨ (l.list.length : Int) < k)) : callP E f_feed_Of [lv l, vi k] = some (ofA (fromC k C.list) l.list.length 0) := by
  obtain ⟨g, hl⟩ := of_loop hE l X k C hC (loopL_eq (IR.runL E.glob (callL E) [] ir_feed_Of_L0) (compact [] 1 [0, 1, 4, 30, 31, 32])) C.list 0 [] 0 rfl (by omega) (by simp)
  simp only [Int.natCast_zero, bld_nil, List.nil_append, stFo] at hl
  generalize fromC k C.list = D at *
  rw [ofA, hE.run rfl rfl]
  by_cases hne : D = []
  · subst hne
    simp only [bld_nil] at hl
    simp -implicitDefEqProofs only [go_sem, ir_feed_Of, h, gor_b, Bool.or_eq_true, hk, hl, ro_ev, ro_def, ro_sg, ro_ch]
    rfl
  · simp only [bld_ne hne, List.length_cons, List.length_nil, List.cons_append, List.nil_append, Nat.zero_add] at hl
    rw [slOf_ne hne]
    simp -implicitDefEqProofs only [go_sem, ir_feed_Of, h, gor_b, Bool.or_eq_true, hk, hl, avM, take_map_all, ro_ev, ro_def, ro_sg, ro_ch]
end
structure PhT where
  saga : Int
  phase : Int
def PhT.cells (p : PhT) : List AV := [vi p.saga, vi p.phase]
theorem ro_ph : Ro PhT.cells := fun _ => rfl
def nowS (S : List SgT) : List PhT := S.map fun s => ⟨s.id, s.phase⟩
theorem now_loop {E : Prog} (hE : Std E fns) (X : StT) (hX : X.sagas.list.length ≤ 1048576) {L : Env × Store → Option (Sig × Env × Store)}
    (hL : ∀ e st, L (e, st) = (IR.runL E.glob (callL E) [] ir_feed_Now_L0 e st).bind (seqK fun e st => L (compact [] 1 [6, 18, 19, 20] e st))) :
    ∀ (rest : List SgT) (i : Nat) (out : List PhT) (g : Nat), X.sagas.list.drop i = rest → i ≤ X.sagas.list.length → out.length ≤ i →
    ∃ g' : Nat, L ([(6, (bld 2 PhT.cells g (stFo X) out).1), (18, X.sagas.av 9 SgT.cells), (19, vi X.sagas.list.length), (20, vi i)], (bld 2 PhT.cells g (stFo X) out).2) =
      some (.exit 0, [(6, (bld 2 PhT.cells g' (stFo X) (out ++ nowS rest)).1)], (bld 2 PhT.cells g' (stFo X) (out ++ nowS rest)).2)
  | [], i, out, g, h, hi, ho => by
    have h1 := drop_nil' h hi
    refine ⟨g, ?_⟩
    rw [hL, nowS, List.map_nil, List.append_nil]
    by_cases hne : out = []
    · subst hne
      simp -implicitDefEqProofs only [go_sem, ir_feed_Now_L0, h1, bld_nil, ro_def, ro_sg, ro_ph]
    · simp -implicitDefEqProofs only [go_sem, ir_feed_Now_L0, h1, bld_ne hne, ro_def, ro_sg, ro_ph]
  | s :: rest, i, out, g, h, hi, ho => by
    obtain ⟨h1, h2, h3, h4, h5⟩ := drop_cons h
    have h6 := wrap_succ (i := i) (by omega)
    have hb : (out.length + 1) * 16 ≤ 140737488355328 := by omega
    have e : nowS (s :: rest) = [⟨s.id, s.phase⟩] ++ nowS rest := rfl
    rw [e, ← List.append_assoc]
    by_cases hne : out = []
    · subst hne
      obtain ⟨g', ih⟩ := now_loop hE X hX hL rest (i + 1) [⟨s.id, s.phase⟩] 0 h2 h4 (by simp)
      refine ⟨g', ?_⟩
      rw [List.nil_append, ← ih, hL]
      simp -implicitDefEqProofs only [go_sem, ir_feed_Now_L0, h1, h3, h6, SgT.cells, PhT.cells, bld_nil, bld_ne (List.cons_ne_nil _ _), ro_def, ro_sg, ro_ph, Int.natCast_nonneg]
    · obtain ⟨g', ih⟩ := now_loop hE X hX hL rest (i + 1) (out ++ [⟨s.id, s.phase⟩]) (g + 1) h2 h4 (by simp; omega)
      refine ⟨g', ?_⟩
      rw [← ih, hL]
      simp -implicitDefEqProofs only [go_sem, ir_feed_Now_L0, h1, h3, h6, SgT.cells, PhT.cells, bld_ne hne, bld_ne (ne_app out _), hb, ro_def, ro_sg, ro_ph, Int.natCast_nonneg]
def nowA (P : List PhT) : AV := (slOf P).av 2 PhT.cells
theorem fn_now {E : Prog} (hE : Std E fns) (l : Sl EvT) (C : Sl ChT) (X : StT) (hX : X.sagas.list.length ≤ 1048576) (h : callP E f_feed_follow [lv l] = some (.tup [C.av 4 ChT.cells, stA X, vb true])) : callP E f_feed_Now [lv l] = some (nowA (nowS X.sagas.list)) := by
  obtain ⟨g, hl⟩ := now_loop hE X hX (loopL_eq (IR.runL E.glob (callL E) [] ir_feed_Now_L0) (compact [] 1 [6, 18, 19, 20])) X.sagas.list 0 [] 0 rfl (by omega) (by simp)
  simp only [Int.natCast_zero, bld_nil, List.nil_append, stFo] at hl
  generalize nowS X.sagas.list = D at *
  rw [nowA, hE.run rfl rfl]
  by_cases hne : D = []
  · subst hne
    simp only [bld_nil] at hl
    simp -implicitDefEqProofs only [go_sem, ir_feed_Now, h, hl, ro_ev, ro_def, ro_sg, ro_ch, ro_ph]
    rfl
  · simp only [bld_ne hne, List.length_cons, List.length_nil, List.cons_append, List.nil_append, Nat.zero_add] at hl
    rw [slOf_ne hne]
    simp -implicitDefEqProofs only [go_sem, ir_feed_Now, h, hl, avM, take_map_all, ro_ev, ro_def, ro_sg, ro_ch, ro_ph]
def StT.cells (x : StT) : List AV := [x.defs.av 3 DefT.cells, x.sagas.av 9 SgT.cells, vi x.next]
def CmT.cells (c : CmT) : List AV := [vi c.saga, vi c.step, vb c.undo, vi c.try_, vs c.party, vs c.key]
abbrev z3 : Ob := .box [.v (.slice none 0 0), .v (.slice none 0 0), .v (.int .i64 0)]
end Go.Proofs.YtjidmpcgkcaeaaaGreatDoor.Ev
