import Derived.Test.YtjidmpcgkcaeaaaGreatDoorEvSa
import Derived.Test.YtjidmpcgkcaeaaaGreatDoorEvFd7
import Derived.Test.YtjidmpcgkcaeaaaGreatDoorEvSs4
import Derived.Test.YtjidmpcgkcaeaaaGreatDoorEvCopy
set_option linter.unusedVariables false
set_option linter.unusedSectionVars false
set_option linter.unusedSimpArgs false
namespace Go.Proofs.YtjidmpcgkcaeaaaGreatDoor.Ev
attribute [local congr] bind_congr_head
attribute [local go_sem] AV.cells AV.tuple elems boxQ callN_any compact_same compact_new aggOf
def upF (φ : Int → Int) (k p : Int) : Int → Int := fun j => if j = k then p else φ j
inductive Chain : (Int → Int) → List ChT → (Int → Int) → Prop
  | nil {φ : Int → Int} : Chain φ [] φ
  | cons {φ φ' : Int → Int} {c : ChT} {C : List ChT} (h : c.was = φ c.saga) (t : Chain (upF φ c.saga c.is_) C φ') : Chain φ (c :: C) φ'
theorem chain_app {φ ψ : Int → Int} {A B : List ChT} {χ : Int → Int} (h : Chain φ A ψ) (h2 : Chain ψ B χ) : Chain φ (A ++ B) χ := by
  induction h with
  | nil => exact h2
  | cons h _ ih => exact .cons h (ih h2)
theorem phS_in {S : List SgT} (hs : S.Pairwise ltI) {s : SgT} (h : s ∈ S) : phS S s.id = s.phase := by
  rcases fidx_cases (isId s.id) S 0 with ⟨_, h2⟩ | ⟨k, z, h1, h2, h3, _⟩
  · have := h2 s h
    rw [decide_eq_false_iff_not] at this
    exact absurd rfl this
  · rw [Nat.zero_add] at h1
    have hz : z.id = s.id := of_decide_eq_true h3
    have hzs : z = s := by
      obtain ⟨i, hi⟩ := List.getElem?_of_mem h
      obtain ⟨a1, e1⟩ := List.getElem?_eq_some_iff.1 h2
      obtain ⟨a2, e2⟩ := List.getElem?_eq_some_iff.1 hi
      have hp := List.pairwise_iff_getElem.1 hs
      rcases Nat.lt_trichotomy k i with h4 | h4 | h4
      · have := hp k i a1 a2 h4
        rw [e1, e2] at this
        simp only [ltI] at this; omega
      · subst h4; rw [← e1, ← e2]
      · have := hp i k a2 a1 h4
        rw [e1, e2] at this
        simp only [ltI] at this; omega
    unfold phS
    rw [sgAt_yes h1 h2, if_pos rfl, hzs]
theorem phS_out {S : List SgT} {k : Int} (h : ∀ s, s ∈ S → s.id ≠ k) : phS S k = -1 := by
  rcases fidx_cases (isId k) S 0 with ⟨h1, _⟩ | ⟨i, z, h1, h2, h3, _⟩
  · unfold phS
    rw [sgAt_no h1, if_neg (by decide)]
  · exact absurd (of_decide_eq_true h3) (h z (List.mem_of_getElem? h2))
theorem ph_frame {x x' : StT} {v : EvT} {e : Int} (hx : XOK x) (hx' : XOK x') (g : Grow x x' v e) {k : Int} (hk : k ≠ v.saga) : phS x'.sagas.list k = phS x.sagas.list k := by
  by_cases h : ∃ s, s ∈ x.sagas.list ∧ s.id = k
  · obtain ⟨s, hs, rfl⟩ := h
    rw [phS_in hx.ss hs, phS_in hx'.ss (g.s s hs hk)]
  · rw [phS_out fun s hs hid => h ⟨s, hs, hid⟩, phS_out fun s hs hid => h ⟨s, g.t s hs (by rw [hid]; exact hk), hid⟩]
theorem chain_one {x x' : StT} {v : EvT} (hx : XOK x) (hx' : XOK x') (g : Grow x x' v 0) (i : Nat) : Chain (phS x.sagas.list) (chg i x x' v) (phS x'.sagas.list) := by
  by_cases c : v.kind = 0 ∨ phS x.sagas.list v.saga = phS x'.sagas.list v.saga
  · rw [chg_no c]
    have : phS x.sagas.list = phS x'.sagas.list := by
      funext k
      rcases c with c | c
      · rw [g.z c]
      · by_cases hk : k = v.saga
        · subst hk; exact c
        · exact (ph_frame hx hx' g hk).symm
    rw [this]
    exact .nil
  · have c1 : ¬ v.kind = 0 := fun h => c (.inl h)
    have c2 : ¬ phS x.sagas.list v.saga = phS x'.sagas.list v.saga := fun h => c (.inr h)
    rw [chg_yes c1 c2]
    refine .cons rfl ?_
    have : upF (phS x.sagas.list) v.saga (phS x'.sagas.list v.saga) = phS x'.sagas.list := by
      funext k
      unfold upF
      split
      · rename_i hk; rw [hk]
      · rename_i hk; exact (ph_frame hx hx' g hk).symm
    show Chain (upF (phS x.sagas.list) v.saga (phS x'.sagas.list v.saga)) [] _
    rw [this]
    exact .nil
theorem chain_steps {E : Prog} {x y : StT} {l : List EvT} {T : List (StT × StT × CmT)} {b : Bool} (t : Steps E x y l T b) : ∀ i : Nat, XOK x → Chain (phS x.sagas.list) (chgs i x l T) (phS (lastX x T).sagas.list) := by
  induction t with
  | nil => intro i hx; rw [chgs, lastX]; exact .nil; intro _ _ _; simp
  | stop => intro i hx; rw [chgs, lastX]; exact .nil; intro _ _ _; simp
  | @go x y v r x' y' c T b d1 d2 q ok gr t ih =>
    intro i hx
    rw [chgs, lastX]
    exact chain_app (chain_one hx ok gr i) (ih (i + 1) ok)
abbrev ltP (a b : PhT) : Prop := a.saga < b.saga
structure PhOK (P : List PhT) (φ : Int → Int) : Prop where
  s : P.Pairwise ltP
  i : ∀ p, p ∈ P → φ p.saga = p.phase ∧ p.phase ≠ -1
  o : ∀ k, (∀ p, p ∈ P → p.saga ≠ k) → φ k = -1
theorem pok_now {x : StT} (hx : XOK x) : PhOK (nowS x.sagas.list) (phS x.sagas.list) := by
  refine ⟨?_, fun p hp => ?_, fun k hk => ?_⟩
  · unfold nowS
    rw [List.pairwise_map]
    exact hx.ss
  · obtain ⟨s, hs, rfl⟩ := List.mem_map.1 hp
    obtain ⟨_, d, t, _, so⟩ := hx.sk s hs
    have := so.p0
    exact ⟨phS_in hx.ss hs, by show s.phase ≠ -1; omega⟩
  · exact phS_out fun s hs => hk ⟨s.id, s.phase⟩ (List.mem_map.2 ⟨s, hs, rfl⟩)
theorem pok_uniq {P Q : List PhT} {φ : Int → Int} (h : PhOK P φ) (h2 : PhOK Q φ) : P = Q := by
  have key : ∀ {A B : List PhT}, PhOK A φ → PhOK B φ → ∀ p, p ∈ A → p ∈ B := by
    intro A B ha hb p hp
    obtain ⟨e1, e2⟩ := ha.i p hp
    by_cases c : ∃ q, q ∈ B ∧ q.saga = p.saga
    · obtain ⟨q, hq, he⟩ := c
      have e3 := (hb.i q hq).1
      rw [he, e1] at e3
      have : q = p := by cases q; cases p; simp only at he e3; rw [he, e3]
      rw [← this]; exact hq
    · have := hb.o p.saga fun q hq he => c ⟨q, hq, he⟩
      rw [e1] at this
      exact absurd this e2
  have nd : ∀ {A : List PhT}, PhOK A φ → A.Nodup := fun ha => ha.s.imp fun hab he => by rw [he] at hab; exact absurd hab (Int.lt_irrefl _)
  have hperm : P.Perm Q := (List.perm_ext_iff_of_nodup (nd h) (nd h2)).2 fun p => ⟨key h h2 p, key h2 h p⟩
  refine List.Perm.eq_of_pairwise (le := fun a b => a.saga < b.saga) (fun a b _ _ h1 h2 => absurd (Int.lt_trans h1 h2) (Int.lt_irrefl _)) h.s h2.s hperm
def lbP (n : Int) : List PhT → Nat
  | [] => 0
  | p :: r => if p.saga < n then lbP n r + 1 else 0
theorem lbP_le (n : Int) : ∀ P, lbP n P ≤ P.length
  | [] => Nat.le_refl _
  | p :: r => by unfold lbP; split; exact Nat.succ_le_succ (lbP_le n r); exact Nat.zero_le _
theorem lbP_iff {n : Int} : ∀ {P : List PhT}, P.Pairwise ltP → ∀ {i : Nat} {p : PhT}, P[i]? = some p → (i < lbP n P ↔ p.saga < n)
  | [], _, i, p, h => by cases h
  | q :: r, hs, i, p, h => by
    obtain ⟨h1, h2⟩ := List.pairwise_cons.1 hs
    unfold lbP
    cases i with
    | zero =>
      simp only [List.getElem?_cons_zero, Option.some.injEq] at h
      subst h
      split <;> simp_all
    | succ i =>
      simp only [List.getElem?_cons_succ] at h
      have ih := lbP_iff (n := n) h2 h
      have hl := h1 p (List.mem_of_getElem? h)
      split
      · rw [Nat.succ_lt_succ_iff]; exact ih
      · simp only [ltP] at hl
        constructor
        · intro h; omega
        · intro h; omega
theorem lbP_there {P : List PhT} (hs : P.Pairwise ltP) {p : PhT} (hp : p ∈ P) : P[lbP p.saga P]? = some p := by
  obtain ⟨i, hi⟩ := List.getElem?_of_mem hp
  have h1 := lbP_iff (n := p.saga) hs hi
  have hil := (List.getElem?_eq_some_iff.1 hi).1
  have hle : lbP p.saga P ≤ i := by
    rcases Nat.lt_or_ge i (lbP p.saga P) with c | c
    · exact absurd (h1.1 c) (Int.lt_irrefl _)
    · exact c
  rcases Nat.lt_or_ge (lbP p.saga P) i with c | c
  · obtain ⟨q, hq⟩ : ∃ q, P[lbP p.saga P]? = some q := ⟨_, List.getElem?_eq_getElem (by omega)⟩
    have h2 := lbP_iff (n := p.saga) hs hq
    have h3 := List.pairwise_iff_getElem.1 hs (lbP p.saga P) i (by omega) hil c
    rw [(List.getElem?_eq_some_iff.1 hq).2, (List.getElem?_eq_some_iff.1 hi).2] at h3
    have := h2.2 h3
    omega
  · rw [show lbP p.saga P = i by omega]; exact hi
theorem lbP_no {P : List PhT} (hs : P.Pairwise ltP) {k : Int} (h : ∀ p, p ∈ P → p.saga ≠ k) : ∀ p, p ∈ P.drop (lbP k P) → k < p.saga := by
  intro p hp
  obtain ⟨i, hi⟩ := List.getElem?_of_mem hp
  rw [List.getElem?_drop] at hi
  have h1 := lbP_iff (n := k) hs hi
  have h2 := h p (List.mem_of_getElem? hi)
  have h3 : ¬ p.saga < k := fun c => by have := h1.2 c; omega
  omega
theorem lbP_lt {P : List PhT} (hs : P.Pairwise ltP) {k : Int} : ∀ p, p ∈ P.take (lbP k P) → p.saga < k := by
  intro p hp
  obtain ⟨i, hi⟩ := List.getElem?_of_mem hp
  have hl := (List.getElem?_eq_some_iff.1 hi).1
  rw [List.length_take] at hl
  rw [List.getElem?_take] at hi
  split at hi
  · exact (lbP_iff hs hi).1 (by omega)
  · cases hi
def insP (P : List PhT) (c : ChT) : List PhT := P.take (lbP c.saga P) ++ ⟨c.saga, c.is_⟩ :: P.drop (lbP c.saga P)
theorem insP_mem {P : List PhT} {c : ChT} {p : PhT} : p ∈ insP P c ↔ p = ⟨c.saga, c.is_⟩ ∨ p ∈ P := by
  unfold insP
  rw [List.mem_append, List.mem_cons]
  constructor
  · rintro (h | h | h)
    · exact .inr (List.mem_of_mem_take h)
    · exact .inl h
    · exact .inr (List.mem_of_mem_drop h)
  · rintro (h | h)
    · exact .inr (.inl h)
    · rw [← List.take_append_drop (lbP c.saga P) P] at h
      rcases List.mem_append.1 h with h | h
      · exact .inl h
      · exact .inr (.inr h)
theorem pok_ins {P : List PhT} {φ : Int → Int} (h : PhOK P φ) (c : ChT) (hn : ∀ p, p ∈ P → p.saga ≠ c.saga) (hi : c.is_ ≠ -1) : PhOK (insP P c) (upF φ c.saga c.is_) := by
  refine ⟨?_, fun p hp => ?_, fun k hk => ?_⟩
  · unfold insP
    rw [List.pairwise_append, List.pairwise_cons]
    refine ⟨h.s.sublist (List.take_sublist _ _), ⟨fun p hp => lbP_no h.s hn p hp, h.s.sublist (List.drop_sublist _ _)⟩, fun a ha b hb => ?_⟩
    have h1 := lbP_lt h.s a ha
    rcases List.mem_cons.1 hb with rfl | hb
    · exact h1
    · exact Int.lt_trans h1 (lbP_no h.s hn b hb)
  · rcases insP_mem.1 hp with rfl | hp
    · exact ⟨by simp [upF], hi⟩
    · refine ⟨?_, (h.i p hp).2⟩
      unfold upF
      rw [if_neg (hn p hp)]
      exact (h.i p hp).1
  · have h1 : k ≠ c.saga := fun e => hk ⟨c.saga, c.is_⟩ (insP_mem.2 (.inl rfl)) e.symm
    unfold upF
    rw [if_neg h1]
    exact h.o k fun p hp => hk p (insP_mem.2 (.inr hp))
theorem pok_del {P : List PhT} {φ : Int → Int} (h : PhOK P φ) {k : Nat} {p : PhT} (hp : P[k]? = some p) : PhOK (P.take k ++ P.drop (k + 1)) (upF φ p.saga (-1)) := by
  have hsub : (P.take k ++ P.drop (k + 1)).Sublist P := cut_sub P k
  have hout : ∀ q, q ∈ P.take k ++ P.drop (k + 1) → q.saga ≠ p.saga := by
    intro q hq he
    rw [← List.eraseIdx_eq_take_drop_succ] at hq
    obtain ⟨i, hi, hq2⟩ := List.mem_eraseIdx_iff_getElem?.1 hq
    obtain ⟨a1, e1⟩ := List.getElem?_eq_some_iff.1 hp
    obtain ⟨a2, e2⟩ := List.getElem?_eq_some_iff.1 hq2
    have hpw := List.pairwise_iff_getElem.1 h.s
    rcases Nat.lt_or_gt_of_ne hi with c | c
    · have := hpw i k a2 a1 c
      rw [e1, e2] at this
      simp only [ltP] at this; omega
    · have := hpw k i a1 a2 c
      rw [e1, e2] at this
      simp only [ltP] at this; omega
  refine ⟨h.s.sublist hsub, fun q hq => ⟨?_, (h.i q (hsub.mem hq)).2⟩, fun j hj => ?_⟩
  · unfold upF
    rw [if_neg (hout q hq)]
    exact (h.i q (hsub.mem hq)).1
  · unfold upF
    split
    · rfl
    · rename_i hne
      refine h.o j fun q hq he => ?_
      refine hj q ?_ he
      rw [← List.eraseIdx_eq_take_drop_succ]
      obtain ⟨i, hi⟩ := List.getElem?_of_mem hq
      refine List.mem_eraseIdx_iff_getElem?.2 ⟨i, fun e => ?_, hi⟩
      subst e
      rw [hp] at hi
      cases hi
      exact hne he.symm
theorem pok_set {P : List PhT} {φ : Int → Int} (h : PhOK P φ) {k : Nat} {p : PhT} (hp : P[k]? = some p) (n : Int) (hn : n ≠ -1) : PhOK (P.set k ⟨p.saga, n⟩) (upF φ p.saga n) := by
  have hmap : (P.set k ⟨p.saga, n⟩).map (·.saga) = P.map (·.saga) := by
    rw [List.map_set]
    apply List.ext_getElem?
    intro i
    rw [List.getElem?_set]
    split
    · rename_i c; subst c
      rw [List.getElem?_map, hp]
      have := (List.getElem?_eq_some_iff.1 hp).1
      simp [this]
    · rfl
  refine ⟨?_, fun q hq => ?_, fun j hj => ?_⟩
  · have h1 : (P.map (·.saga)).Pairwise (· < ·) := List.pairwise_map.2 h.s
    rw [← hmap] at h1
    have h3 := List.pairwise_map.1 h1
    exact h3
  · obtain ⟨i, hi⟩ := List.getElem?_of_mem hq
    rw [List.getElem?_set] at hi
    split at hi
    · split at hi
      · cases hi
        exact ⟨by simp [upF], hn⟩
      · cases hi
    · rename_i hne
      have hm := List.mem_of_getElem? hi
      refine ⟨?_, (h.i q hm).2⟩
      unfold upF
      rw [if_neg]
      · exact (h.i q hm).1
      · intro he
        obtain ⟨a1, e1⟩ := List.getElem?_eq_some_iff.1 hp
        obtain ⟨a2, e2⟩ := List.getElem?_eq_some_iff.1 hi
        have hpw := List.pairwise_iff_getElem.1 h.s
        rcases Nat.lt_or_gt_of_ne hne with c | c
        · have := hpw k i a1 a2 c
          rw [e1, e2] at this
          simp only [ltP] at this; omega
        · have := hpw i k a2 a1 c
          rw [e1, e2] at this
          simp only [ltP] at this; omega
  · have hs : ∀ q, q ∈ P → q.saga ≠ j := by
      intro q hq he
      have : q.saga ∈ P.map (·.saga) := List.mem_map.2 ⟨q, hq, rfl⟩
      rw [← hmap] at this
      obtain ⟨u, hu, hue⟩ := List.mem_map.1 this
      exact hj u hu (by rw [hue]; exact he)
    unfold upF
    rw [if_neg fun e => hs p (List.mem_of_getElem? hp) e.symm]
    exact h.o j hs
def cmpS (a b : Int) : Int := if a < b then -1 else if b < a then 1 else 0
theorem fn_nan {E : Prog} (hE : Std E fns) (a : Int) : callP E f_cmp_isNaN_int [vi a] = some (vb false) := by
  rw [hE.run rfl rfl]
  simp -implicitDefEqProofs only [go_sem, ir_cmp_isNaN_int]
theorem fn_compare {E : Prog} (hE : Std E fns) (a b : Int) : callP E f_cmp_Compare_int [vi a, vi b] = some (vi (cmpS a b)) := by
  have h1 := fn_nan hE a
  have h2 := fn_nan hE b
  rw [hE.run rfl rfl]
  unfold cmpS
  by_cases c1 : a < b
  · simp -implicitDefEqProofs only [go_sem, ir_cmp_Compare_int, h1, h2, c1]
  · by_cases c2 : b < a
    · simp -implicitDefEqProofs only [go_sem, ir_cmp_Compare_int, h1, h2, c1, c2]
    · simp -implicitDefEqProofs only [go_sem, ir_cmp_Compare_int, h1, h2, c1, c2]
theorem fn_fdFind1 {E : Prog} (hE : Std E fns) (p : PhT) (n : Int) : callL E f_feed_find_1 [.agg p.cells, vi n] [] [] = some (vi (cmpS p.saga n), []) := by
  have h := fn_compare hE p.saga n
  rw [hE.runN rfl rfl]
  simp -implicitDefEqProofs only [go_sem, ir_feed_find_1, PhT.cells, h]
theorem bs_loop {E : Prog} (hE : Std E fns) {L : Env × Store → Option (Sig × Env × Store)} (l : Sl PhT) (hl : l.list.length ≤ 1000) (n : Int) (hs : l.list.Pairwise ltP)
    (hL : ∀ e st, L (e, st) = (IR.runL E.glob (callL E) [] ir_slices_BinarySearchFunc_api_Phased_api_Phased_int_L0 e st).bind (seqK fun e st => L (compact [] 0 [0, 1, 2, 8, 9, 10] e st))) :
    ∀ (d i j : Nat), j - i ≤ d → i ≤ lbP n l.list → lbP n l.list ≤ j → j ≤ l.list.length →
    L ([(0, l.av 2 PhT.cells), (1, vi n), (2, .fn f_feed_find_1 []), (8, vi l.list.length), (9, vi i), (10, vi j)], []) = some (.exit 0, [(0, l.av 2 PhT.cells), (1, vi n), (2, .fn f_feed_find_1 []), (8, vi l.list.length), (9, vi (lbP n l.list))], [])
  | d, i, j, hd, h1, h2, h3 => by
    by_cases c : i < j
    · obtain ⟨x, hx⟩ : ∃ x, l.list[(i + j) / 2]? = some x := ⟨_, List.getElem?_eq_getElem (by omega)⟩
      have hm := mid_wrap (i := i) (j := j) (by omega)
      have hf := fn_fdFind1 hE x n
      simp only [PhT.cells] at hf
      have h6 := wrap_succ (i := (i + j) / 2) (by omega)
      have hx2 := lbP_iff (n := n) hs hx
      have c' : ((i : Int) < (j : Int)) = True := eq_true (by omega)
      cases d with
      | zero => omega
      | succ d =>
        rw [hL]
        by_cases c2 : x.saga < n
        · have e : cmpS x.saga n = -1 := if_pos c2
          rw [e] at hf
          have ih := bs_loop hE l hl n hs hL d ((i + j) / 2 + 1) j (by omega) (by have := hx2.2 c2; omega) h2 h3
          simp -implicitDefEqProofs only [go_sem, ir_slices_BinarySearchFunc_api_Phased_api_Phased_int_L0, PhT.cells, no10, hm, hx, hf, h6, c', ro_ph, ih]
        · have e : (cmpS x.saga n < 0) = False := eq_false (by unfold cmpS; rw [if_neg c2]; split <;> omega)
          have ih := bs_loop hE l hl n hs hL d i ((i + j) / 2) (by omega) h1 (by
            rcases Nat.lt_or_ge ((i + j) / 2) (lbP n l.list) with q | q
            · exact absurd (hx2.1 q) c2
            · exact q) (by omega)
          simp -implicitDefEqProofs only [go_sem, ir_slices_BinarySearchFunc_api_Phased_api_Phased_int_L0, PhT.cells, no10, hm, hx, hf, h6, c', e, ro_ph, ih]
    · have : i = lbP n l.list := by omega
      subst this
      have c' : (((lbP n l.list : Nat) : Int) < (j : Int)) = False := eq_false (by omega)
      rw [hL]
      simp -implicitDefEqProofs only [go_sem, ir_slices_BinarySearchFunc_api_Phased_api_Phased_int_L0, c', ro_ph]
def atP (P : List PhT) (n : Int) : Bool := match P[lbP n P]? with | some p => decide (p.saga = n) | none => false
theorem fn_search {E : Prog} (hE : Std E fns) (l : Sl PhT) (hl : l.list.length ≤ 1000) (n : Int) (hs : l.list.Pairwise ltP) :
    callL E f_slices_BinarySearchFunc_api_Phased_api_Phased_int [l.av 2 PhT.cells, vi n, .fn f_feed_find_1 []] [] [] = some (.tup [vi (lbP n l.list), vb (atP l.list n)], []) := by
  have ih := bs_loop hE l hl n hs (loopL_eq (IR.runL E.glob (callL E) [] ir_slices_BinarySearchFunc_api_Phased_api_Phased_int_L0) (compact [] 0 [0, 1, 2, 8, 9, 10])) l.list.length 0 l.list.length (by omega) (by omega) (lbP_le _ _) (Nat.le_refl _)
  simp only [Int.natCast_zero] at ih
  have hb := lbP_le n l.list
  rw [hE.runN rfl rfl]
  unfold atP
  by_cases c : lbP n l.list < l.list.length
  · obtain ⟨x, hx⟩ : ∃ x, l.list[lbP n l.list]? = some x := ⟨_, List.getElem?_eq_getElem c⟩
    have c' : (((lbP n l.list : Nat) : Int) < (l.list.length : Int)) = True := eq_true (by omega)
    have hf := fn_fdFind1 hE x n
    simp only [PhT.cells] at hf
    have e : decide (cmpS x.saga n = 0) = decide (x.saga = n) := by
      unfold cmpS
      by_cases q1 : x.saga < n
      · simp [q1, show ¬ x.saga = n by omega]
      · by_cases q2 : n < x.saga
        · simp [q1, q2, show ¬ x.saga = n by omega]
        · simp [q1, q2, show x.saga = n by omega]
    simp -implicitDefEqProofs only [go_sem, ir_slices_BinarySearchFunc_api_Phased_api_Phased_int, PhT.cells, ih, c', hx, hf, e, ro_ph]
  · have c' : (((lbP n l.list : Nat) : Int) < (l.list.length : Int)) = False := eq_false (by omega)
    have hx : l.list[lbP n l.list]? = none := List.getElem?_eq_none (by omega)
    simp -implicitDefEqProofs only [go_sem, ir_slices_BinarySearchFunc_api_Phased_api_Phased_int, PhT.cells, ih, c', hx, ro_ph]
theorem fn_fdFind {E : Prog} (hE : Std E fns) (l : Sl PhT) (hl : l.list.length ≤ 1000) (n : Int) (hs : l.list.Pairwise ltP) :
    callP E f_feed_find [l.av 2 PhT.cells, vi n] = some (.tup [vi (lbP n l.list), vb (atP l.list n)]) := by
  have h := fn_search hE l hl n hs
  rw [hE.run rfl rfl]
  simp -implicitDefEqProofs only [go_sem, ir_feed_find, h, ro_ph]
theorem rises_loop {E : Prog} (hE : Std E fns) (l : Sl PhT) (hl : l.list.length ≤ 1000) (hs : l.list.Pairwise ltP) {L : Env × Store → Option (Sig × Env × Store)}
    (hL : ∀ e st, L (e, st) = (IR.runL E.glob (callL E) [] ir_feed_rises_L0 e st).bind (seqK fun e st => L (compact [] 0 [0, 3] e st))) :
    ∀ (rest : List PhT) (i : Nat), l.list.drop (i + 1) = rest → L ([(0, l.av 2 PhT.cells), (3, vi ((i + 1 : Nat) : Int))], []) = some (.exit 0, [], [])
  | [], i, h => by
    have h1 : ¬ ((i + 1 : Nat) : Int) < (l.list.length : Int) := by
      have := List.drop_eq_nil_iff.1 h
      omega
    rw [hL]
    simp -implicitDefEqProofs only [go_sem, ir_feed_rises_L0, h1]
  | x :: rest, i, h => by
    obtain ⟨h1, h2, h3, h4, h5⟩ := drop_cons h
    obtain ⟨y, hy⟩ := pred_at h
    have h6 := wrap_succ (i := i + 1) (by omega)
    have h7 := (pred_i i).resolve_right (by omega)
    have hr : ltP y x := pw_at hs hy h1
    have c : ¬ x.saga ≤ y.saga := by simp only [ltP] at hr; omega
    have ih := rises_loop hE l hl hs hL rest (i + 1) h2
    rw [hL]
    simp -implicitDefEqProofs only [go_sem, ir_feed_rises_L0, h1, h3, hy, h6, h7, c, PhT.cells, ih, ro_ph, Int.natCast_nonneg]
theorem fn_rises {E : Prog} (hE : Std E fns) (l : Sl PhT) (hl : l.list.length ≤ 1000) (hs : l.list.Pairwise ltP) : callP E f_feed_rises [l.av 2 PhT.cells] = some (vb true) := by
  have h := rises_loop hE l hl hs (loopL_eq (IR.runL E.glob (callL E) [] ir_feed_rises_L0) (compact [] 0 [0, 3])) (l.list.drop 1) 0 rfl
  simp only [Nat.zero_add, Int.natCast_one] at h
  rw [hE.run rfl rfl]
  simp -implicitDefEqProofs only [go_sem, ir_feed_rises, h, ro_ph]
theorem all_ph (xs : List PhT) : ((xs.map PhT.cells).all fun c => c.length == 2) = true := by
  simp only [List.all_map, List.all_eq_true]
  intro x _
  rfl
inductive OwP
  | a
  | b (g : Nat) (P : List PhT)
def OwP.P : OwP → List PhT
  | .a => []
  | .b _ P => P
def OwP.av : OwP → AV
  | .a => nilS
  | .b g P => .own 0 g 0 P.length
def OwP.sto : OwP → Store
  | .a => []
  | .b g P => [.row 2 g (P.map PhT.cells) false]
def OwP.sl : OwP → Sl PhT
  | .a => .nil
  | .b _ P => .mk P
theorem fn_clonePh {E : Prog} (hE : Std E fns) (s : Sl PhT) (h : s.list.length ≤ 1000) : ∃ w : OwP, callL E f_slices_Clone_api_Phased_api_Phased [s.av 2 PhT.cells] [] [] = some (w.av, w.sto) ∧ w.P = s.list := by
  cases s with
  | nil =>
    refine ⟨.a, ?_, rfl⟩
    rw [hE.runN rfl rfl]
    simp -implicitDefEqProofs only [go_sem, ir_slices_Clone_api_Phased_api_Phased, avN, OwP.av, OwP.sto]
  | mk xs =>
    refine ⟨.b 1 xs, ?_, rfl⟩
    simp only [Sl.list] at h
    have h' : xs.length * 16 ≤ 140737488355328 := by omega
    rw [hE.runN rfl rfl]
    simp -implicitDefEqProofs only [go_sem, ir_slices_Clone_api_Phased_api_Phased, avM, OwP.av, OwP.sto, all_ph, h', ro_ph]
abbrev IPK (E : Prog) : Prop := E.prim f_slices_Insert_api_Phased_api_Phased = some (pInsert 2 16)
abbrev DPK (E : Prog) : Prop := E.prim f_slices_Delete_api_Phased_api_Phased = some (pDelete 2)
theorem fn_insP {E : Prog} (hi : IPK E) (xs : List PhT) (g K : Nat) (hK : K ≤ xs.length) (hx : xs.length ≤ 1000) (p : PhT) :
    callL E f_slices_Insert_api_Phased_api_Phased [.own 0 g 0 xs.length, vi K, .sl 2 [p.cells]] [] [.row 2 g (xs.map PhT.cells) false] = some (.own 0 (g + 1) 0 (xs.length + 1), [.row 2 (g + 1) ((xs.take K ++ p :: xs.drop K).map PhT.cells) false]) := by
  have hr : ross [p.cells] = true := ross_map ro_ph 0 [p]
  have hl : ([p.cells].all fun c => c.length == 2) = true := rfl
  rw [call_prim hi]
  simp only [pInsert, List.getElem?_cons_zero]
  rw [if_pos ⟨trivial, trivial, trivial, by simp, trivial, by omega, by omega, by simp, hl, by simp; omega, hr⟩]
  simp only [List.length_cons, List.length_nil, List.set_cons_zero, List.drop_zero, Int.toNat_natCast]
  rw [take_map_all, ← List.map_take, ← List.map_drop]
  simp only [List.map_append, List.map_cons, List.cons_append, List.nil_append]
theorem fn_insP0 {E : Prog} (hi : IPK E) (p : PhT) :
    callL E f_slices_Insert_api_Phased_api_Phased [.v (.slice none 0 0), vi 0, .sl 2 [p.cells]] [] [] = some (.own 0 0 0 1, [.row 2 0 [p.cells] false]) := by
  have hr : ross [p.cells] = true := ross_map ro_ph 0 [p]
  have hl : ([p.cells].all fun c => c.length == 2) = true := rfl
  rw [call_prim hi]
  simp only [pInsert]
  rw [if_pos ⟨trivial, by simp, hl, by simp, hr⟩]
  rfl
theorem fn_delP {E : Prog} (hd : DPK E) (g n : Nat) (l : List PhT) (h : n < l.length) (h2 : l.length ≤ 1000) :
    callL E f_slices_Delete_api_Phased_api_Phased [.own 0 g 0 l.length, vi n, vi ((n + 1 : Nat) : Int)] [] [.row 2 g (l.map PhT.cells) false] =
      some (.own 0 (g + 1) 0 (l.take n ++ l.drop (n + 1)).length, [.row 2 (g + 1) ((l.take n ++ l.drop (n + 1)).map PhT.cells) false]) := by
  rw [call_prim hd]
  have h3 : (l.take n ++ l.drop (n + 1)).length = n + (l.length - (n + 1)) := by rw [List.length_append, List.length_take, List.length_drop]; omega
  have h4 : (l.map PhT.cells).take l.length = l.map PhT.cells := List.take_of_length_le (by simp)
  simp only [pDelete, List.getElem?_cons_zero, List.drop_zero, h4, Int.toNat_natCast, Nat.zero_add, List.set_cons_zero, h3]
  rw [if_pos ⟨trivial, trivial, by simp, trivial, by omega, by omega, by omega, by omega⟩, List.map_append, List.map_take, List.map_drop]
theorem set_ph (xs : List PhT) (i : Nat) (s n : Int) : (xs.map PhT.cells).set i [vi s, vi n] = (xs.set i ⟨s, n⟩).map PhT.cells := by
  rw [List.map_set]; rfl
abbrev envA (w : OwP) (C : Sl ChT) (i : Nat) : Env := [(6, w.av), (17, C.av 4 ChT.cells), (18, vi C.list.length), (19, vi i)]
theorem atP_yes {P : List PhT} (hs : P.Pairwise ltP) {p : PhT} (hp : p ∈ P) : atP P p.saga = true := by
  unfold atP
  rw [lbP_there hs hp]
  exact decide_eq_true rfl
theorem atP_no {P : List PhT} {k : Int} (h : ∀ p, p ∈ P → p.saga ≠ k) : atP P k = false := by
  unfold atP
  split
  · rename_i p hp
    exact decide_eq_false (h p (List.mem_of_getElem? hp))
  · rfl
section
variable {E : Prog} (hE : Std E fns) (C : Sl ChT) (hC : C.list.length ≤ 60) {L : Env × Store → Option (Sig × Env × Store)}
    (hL : ∀ e st, L (e, st) = (IR.runL E.glob (callL E) [] ir_feed_Apply_L0 e st).bind (seqK fun e st => L (compact [] 0 [6, 17, 18, 19] e st))) (i : Nat) (c : ChT) (hc : C.list[i]? = some c) (g : Nat) (P : List PhT) (hP : P.length ≤ 900) (hs : P.Pairwise ltP)
include hE hC hL hc hP hs
theorem ap_del0 (hd : DPK E) (p : PhT) (hp : p ∈ P) (hk : p.saga = c.saga) (hw : p.phase = c.was) (hi : c.is_ = -1) :
    L (envA (.b g P) C i, (OwP.b g P).sto) = L (envA (.b (g + 1) (P.take (lbP c.saga P) ++ P.drop (lbP c.saga P + 1))) C (i + 1), (OwP.b (g + 1) (P.take (lbP c.saga P) ++ P.drop (lbP c.saga P + 1))).sto) := by
  have h0 := (List.getElem?_eq_some_iff.1 hc).1
  have h3 : (i : Int) < (C.list.length : Int) := by omega
  have h6 := wrap_succ (i := i) (by omega)
  have hf := fn_fdFind hE (.mk P) (by simp only [Sl.list]; omega) c.saga hs
  have hat := atP_yes hs hp
  have hlb := lbP_there hs hp
  rw [hk] at hat hlb
  simp only [avM, Sl.list] at hf
  rw [hat] at hf
  have hlt := (List.getElem?_eq_some_iff.1 hlb).1
  have w := wrap_succ (i := lbP c.saga P) (by omega)
  have hq := fn_delP hd g (lbP c.saga P) P hlt (by omega)
  generalize P.take (lbP c.saga P) ++ P.drop (lbP c.saga P + 1) = P' at *
  obtain ⟨ca, cs, cw, ci⟩ := c
  dsimp only at *
  subst hi
  subst hk
  subst hw
  rw [hL]
  simp -implicitDefEqProofs only [go_sem, ir_feed_Apply_L0, envA, OwP.av, OwP.sto, hc, h3, h6, hf, hlb, hlt, w, hq, ias_own, set_ph, List.getElem?_map, Option.map_some, Nat.zero_add, Int.toNat_natCast, and_self, ChT.cells, PhT.cells, avM, avN, tk0, ro_ch, ro_ph, Int.natCast_nonneg]
theorem ap_set0 (p : PhT) (hp : p ∈ P) (hk : p.saga = c.saga) (hw : p.phase = c.was) (hi : ¬ c.is_ = -1) :
    L (envA (.b g P) C i, (OwP.b g P).sto) = L (envA (.b g (P.set (lbP c.saga P) ⟨c.saga, c.is_⟩)) C (i + 1), (OwP.b g (P.set (lbP c.saga P) ⟨c.saga, c.is_⟩)).sto) := by
  have h0 := (List.getElem?_eq_some_iff.1 hc).1
  have h3 : (i : Int) < (C.list.length : Int) := by omega
  have h6 := wrap_succ (i := i) (by omega)
  have hf := fn_fdFind hE (.mk P) (by simp only [Sl.list]; omega) c.saga hs
  have hat := atP_yes hs hp
  have hlb := lbP_there hs hp
  rw [hk] at hat hlb
  simp only [avM, Sl.list] at hf
  rw [hat] at hf
  have hlt := (List.getElem?_eq_some_iff.1 hlb).1
  have el : (P.set (lbP c.saga P) ⟨c.saga, c.is_⟩).length = P.length := List.length_set
  obtain ⟨ca, cs, cw, ci⟩ := c
  obtain ⟨ps, pp⟩ := p
  dsimp only at *
  subst hk
  subst hw
  rw [hL]
  simp -implicitDefEqProofs only [go_sem, ir_feed_Apply_L0, envA, OwP.av, OwP.sto, hc, h3, h6, hf, hlb, hlt, hi, el, ias_own, set_ph, List.getElem?_map, Option.map_some, Nat.zero_add, Int.toNat_natCast, and_self, ChT.cells, PhT.cells, avM, avN, tk0, ro_ch, ro_ph, Int.natCast_nonneg]
theorem ap_ins0 (hin : IPK E) (hn : ∀ p, p ∈ P → p.saga ≠ c.saga) (hw : c.was = -1) (hi : ¬ c.is_ = -1) :
    L (envA (.b g P) C i, (OwP.b g P).sto) = L (envA (.b (g + 1) (insP P c)) C (i + 1), (OwP.b (g + 1) (insP P c)).sto) := by
  have h0 := (List.getElem?_eq_some_iff.1 hc).1
  have h3 : (i : Int) < (C.list.length : Int) := by omega
  have h6 := wrap_succ (i := i) (by omega)
  have hf := fn_fdFind hE (.mk P) (by simp only [Sl.list]; omega) c.saga hs
  have hle := lbP_le c.saga P
  simp only [avM, Sl.list] at hf
  rw [atP_no hn] at hf
  have hq := fn_insP hin P g (lbP c.saga P) hle (by omega) ⟨c.saga, c.is_⟩
  have e1 : P.length + 1 = (insP P c).length := by simp only [insP, List.length_append, List.length_cons, List.length_take, List.length_drop]; omega
  rw [show P.take (lbP c.saga P) ++ (⟨c.saga, c.is_⟩ : PhT) :: P.drop (lbP c.saga P) = insP P c from rfl, e1] at hq
  simp only [PhT.cells] at hq
  generalize insP P c = P' at *
  obtain ⟨ca, cs, cw, ci⟩ := c
  dsimp only at *
  subst hw
  rw [hL]
  simp -implicitDefEqProofs only [go_sem, ir_feed_Apply_L0, envA, OwP.av, OwP.sto, hc, h3, h6, hf, hi, hq, ias_own, set_ph, List.getElem?_map, Option.map_some, Nat.zero_add, Int.toNat_natCast, and_self, ChT.cells, PhT.cells, avM, avN, tk0, ro_ch, ro_ph, Int.natCast_nonneg]
theorem ap_skip0 (hn : ∀ p, p ∈ P → p.saga ≠ c.saga) (hw : c.was = -1) (hi : c.is_ = -1) :
    L (envA (.b g P) C i, (OwP.b g P).sto) = L (envA (.b g P) C (i + 1), (OwP.b g P).sto) := by
  have h0 := (List.getElem?_eq_some_iff.1 hc).1
  have h3 : (i : Int) < (C.list.length : Int) := by omega
  have h6 := wrap_succ (i := i) (by omega)
  have hf := fn_fdFind hE (.mk P) (by simp only [Sl.list]; omega) c.saga hs
  simp only [avM, Sl.list] at hf
  rw [atP_no hn] at hf
  obtain ⟨ca, cs, cw, ci⟩ := c
  dsimp only at *
  subst hw
  subst hi
  rw [hL]
  simp -implicitDefEqProofs only [go_sem, ir_feed_Apply_L0, envA, OwP.av, OwP.sto, hc, h3, h6, hf, ias_own, set_ph, List.getElem?_map, Option.map_some, Nat.zero_add, Int.toNat_natCast, and_self, ChT.cells, PhT.cells, avM, avN, tk0, ro_ch, ro_ph, Int.natCast_nonneg]
end
section
variable {E : Prog} (hE : Std E fns) (C : Sl ChT) (hC : C.list.length ≤ 60) {L : Env × Store → Option (Sig × Env × Store)}
    (hL : ∀ e st, L (e, st) = (IR.runL E.glob (callL E) [] ir_feed_Apply_L0 e st).bind (seqK fun e st => L (compact [] 0 [6, 17, 18, 19] e st))) (i : Nat) (c : ChT) (hc : C.list[i]? = some c)
include hE hC hL hc
theorem ap_insN (hin : IPK E) (hw : c.was = -1) (hi : ¬ c.is_ = -1) : L (envA .a C i, OwP.a.sto) = L (envA (.b 0 [⟨c.saga, c.is_⟩]) C (i + 1), (OwP.b 0 [⟨c.saga, c.is_⟩]).sto) := by
  have h0 := (List.getElem?_eq_some_iff.1 hc).1
  have h3 : (i : Int) < (C.list.length : Int) := by omega
  have h6 := wrap_succ (i := i) (by omega)
  have hf := fn_fdFind hE .nil (by simp [Sl.list]) c.saga (by simp [Sl.list])
  simp only [avN, Sl.list, lbP, atP, List.getElem?_nil, Int.natCast_zero] at hf
  have hq := fn_insP0 hin ⟨c.saga, c.is_⟩
  simp only [PhT.cells] at hq
  obtain ⟨ca, cs, cw, ci⟩ := c
  dsimp only at *
  subst hw
  rw [hL]
  simp -implicitDefEqProofs only [go_sem, ir_feed_Apply_L0, envA, OwP.av, OwP.sto, hc, h3, h6, hf, hi, hq, List.map_cons, List.map_nil, List.length_cons, List.length_nil, ias_own, set_ph, List.getElem?_map, Option.map_some, Nat.zero_add, Int.toNat_natCast, and_self, ChT.cells, PhT.cells, avM, avN, tk0, ro_ch, ro_ph, Int.natCast_nonneg]
theorem ap_skipN (hw : c.was = -1) (hi : c.is_ = -1) : L (envA .a C i, OwP.a.sto) = L (envA .a C (i + 1), OwP.a.sto) := by
  have h0 := (List.getElem?_eq_some_iff.1 hc).1
  have h3 : (i : Int) < (C.list.length : Int) := by omega
  have h6 := wrap_succ (i := i) (by omega)
  have hf := fn_fdFind hE .nil (by simp [Sl.list]) c.saga (by simp [Sl.list])
  simp only [avN, Sl.list, lbP, atP, List.getElem?_nil, Int.natCast_zero] at hf
  obtain ⟨ca, cs, cw, ci⟩ := c
  dsimp only at *
  subst hw
  subst hi
  rw [hL]
  simp -implicitDefEqProofs only [go_sem, ir_feed_Apply_L0, envA, OwP.av, OwP.sto, hc, h3, h6, hf, ias_own, set_ph, List.getElem?_map, Option.map_some, Nat.zero_add, Int.toNat_natCast, and_self, ChT.cells, PhT.cells, avM, avN, tk0, ro_ch, ro_ph, Int.natCast_nonneg]
end
section
variable {E : Prog} (hE : Std E fns) (C : Sl ChT) (hC : C.list.length ≤ 60) {L : Env × Store → Option (Sig × Env × Store)}
    (hL : ∀ e st, L (e, st) = (IR.runL E.glob (callL E) [] ir_feed_Apply_L0 e st).bind (seqK fun e st => L (compact [] 1 [6, 17, 18, 19] e st))) (i : Nat) (c : ChT) (hc : C.list[i]? = some c) (g : Nat) (P : List PhT) (hP : P.length ≤ 900) (hs : P.Pairwise ltP)
include hE hC hL hc hP hs
theorem ap_del1 (hd : DPK E) (p : PhT) (hp : p ∈ P) (hk : p.saga = c.saga) (hw : p.phase = c.was) (hi : c.is_ = -1) :
    L (envA (.b g P) C i, (OwP.b g P).sto) = L (envA (.b (g + 1) (P.take (lbP c.saga P) ++ P.drop (lbP c.saga P + 1))) C (i + 1), (OwP.b (g + 1) (P.take (lbP c.saga P) ++ P.drop (lbP c.saga P + 1))).sto) := by
  have h0 := (List.getElem?_eq_some_iff.1 hc).1
  have h3 : (i : Int) < (C.list.length : Int) := by omega
  have h6 := wrap_succ (i := i) (by omega)
  have hf := fn_fdFind hE (.mk P) (by simp only [Sl.list]; omega) c.saga hs
  have hat := atP_yes hs hp
  have hlb := lbP_there hs hp
  rw [hk] at hat hlb
  simp only [avM, Sl.list] at hf
  rw [hat] at hf
  have hlt := (List.getElem?_eq_some_iff.1 hlb).1
  have w := wrap_succ (i := lbP c.saga P) (by omega)
  have hq := fn_delP hd g (lbP c.saga P) P hlt (by omega)
  generalize P.take (lbP c.saga P) ++ P.drop (lbP c.saga P + 1) = P' at *
  obtain ⟨ca, cs, cw, ci⟩ := c
  dsimp only at *
  subst hi
  subst hk
  subst hw
  rw [hL]
  simp -implicitDefEqProofs only [go_sem, ir_feed_Apply_L0, envA, OwP.av, OwP.sto, hc, h3, h6, hf, hlb, hlt, w, hq, ias_own, set_ph, List.getElem?_map, Option.map_some, Nat.zero_add, Int.toNat_natCast, and_self, ChT.cells, PhT.cells, avM, avN, tk0, ro_ch, ro_ph, Int.natCast_nonneg]
theorem ap_set1 (p : PhT) (hp : p ∈ P) (hk : p.saga = c.saga) (hw : p.phase = c.was) (hi : ¬ c.is_ = -1) :
    L (envA (.b g P) C i, (OwP.b g P).sto) = L (envA (.b g (P.set (lbP c.saga P) ⟨c.saga, c.is_⟩)) C (i + 1), (OwP.b g (P.set (lbP c.saga P) ⟨c.saga, c.is_⟩)).sto) := by
  have h0 := (List.getElem?_eq_some_iff.1 hc).1
  have h3 : (i : Int) < (C.list.length : Int) := by omega
  have h6 := wrap_succ (i := i) (by omega)
  have hf := fn_fdFind hE (.mk P) (by simp only [Sl.list]; omega) c.saga hs
  have hat := atP_yes hs hp
  have hlb := lbP_there hs hp
  rw [hk] at hat hlb
  simp only [avM, Sl.list] at hf
  rw [hat] at hf
  have hlt := (List.getElem?_eq_some_iff.1 hlb).1
  have el : (P.set (lbP c.saga P) ⟨c.saga, c.is_⟩).length = P.length := List.length_set
  obtain ⟨ca, cs, cw, ci⟩ := c
  obtain ⟨ps, pp⟩ := p
  dsimp only at *
  subst hk
  subst hw
  rw [hL]
  simp -implicitDefEqProofs only [go_sem, ir_feed_Apply_L0, envA, OwP.av, OwP.sto, hc, h3, h6, hf, hlb, hlt, hi, el, ias_own, set_ph, List.getElem?_map, Option.map_some, Nat.zero_add, Int.toNat_natCast, and_self, ChT.cells, PhT.cells, avM, avN, tk0, ro_ch, ro_ph, Int.natCast_nonneg]
theorem ap_ins1 (hin : IPK E) (hn : ∀ p, p ∈ P → p.saga ≠ c.saga) (hw : c.was = -1) (hi : ¬ c.is_ = -1) :
    L (envA (.b g P) C i, (OwP.b g P).sto) = L (envA (.b (g + 1) (insP P c)) C (i + 1), (OwP.b (g + 1) (insP P c)).sto) := by
  have h0 := (List.getElem?_eq_some_iff.1 hc).1
  have h3 : (i : Int) < (C.list.length : Int) := by omega
  have h6 := wrap_succ (i := i) (by omega)
  have hf := fn_fdFind hE (.mk P) (by simp only [Sl.list]; omega) c.saga hs
  have hle := lbP_le c.saga P
  simp only [avM, Sl.list] at hf
  rw [atP_no hn] at hf
  have hq := fn_insP hin P g (lbP c.saga P) hle (by omega) ⟨c.saga, c.is_⟩
  have e1 : P.length + 1 = (insP P c).length := by simp only [insP, List.length_append, List.length_cons, List.length_take, List.length_drop]; omega
  rw [show P.take (lbP c.saga P) ++ (⟨c.saga, c.is_⟩ : PhT) :: P.drop (lbP c.saga P) = insP P c from rfl, e1] at hq
  simp only [PhT.cells] at hq
  generalize insP P c = P' at *
  obtain ⟨ca, cs, cw, ci⟩ := c
  dsimp only at *
  subst hw
  rw [hL]
  simp -implicitDefEqProofs only [go_sem, ir_feed_Apply_L0, envA, OwP.av, OwP.sto, hc, h3, h6, hf, hi, hq, ias_own, set_ph, List.getElem?_map, Option.map_some, Nat.zero_add, Int.toNat_natCast, and_self, ChT.cells, PhT.cells, avM, avN, tk0, ro_ch, ro_ph, Int.natCast_nonneg]
theorem ap_skip1 (hn : ∀ p, p ∈ P → p.saga ≠ c.saga) (hw : c.was = -1) (hi : c.is_ = -1) :
    L (envA (.b g P) C i, (OwP.b g P).sto) = L (envA (.b g P) C (i + 1), (OwP.b g P).sto) := by
  have h0 := (List.getElem?_eq_some_iff.1 hc).1
  have h3 : (i : Int) < (C.list.length : Int) := by omega
  have h6 := wrap_succ (i := i) (by omega)
  have hf := fn_fdFind hE (.mk P) (by simp only [Sl.list]; omega) c.saga hs
  simp only [avM, Sl.list] at hf
  rw [atP_no hn] at hf
  obtain ⟨ca, cs, cw, ci⟩ := c
  dsimp only at *
  subst hw
  subst hi
  rw [hL]
  simp -implicitDefEqProofs only [go_sem, ir_feed_Apply_L0, envA, OwP.av, OwP.sto, hc, h3, h6, hf, ias_own, set_ph, List.getElem?_map, Option.map_some, Nat.zero_add, Int.toNat_natCast, and_self, ChT.cells, PhT.cells, avM, avN, tk0, ro_ch, ro_ph, Int.natCast_nonneg]
end
theorem ap_loop0 {E : Prog} (hE : Std E fns) (hin : IPK E) (hd : DPK E) (C : Sl ChT) (hC : C.list.length ≤ 60) {L : Env × Store → Option (Sig × Env × Store)}
    (hL : ∀ e st, L (e, st) = (IR.runL E.glob (callL E) [] ir_feed_Apply_L0 e st).bind (seqK fun e st => L (compact [] 0 [6, 17, 18, 19] e st))) :
    ∀ (rest : List ChT) (i : Nat) (w : OwP) (φ φ' : Int → Int), C.list.drop i = rest → i ≤ C.list.length → PhOK w.P φ → w.P.length ≤ 700 + i → Chain φ rest φ' →
    ∃ w' : OwP, PhOK w'.P φ' ∧ L (envA w C i, w.sto) = some (.exit 0, [(6, w'.av)], w'.sto)
  | [], i, w, φ, φ', h0, hi, h, hl, hc => by
    have h1 := drop_nil' h0 hi
    cases hc
    refine ⟨w, h, ?_⟩
    rw [hL]
    cases w <;> simp -implicitDefEqProofs only [go_sem, ir_feed_Apply_L0, envA, OwP.av, OwP.sto, h1, ro_ch, ro_ph]
  | c :: rest, i, w, φ, φ', h0, hi, h, hl, hc => by
    obtain ⟨h1, h2, h3, h4, h5⟩ := drop_cons h0
    obtain ⟨hch, ht⟩ : c.was = φ c.saga ∧ Chain (upF φ c.saga c.is_) rest φ' := by cases hc; exact ⟨by assumption, by assumption⟩
    cases w with
    | a =>
      have hnp : ∀ p : PhT, p ∈ ([] : List PhT) → p.saga ≠ c.saga := fun p hp => by cases hp
      have hw : c.was = -1 := by rw [hch]; exact h.o _ hnp
      by_cases hi : c.is_ = -1
      · have h' : PhOK OwP.a.P (upF φ c.saga c.is_) := by
          have e : upF φ c.saga c.is_ = φ := by
            funext k
            unfold upF
            split
            · rename_i e; rw [e, hi, ← hch, hw]
            · rfl
          rw [e]; exact h
        obtain ⟨w', k1, k2⟩ := ap_loop0 hE hin hd C hC hL rest (i + 1) .a (upF φ c.saga c.is_) φ' h2 h4 h' (by simp only [OwP.P, List.length_nil, List.length_cons]; omega) ht
        exact ⟨w', k1, by rw [ap_skipN hE C hC hL i c h1 hw hi]; exact k2⟩
      · have h' : PhOK (OwP.b 0 [⟨c.saga, c.is_⟩]).P (upF φ c.saga c.is_) := pok_ins h c hnp hi
        obtain ⟨w', k1, k2⟩ := ap_loop0 hE hin hd C hC hL rest (i + 1) (.b 0 [⟨c.saga, c.is_⟩]) (upF φ c.saga c.is_) φ' h2 h4 h' (by simp only [OwP.P, List.length_nil, List.length_cons]; omega) ht
        exact ⟨w', k1, by rw [ap_insN hE C hC hL i c h1 hin hw hi]; exact k2⟩
    | b g P =>
      simp only [OwP.P] at h hl
      have hP : P.length ≤ 900 := by omega
      by_cases hex : ∃ p, p ∈ P ∧ p.saga = c.saga
      · obtain ⟨p, hp, hk⟩ := hex
        have hph := (h.i p hp).1
        have hw : p.phase = c.was := by rw [hch, ← hk]; exact hph.symm
        have hlb := lbP_there h.s hp
        rw [hk] at hlb
        by_cases his : c.is_ = -1
        · have h' := pok_del h hlb
          rw [hk] at h'
          rw [← his] at h'
          obtain ⟨w', k1, k2⟩ := ap_loop0 hE hin hd C hC hL rest (i + 1) (.b (g + 1) (P.take (lbP c.saga P) ++ P.drop (lbP c.saga P + 1))) (upF φ c.saga c.is_) φ' h2 h4 h' (by have := (cut_sub P (lbP c.saga P)).length_le; simp only [OwP.P]; omega) ht
          exact ⟨w', k1, by rw [ap_del0 hE C hC hL i c h1 g P hP h.s hd p hp hk hw his]; exact k2⟩
        · have h' := pok_set h hlb c.is_ his
          rw [hk] at h'
          obtain ⟨w', k1, k2⟩ := ap_loop0 hE hin hd C hC hL rest (i + 1) (.b g (P.set (lbP c.saga P) ⟨c.saga, c.is_⟩)) (upF φ c.saga c.is_) φ' h2 h4 h' (by simp only [OwP.P, List.length_set]; omega) ht
          exact ⟨w', k1, by rw [ap_set0 hE C hC hL i c h1 g P hP h.s p hp hk hw his]; exact k2⟩
      · have hnp : ∀ p, p ∈ P → p.saga ≠ c.saga := fun p hp he => hex ⟨p, hp, he⟩
        have hw : c.was = -1 := by rw [hch]; exact h.o _ hnp
        by_cases his : c.is_ = -1
        · have h' : PhOK (OwP.b g P).P (upF φ c.saga c.is_) := by
            have e : upF φ c.saga c.is_ = φ := by
              funext k
              unfold upF
              split
              · rename_i e; rw [e, his, ← hch, hw]
              · rfl
            rw [e]; exact h
          obtain ⟨w', k1, k2⟩ := ap_loop0 hE hin hd C hC hL rest (i + 1) (.b g P) (upF φ c.saga c.is_) φ' h2 h4 h' (by simp only [OwP.P]; omega) ht
          exact ⟨w', k1, by rw [ap_skip0 hE C hC hL i c h1 g P hP h.s hnp hw his]; exact k2⟩
        · have h' := pok_ins h c hnp his
          have e1 : (insP P c).length = P.length + 1 := by have := lbP_le c.saga P; simp only [insP, List.length_append, List.length_cons, List.length_take, List.length_drop]; omega
          obtain ⟨w', k1, k2⟩ := ap_loop0 hE hin hd C hC hL rest (i + 1) (.b (g + 1) (insP P c)) (upF φ c.saga c.is_) φ' h2 h4 h' (by simp only [OwP.P]; omega) ht
          exact ⟨w', k1, by rw [ap_ins0 hE C hC hL i c h1 g P hP h.s hin hnp hw his]; exact k2⟩
theorem ap_loop1 {E : Prog} (hE : Std E fns) (hin : IPK E) (hd : DPK E) (C : Sl ChT) (hC : C.list.length ≤ 60) {L : Env × Store → Option (Sig × Env × Store)}
    (hL : ∀ e st, L (e, st) = (IR.runL E.glob (callL E) [] ir_feed_Apply_L0 e st).bind (seqK fun e st => L (compact [] 1 [6, 17, 18, 19] e st))) :
    ∀ (rest : List ChT) (i : Nat) (w : OwP) (φ φ' : Int → Int), (w ≠ .a) → C.list.drop i = rest → i ≤ C.list.length → PhOK w.P φ → w.P.length ≤ 700 + i → Chain φ rest φ' →
    ∃ w' : OwP, PhOK w'.P φ' ∧ L (envA w C i, w.sto) = some (.exit 0, [(6, w'.av)], w'.sto)
  | [], i, w, φ, φ', hb, h0, hi, h, hl, hc => by
    have h1 := drop_nil' h0 hi
    cases hc
    refine ⟨w, h, ?_⟩
    rw [hL]
    cases w <;> simp -implicitDefEqProofs only [go_sem, ir_feed_Apply_L0, envA, OwP.av, OwP.sto, h1, ro_ch, ro_ph]
  | c :: rest, i, w, φ, φ', hb, h0, hi, h, hl, hc => by
    obtain ⟨h1, h2, h3, h4, h5⟩ := drop_cons h0
    obtain ⟨hch, ht⟩ : c.was = φ c.saga ∧ Chain (upF φ c.saga c.is_) rest φ' := by cases hc; exact ⟨by assumption, by assumption⟩
    cases w with
    | a => cases hb rfl
    | b g P =>
      simp only [OwP.P] at h hl
      have hP : P.length ≤ 900 := by omega
      by_cases hex : ∃ p, p ∈ P ∧ p.saga = c.saga
      · obtain ⟨p, hp, hk⟩ := hex
        have hph := (h.i p hp).1
        have hw : p.phase = c.was := by rw [hch, ← hk]; exact hph.symm
        have hlb := lbP_there h.s hp
        rw [hk] at hlb
        by_cases his : c.is_ = -1
        · have h' := pok_del h hlb
          rw [hk] at h'
          rw [← his] at h'
          obtain ⟨w', k1, k2⟩ := ap_loop1 hE hin hd C hC hL rest (i + 1) (.b (g + 1) (P.take (lbP c.saga P) ++ P.drop (lbP c.saga P + 1))) (upF φ c.saga c.is_) φ' (by simp) h2 h4 h' (by have := (cut_sub P (lbP c.saga P)).length_le; simp only [OwP.P]; omega) ht
          exact ⟨w', k1, by rw [ap_del1 hE C hC hL i c h1 g P hP h.s hd p hp hk hw his]; exact k2⟩
        · have h' := pok_set h hlb c.is_ his
          rw [hk] at h'
          obtain ⟨w', k1, k2⟩ := ap_loop1 hE hin hd C hC hL rest (i + 1) (.b g (P.set (lbP c.saga P) ⟨c.saga, c.is_⟩)) (upF φ c.saga c.is_) φ' (by simp) h2 h4 h' (by simp only [OwP.P, List.length_set]; omega) ht
          exact ⟨w', k1, by rw [ap_set1 hE C hC hL i c h1 g P hP h.s p hp hk hw his]; exact k2⟩
      · have hnp : ∀ p, p ∈ P → p.saga ≠ c.saga := fun p hp he => hex ⟨p, hp, he⟩
        have hw : c.was = -1 := by rw [hch]; exact h.o _ hnp
        by_cases his : c.is_ = -1
        · have h' : PhOK (OwP.b g P).P (upF φ c.saga c.is_) := by
            have e : upF φ c.saga c.is_ = φ := by
              funext k
              unfold upF
              split
              · rename_i e; rw [e, his, ← hch, hw]
              · rfl
            rw [e]; exact h
          obtain ⟨w', k1, k2⟩ := ap_loop1 hE hin hd C hC hL rest (i + 1) (.b g P) (upF φ c.saga c.is_) φ' (by simp) h2 h4 h' (by simp only [OwP.P]; omega) ht
          exact ⟨w', k1, by rw [ap_skip1 hE C hC hL i c h1 g P hP h.s hnp hw his]; exact k2⟩
        · have h' := pok_ins h c hnp his
          have e1 : (insP P c).length = P.length + 1 := by have := lbP_le c.saga P; simp only [insP, List.length_append, List.length_cons, List.length_take, List.length_drop]; omega
          obtain ⟨w', k1, k2⟩ := ap_loop1 hE hin hd C hC hL rest (i + 1) (.b (g + 1) (insP P c)) (upF φ c.saga c.is_) φ' (by simp) h2 h4 h' (by simp only [OwP.P]; omega) ht
          exact ⟨w', k1, by rw [ap_ins1 hE C hC hL i c h1 g P hP h.s hin hnp hw his]; exact k2⟩
theorem fn_apply {E : Prog} (hE : Std E fns) (hin : IPK E) (hd : DPK E) (A : Sl PhT) (C : Sl ChT) (hC : C.list.length ≤ 60) (φ φ' : Int → Int) (hA : A.list.length ≤ 700) (h : PhOK A.list φ) (hc : Chain φ C.list φ') :
    ∃ B : Sl PhT, PhOK B.list φ' ∧ callP E f_feed_Apply [A.av 2 PhT.cells, C.av 4 ChT.cells] = some (.tup [B.av 2 PhT.cells, vi 0]) := by
  have hr := fn_rises hE A (by omega) h.s
  obtain ⟨w, hcl, hw⟩ := fn_clonePh hE A (by omega)
  rw [← hw] at h hA
  cases w with
  | a =>
    obtain ⟨w', k1, k2⟩ := ap_loop0 hE hin hd C hC (loopL_eq (IR.runL E.glob (callL E) [] ir_feed_Apply_L0) (compact [] 0 [6, 17, 18, 19])) C.list 0 .a φ φ' rfl (by omega) h (by omega) hc
    refine ⟨w'.sl, by cases w' <;> exact k1, ?_⟩
    simp only [envA, OwP.av, OwP.sto, Int.natCast_zero] at k2 hcl
    rw [hE.run rfl rfl]
    cases w' <;> simp only [OwP.av, OwP.sto, OwP.sl, OwP.P] at k2 ⊢ <;> simp -implicitDefEqProofs only [go_sem, ir_feed_Apply, hr, hcl, k2, avM, avN, tk0, ro_ch, ro_ph]
  | b g P =>
    obtain ⟨w', k1, k2⟩ := ap_loop1 hE hin hd C hC (loopL_eq (IR.runL E.glob (callL E) [] ir_feed_Apply_L0) (compact [] 1 [6, 17, 18, 19])) C.list 0 (.b g P) φ φ' (by simp) rfl (by omega) h (by omega) hc
    refine ⟨w'.sl, by cases w' <;> exact k1, ?_⟩
    simp only [envA, OwP.av, OwP.sto, Int.natCast_zero] at k2 hcl
    rw [hE.run rfl rfl]
    cases w' <;> simp only [OwP.av, OwP.sto, OwP.sl, OwP.P] at k2 ⊢ <;> simp -implicitDefEqProofs only [go_sem, ir_feed_Apply, hr, hcl, k2, avM, avN, tk0, ro_ch, ro_ph]
def esM (M : List ChT) : List (Value × AV) := M.map fun c => (.int .i64 c.saga, .agg [vi c.at_, vi c.saga, vi c.was, vi c.is_])
def fndM (k : Int) : List ChT → Option ChT
  | [] => none
  | c :: r => if k = c.saga then some c else fndM k r
def putM (x : ChT) : List ChT → List ChT
  | [] => [x]
  | c :: r => if x.saga = c.saga then x :: r else c :: putM x r
theorem es_ids : ∀ M : List ChT, ((esM M).map fun p => p.2.ids).flatten = []
  | [] => rfl
  | c :: r => by
    have ih := es_ids r
    simp only [esM, List.map_cons, List.flatten_cons] at ih ⊢
    rw [ih]; rfl
theorem es_ren (ρ : Nat → Nat) : ∀ M : List ChT, ((esM M).map fun p => (p.1, p.2.ren ρ)) = esM M
  | [] => rfl
  | c :: r => by
    have ih := es_ren ρ r
    simp only [esM, List.map_cons] at ih ⊢
    rw [ih]; rfl
theorem eqV_i (a b : Int) : eqV .i (.int .i64 a) (.int .i64 b) = some (decide (a = b)) := by
  simp only [eqV, if_true, int_beq]
theorem eqv_self (a : Int) : eqV .i (.int .i64 a) (.int .i64 a) = some true := by rw [eqV_i]; simp
theorem es_find (k : Int) : ∀ M : List ChT, mfind .i (.int .i64 k) (esM M) = some ((fndM k M).map fun c => .agg [vi c.at_, vi c.saga, vi c.was, vi c.is_])
  | [] => rfl
  | c :: r => by
    have ih := es_find k r
    unfold esM fndM mfind
    by_cases h : k = c.saga
    · subst h
      simp [eqV_i]
    · simp only [List.map_cons, eqV_i, h, decide_false, if_false]
      exact ih
theorem es_put (x : ChT) (a : AV) (ha : a = .agg [vi x.at_, vi x.saga, vi x.was, vi x.is_]) : ∀ M : List ChT, mput .i (.int .i64 x.saga) a (esM M) = some (esM (putM x M))
  | [] => by subst ha; rfl
  | c :: r => by
    have ih := es_put x a ha r
    unfold putM
    by_cases h : x.saga = c.saga
    · rw [if_pos h]
      unfold esM
      subst ha
      simp only [List.map_cons, mput, eqV_i, h, decide_true]
    · rw [if_neg h]
      unfold esM at ih ⊢
      simp only [List.map_cons, mput, eqV_i, h, decide_false]
      rw [ih]
def stepM (M : List ChT) (x : ChT) : List ChT := putM (match fndM x.saga M with | some o => ⟨x.at_, x.saga, o.was, x.is_⟩ | none => x) M
theorem put_ids (x : ChT) : ∀ M : List ChT, (putM x M).map (·.saga) = if (fndM x.saga M).isSome = true then M.map (·.saga) else M.map (·.saga) ++ [x.saga]
  | [] => rfl
  | c :: r => by
    have ih := put_ids x r
    unfold putM fndM
    by_cases h : x.saga = c.saga
    · rw [if_pos h, if_pos h]
      simp [h]
    · rw [if_neg h, if_neg h, List.map_cons, ih]
      split <;> simp
def idC (n : Int) : List AV := [vi n]
theorem ro_id : Ro idC := fun _ => rfl
theorem fnd_sg {k : Int} {M : List ChT} {o : ChT} (h : fndM k M = some o) : o.saga = k ∧ o ∈ M := by
  induction M with
  | nil => cases h
  | cons c r ih =>
    unfold fndM at h
    split at h
    · rename_i e
      cases h
      exact ⟨e.symm, List.mem_cons_self⟩
    · exact ⟨(ih h).1, List.mem_cons_of_mem _ (ih h).2⟩
theorem putM_len (x : ChT) : ∀ M : List ChT, (putM x M).length ≤ M.length + 1
  | [] => Nat.le_refl _
  | c :: r => by
    have ih := putM_len x r
    unfold putM
    split
    · simp
    · simp only [List.length_cons]; omega
theorem lat_loop {E : Prog} (C : Sl ChT) (hC : C.list.length ≤ 60) {L : Env × Store → Option (Sig × Env × Store)}
    (hL : ∀ e st, L (e, st) = (IR.runL E.glob (callL E) [] ir_feed_Latest_L1 e st).bind (seqK fun e st => L (compact [] 1 [3, 4, 14, 15, 16] e st))) :
    ∀ (rest : List ChT) (i : Nat) (M : List ChT) (g : Nat), C.list.drop i = rest → i ≤ C.list.length → M.length ≤ i →
    ∃ g' : Nat, L ([(3, .mp 0), (4, (bld 1 idC g [.map (esM M)] (M.map (·.saga))).1), (14, C.av 4 ChT.cells), (15, vi C.list.length), (16, vi i)], (bld 1 idC g [.map (esM M)] (M.map (·.saga))).2) =
      some (.exit 0, [(3, .mp 0), (4, (bld 1 idC g' [.map (esM (rest.foldl stepM M))] ((rest.foldl stepM M).map (·.saga))).1)], (bld 1 idC g' [.map (esM (rest.foldl stepM M))] ((rest.foldl stepM M).map (·.saga))).2)
  | [], i, M, g, h, hi, hM => by
    have h1 := drop_nil' h hi
    refine ⟨g, ?_⟩
    rw [hL, List.foldl_nil]
    generalize M.map (·.saga) = I
    by_cases hne : I = []
    · subst hne
      simp -implicitDefEqProofs only [go_sem, ir_feed_Latest_L1, h1, bld_nil, es_ids, es_ren, ro_id, ro_ch]
    · simp -implicitDefEqProofs only [go_sem, ir_feed_Latest_L1, h1, bld_ne hne, es_ids, es_ren, ro_id, ro_ch]
  | x :: rest, i, M, g, h, hi, hM => by
    obtain ⟨h1, h2, h3, h4, h5⟩ := drop_cons h
    have h6 := wrap_succ (i := i) (by omega)
    have hf := es_find x.saga M
    rw [List.foldl_cons]
    cases hm : fndM x.saga M with
    | some o =>
      rw [hm] at hf
      have hids : (putM ⟨x.at_, x.saga, o.was, x.is_⟩ M).map (·.saga) = M.map (·.saga) := by
        rw [put_ids]
        show (if (fndM x.saga M).isSome = true then _ else _) = _
        rw [hm]; rfl
      have hp := es_put ⟨x.at_, x.saga, o.was, x.is_⟩ _ rfl M
      have hst : stepM M x = putM ⟨x.at_, x.saga, o.was, x.is_⟩ M := by unfold stepM; rw [hm]
      have hne : M.map (·.saga) ≠ [] := by
        intro e
        rw [List.map_eq_nil_iff] at e
        rw [e] at hm; cases hm
      obtain ⟨g', ih⟩ := lat_loop C hC hL rest (i + 1) (stepM M x) g h2 h4 (by
        rw [hst]
        have := congrArg List.length hids
        rw [List.length_map, List.length_map] at this
        omega)
      refine ⟨g', ?_⟩
      rw [← ih, hL, hst, hids]
      generalize hI : M.map (·.saga) = I at hne
      simp only [Option.map_some] at hf
      simp -implicitDefEqProofs only [go_sem, ir_feed_Latest_L1, h1, h3, h6, ChT.cells, hf, eqv_self, hp, bld_ne hne, es_ids, es_ren, ro_id, ro_ch, Int.natCast_nonneg]
    | none =>
      rw [hm] at hf
      have hids : (putM x M).map (·.saga) = M.map (·.saga) ++ [x.saga] := by
        rw [put_ids, hm]; rfl
      have hlen := putM_len x M
      have hp := es_put x _ rfl M
      have hst : stepM M x = putM x M := by unfold stepM; rw [hm]
      simp only [Option.map_none] at hf
      have hb : ((M.map (·.saga)).length + 1) * 8 ≤ 140737488355328 := by rw [List.length_map]; omega
      by_cases hne : M.map (·.saga) = []
      · obtain ⟨g', ih⟩ := lat_loop C hC hL rest (i + 1) (stepM M x) 0 h2 h4 (by rw [hst]; omega)
        refine ⟨g', ?_⟩
        rw [← ih, hL, hst, hids, hne, List.nil_append]
        simp -implicitDefEqProofs only [go_sem, ir_feed_Latest_L1, h1, h3, h6, ChT.cells, hf, eqv_self, hp, bld_nil, bld_ne (List.cons_ne_nil _ _), idC, es_ids, es_ren, ro_id, ro_ch, Int.natCast_nonneg]
      · obtain ⟨g', ih⟩ := lat_loop C hC hL rest (i + 1) (stepM M x) (g + 1) h2 h4 (by rw [hst]; omega)
        refine ⟨g', ?_⟩
        rw [← ih, hL, hst, hids]
        generalize M.map (·.saga) = I at hne hb
        simp -implicitDefEqProofs only [go_sem, ir_feed_Latest_L1, h1, h3, h6, ChT.cells, hf, eqv_self, hp, bld_ne hne, bld_ne (ne_app I x.saga), hb, idC, es_ids, es_ren, ro_id, ro_ch, Int.natCast_nonneg]
abbrev chd (c : ChT) : Bool := !decide (c.was = c.is_)
abbrev stLa (M : List ChT) (g0 : Nat) : Store := [.map (esM M), .row 1 g0 ((M.map (·.saga)).map idC) false]
theorem lat0_loop {E : Prog} (M : List ChT) (hM : M.length ≤ 60) (g0 : Nat) (hd : ∀ c, c ∈ M → fndM c.saga M = some c) {L : Env × Store → Option (Sig × Env × Store)}
    (hL : ∀ e st, L (e, st) = (IR.runL E.glob (callL E) [] ir_feed_Latest_L0 e st).bind (seqK fun e st => L (compact [] 2 [3, 9, 41, 42, 43] e st))) :
    ∀ (rest : List ChT) (i : Nat) (out : List ChT) (g : Nat), M.drop i = rest → i ≤ M.length → out.length ≤ i →
    ∃ g' : Nat, L ([(3, .mp 0), (9, (bld 4 ChT.cells g (stLa M g0) out).1), (41, .own 1 g0 0 M.length), (42, vi M.length), (43, vi i)], (bld 4 ChT.cells g (stLa M g0) out).2) =
      some (.exit 2, [(9, (bld 4 ChT.cells g' (stLa M g0) (out ++ rest.filter chd)).1)], (bld 4 ChT.cells g' (stLa M g0) (out ++ rest.filter chd)).2)
  | [], i, out, g, h, hi, ho => by
    have h1 : ¬ (i : Int) < (M.length : Int) := by have := List.drop_eq_nil_iff.1 h; omega
    refine ⟨g, ?_⟩
    rw [hL, List.filter_nil, List.append_nil]
    by_cases hne : out = []
    · subst hne
      simp -implicitDefEqProofs only [go_sem, ir_feed_Latest_L0, h1, bld_nil, es_ids, es_ren, ro_id, ro_ch]
    · simp -implicitDefEqProofs only [go_sem, ir_feed_Latest_L0, h1, bld_ne hne, es_ids, es_ren, ro_id, ro_ch]
  | c :: rest, i, out, g, h, hi, ho => by
    have hlt : i < M.length := by
      rcases Nat.lt_or_ge i M.length with h1 | h1
      · exact h1
      · rw [List.drop_eq_nil_of_le h1] at h; cases h
    have h1 : M[i]? = some c := by rw [← List.head?_drop, h]; rfl
    have h2 : M.drop (i + 1) = rest := by rw [← List.tail_drop, h]; rfl
    have h3 : (i : Int) < (M.length : Int) := by omega
    have h6 := wrap_succ (i := i) (by omega)
    have hI : (M.map (·.saga))[i]? = some c.saga := by rw [List.getElem?_map, h1]; rfl
    have hf := es_find c.saga M
    rw [hd c (List.mem_of_getElem? h1)] at hf
    simp only [Option.map_some] at hf
    have hb : (out.length + 1) * 32 ≤ 140737488355328 := by omega
    generalize M.map (·.saga) = I at hI
    by_cases cc : c.was = c.is_
    · have e : (c :: rest).filter chd = rest.filter chd := by rw [List.filter_cons, if_neg (by simp [chd, cc])]
      obtain ⟨g', ih⟩ := lat0_loop M hM g0 hd hL rest (i + 1) out g h2 (by omega) (by omega)
      refine ⟨g', ?_⟩
      rw [e, ← ih, hL]
      by_cases hne : out = []
      · subst hne
        simp -implicitDefEqProofs only [go_sem, ir_feed_Latest_L0, h3, h6, hlt, ias_own, List.getElem?_map, Option.map_some, Nat.zero_add, Int.toNat_natCast, and_self, h1, idC, ChT.cells, hf, cc, bld_nil, es_ids, es_ren, ro_id, ro_ch, Int.natCast_nonneg]
      · simp -implicitDefEqProofs only [go_sem, ir_feed_Latest_L0, h3, h6, hlt, ias_own, List.getElem?_map, Option.map_some, Nat.zero_add, Int.toNat_natCast, and_self, h1, idC, ChT.cells, hf, cc, bld_ne hne, es_ids, es_ren, ro_id, ro_ch, Int.natCast_nonneg]
    · have e : (c :: rest).filter chd = [c] ++ rest.filter chd := by rw [List.filter_cons, if_pos (by simp [chd, cc])]; rfl
      rw [e, ← List.append_assoc]
      by_cases hne : out = []
      · subst hne
        obtain ⟨g', ih⟩ := lat0_loop M hM g0 hd hL rest (i + 1) [c] 0 h2 (by omega) (by simp)
        refine ⟨g', ?_⟩
        rw [List.nil_append, ← ih, hL]
        simp -implicitDefEqProofs only [go_sem, ir_feed_Latest_L0, h3, h6, hlt, ias_own, List.getElem?_map, Option.map_some, Nat.zero_add, Int.toNat_natCast, and_self, h1, idC, ChT.cells, hf, cc, bld_nil, bld_ne (List.cons_ne_nil _ _), es_ids, es_ren, ro_id, ro_ch, Int.natCast_nonneg]
      · obtain ⟨g', ih⟩ := lat0_loop M hM g0 hd hL rest (i + 1) (out ++ [c]) (g + 1) h2 (by omega) (by simp; omega)
        refine ⟨g', ?_⟩
        rw [← ih, hL]
        simp -implicitDefEqProofs only [go_sem, ir_feed_Latest_L0, h3, h6, hlt, ias_own, List.getElem?_map, Option.map_some, Nat.zero_add, Int.toNat_natCast, and_self, h1, idC, ChT.cells, hf, cc, bld_ne hne, bld_ne (ne_app out c), hb, es_ids, es_ren, ro_id, ro_ch, Int.natCast_nonneg]
theorem n2_loop {E : Prog} (f : Nat) {L : Env × Store → Option (Sig × Env × Store)}
    (hL : ∀ e st, L (e, st) = (IR.runL E.glob (callL E) [] ir_slices_stableCmpFunc_api_Change_L2 e st).bind (seqK fun e st => L (compact [] 0 [0, 1, 2, 6, 7, 8] e st))) :
    L ([(0, nilS), (1, vi 0), (2, .fn f []), (6, vi 20), (7, vi 0), (8, vi 20)], []) = some (.exit 0, [(0, nilS), (1, vi 0), (2, .fn f []), (6, vi 20), (7, vi 0)], []) := by
  rw [hL]
  simp -implicitDefEqProofs only [go_sem, ir_slices_stableCmpFunc_api_Change_L2]
theorem n1_loop {E : Prog} (f : Nat) {L : Env × Store → Option (Sig × Env × Store)}
    (hL : ∀ e st, L (e, st) = (IR.runL E.glob (callL E) [] ir_slices_stableCmpFunc_api_Change_L1 e st).bind (seqK fun e st => L (compact [] 0 [0, 1, 2, 6] e st))) :
    L ([(0, nilS), (1, vi 0), (2, .fn f []), (6, vi 20)], []) = some (.exit 2, [], []) := by
  rw [hL]
  simp -implicitDefEqProofs only [go_sem, ir_slices_stableCmpFunc_api_Change_L1]
theorem ni_loop {E : Prog} (f : Nat) {L : Env × Store → Option (Sig × Env × Store)}
    (hL : ∀ e st, L (e, st) = (IR.runL E.glob (callL E) [] ir_slices_insertionSortCmpFunc_api_Change_L1 e st).bind (seqK fun e st => L (compact [] 0 [0, 1, 2, 3, 8] e st))) :
    L ([(0, nilS), (1, vi 0), (2, vi 0), (3, .fn f []), (8, vi 1)], []) = some (.exit 0, [], []) := by
  rw [hL]
  simp -implicitDefEqProofs only [go_sem, ir_slices_insertionSortCmpFunc_api_Change_L1]
theorem fn_stableN {E : Prog} (hE : Std E fns) (f : Nat) : callL E f_slices_SortStableFunc_api_Change_api_Change [nilS, .fn f []] [] [] = some (.tup [], []) := by
  have h1 := n2_loop (E := E) f (loopL_eq (IR.runL E.glob (callL E) [] ir_slices_stableCmpFunc_api_Change_L2) (compact [] 0 [0, 1, 2, 6, 7, 8]))
  have h2 := n1_loop (E := E) f (loopL_eq (IR.runL E.glob (callL E) [] ir_slices_stableCmpFunc_api_Change_L1) (compact [] 0 [0, 1, 2, 6]))
  have h3 := ni_loop (E := E) f (loopL_eq (IR.runL E.glob (callL E) [] ir_slices_insertionSortCmpFunc_api_Change_L1) (compact [] 0 [0, 1, 2, 3, 8]))
  have w : IntKind.i64.wrap (0 + 1) = 1 := IntWalk.i64_in _ (by omega)
  have hi : callL E f_slices_insertionSortCmpFunc_api_Change [nilS, vi 0, vi 0, .fn f []] [] [] = some (.tup [], []) := by
    rw [hE.runN rfl rfl]
    simp -implicitDefEqProofs only [go_sem, ir_slices_insertionSortCmpFunc_api_Change, w, h3]
  have hs : callL E f_slices_stableCmpFunc_api_Change [nilS, vi 0, .fn f []] [] [] = some (.tup [], []) := by
    rw [hE.runN rfl rfl]
    simp -implicitDefEqProofs only [go_sem, ir_slices_stableCmpFunc_api_Change, h1, h2, hi]
  rw [hE.runN rfl rfl]
  simp -implicitDefEqProofs only [go_sem, ir_slices_SortStableFunc_api_Change_api_Change, lenA_nil, Int.natCast_zero, hs]
theorem fnd_none {k : Int} : ∀ {M : List ChT}, fndM k M = none → ∀ c, c ∈ M → c.saga ≠ k
  | [], _, c, h => by cases h
  | d :: r, h, c, hc => by
    unfold fndM at h
    split at h
    · cases h
    · rename_i hd
      rcases List.mem_cons.1 hc with rfl | hc
      · exact fun e => hd e.symm
      · exact fnd_none h c hc
theorem fnd_self : ∀ {M : List ChT}, (M.map (·.saga)).Nodup → ∀ c, c ∈ M → fndM c.saga M = some c
  | [], _, c, h => by cases h
  | d :: r, hn, c, hc => by
    rw [List.map_cons, List.nodup_cons] at hn
    unfold fndM
    rcases List.mem_cons.1 hc with rfl | hc
    · rw [if_pos rfl]
    · rw [if_neg fun e => hn.1 (List.mem_map.2 ⟨c, hc, e⟩)]
      exact fnd_self hn.2 c hc
theorem latst_ids (M : List ChT) (x : ChT) : (stepM M x).map (·.saga) = if (fndM x.saga M).isSome = true then M.map (·.saga) else M.map (·.saga) ++ [x.saga] := by
  unfold stepM
  cases hm : fndM x.saga M with
  | some o =>
    simp only []
    rw [put_ids]
    show (if (fndM x.saga M).isSome = true then _ else _) = _
    rw [hm]
  | none =>
    simp only []
    rw [put_ids, hm]
theorem step_nodup {M : List ChT} (h : (M.map (·.saga)).Nodup) (x : ChT) : ((stepM M x).map (·.saga)).Nodup := by
  rw [latst_ids]
  cases hm : fndM x.saga M with
  | some o => simpa using h
  | none =>
    simp only [Option.isSome_none, Bool.false_eq_true, if_false]
    rw [List.nodup_append]
    refine ⟨h, by simp, ?_⟩
    intro a ha b hb
    simp only [List.mem_singleton] at hb
    subst hb
    obtain ⟨c, hc, rfl⟩ := List.mem_map.1 ha
    exact fnd_none hm c hc
theorem fold_nodup : ∀ (C M : List ChT), (M.map (·.saga)).Nodup → ((C.foldl stepM M).map (·.saga)).Nodup
  | [], M, h => h
  | x :: r, M, h => fold_nodup r _ (step_nodup h x)
theorem fold_len : ∀ (C M : List ChT), (C.foldl stepM M).length ≤ M.length + C.length
  | [], M => by simp
  | x :: r, M => by
    have ih := fold_len r (stepM M x)
    have h : (stepM M x).length ≤ M.length + 1 := putM_len _ M
    simp only [List.foldl_cons, List.length_cons]; omega
theorem fn_cmpL {E : Prog} (hE : Std E fns) : Cmps E f_feed_Latest_1 (fun a b => cmpS a.at_ b.at_) := fun a b => by
  have h := fn_compare hE a.at_ b.at_
  rw [hE.runN rfl rfl]
  simp -implicitDefEqProofs only [go_sem, ir_feed_Latest_1, h]
theorem latN_loop {E : Prog} {L : Env × Store → Option (Sig × Env × Store)}
    (hL : ∀ e st, L (e, st) = (IR.runL E.glob (callL E) [] ir_feed_Latest_L0 e st).bind (seqK fun e st => L (compact [] 1 [3, 9, 41, 42, 43] e st))) :
    L ([(3, .mp 0), (9, nilS), (41, nilS), (42, vi 0), (43, vi 0)], [.map []]) = some (.exit 2, [(9, nilS)], [.map []]) := by
  rw [hL]
  simp -implicitDefEqProofs only [go_sem, ir_feed_Latest_L0]
def latM (C : List ChT) : List ChT := C.foldl stepM []
theorem fn_latest {E : Prog} (hE : Std E fns) (C : Sl ChT) (hC : C.list.length ≤ 60) : ∃ ys : List ChT, ys.Perm ((latM C.list).filter chd) ∧ callP E f_feed_Latest [C.av 4 ChT.cells] = some ((slOf ys).av 4 ChT.cells) := by
  obtain ⟨g, h1⟩ := lat_loop (E := E) C hC (loopL_eq (IR.runL E.glob (callL E) [] ir_feed_Latest_L1) (compact [] 1 [3, 4, 14, 15, 16])) C.list 0 [] 0 rfl (by omega) (by simp)
  have hnd : ((latM C.list).map (·.saga)).Nodup := fold_nodup C.list [] (by simp)
  have hl : (latM C.list).length ≤ 60 := by have := fold_len C.list []; unfold latM; simp only [List.length_nil] at this; omega
  rw [show C.list.foldl stepM [] = latM C.list from rfl] at h1
  simp only [List.map_nil, bld_nil, Int.natCast_zero] at h1
  have es0 : esM [] = [] := rfl
  rw [es0] at h1
  generalize latM C.list = M at h1 hnd hl ⊢
  by_cases hM : M = []
  · subst hM
    refine ⟨[], by simp, ?_⟩
    have h2 := latN_loop (E := E) (loopL_eq (IR.runL E.glob (callL E) [] ir_feed_Latest_L0) (compact [] 1 [3, 9, 41, 42, 43]))
    have h3 := fn_stableN hE f_feed_Latest_1
    simp only [List.map_nil, bld_nil] at h1
    rw [es0] at h1
    rw [hE.run rfl rfl]
    simp -implicitDefEqProofs only [go_sem, ir_feed_Latest, h1, h2, h3, lenA_nil, Int.natCast_zero, ro_ch]
    rfl
  · have hI : M.map (·.saga) ≠ [] := by rwa [Ne, List.map_eq_nil_iff]
    obtain ⟨g', h2⟩ := lat0_loop (E := E) M hl g (fun c hc => fnd_self hnd c hc) (loopL_eq (IR.runL E.glob (callL E) [] ir_feed_Latest_L0) (compact [] 2 [3, 9, 41, 42, 43])) M 0 [] 0 rfl (by omega) (by simp)
    simp only [bld_ne hI, List.length_cons, List.length_nil, List.cons_append, List.nil_append, Nat.zero_add, List.length_map] at h1
    simp only [bld_nil, Int.natCast_zero, List.nil_append, stLa] at h2
    have hfl : (M.filter chd).length ≤ 60 := Nat.le_trans (List.length_filter_le _ _) hl
    generalize M.filter chd = D at h2 hfl ⊢
    by_cases hD : D = []
    · subst hD
      refine ⟨[], .refl _, ?_⟩
      have h3 := fn_stableN hE f_feed_Latest_1
      simp only [bld_nil] at h2
      generalize hMI : M.map (·.saga) = I at *
      have eI : I.length = M.length := by rw [← hMI, List.length_map]
      rw [hE.run rfl rfl]
      simp -implicitDefEqProofs only [go_sem, ir_feed_Latest, h1, h2, h3, lenA_own, es_ids, es_ren, ro_id, ro_ch]
      rfl
    · obtain ⟨ys, hy, h3⟩ := fn_stable hE g' f_feed_Latest_1 _ (fn_cmpL hE) D (by omega)
      refine ⟨ys, hy, ?_⟩
      have hyl := hy.length_eq
      have hne : ys ≠ [] := by intro e; rw [e] at hyl; simp only [List.length_nil] at hyl; exact hD (List.length_eq_zero_iff.1 hyl.symm)
      have hle : D.length ≤ ys.length := by omega
      have tk : (ys.map ChT.cells).take D.length = ys.map ChT.cells := List.take_of_length_le (by simp [hyl])
      simp only [bld_ne hD, List.length_cons, List.length_nil, List.cons_append, List.nil_append, Nat.zero_add, Nat.reduceAdd] at h2
      rw [slOf_ne hne, hE.run rfl rfl]
      simp -implicitDefEqProofs only [go_sem, ir_feed_Latest, h1, h2, h3, lenA_own, es_ids, es_ren, tk, hle, avM, ro_id, ro_ch]
def curM (M : List ChT) (φ : Int → Int) : Int → Int := fun k => match fndM k M with | some o => o.is_ | none => φ k
theorem fnd_put (y : ChT) (k : Int) : ∀ M : List ChT, fndM k (putM y M) = if k = y.saga then some y else fndM k M
  | [] => by unfold putM; rw [fndM]; rfl
  | c :: r => by
    have ih := fnd_put y k r
    unfold putM
    by_cases h : y.saga = c.saga
    · rw [if_pos h]
      by_cases h2 : k = y.saga
      · rw [fndM, if_pos h2, if_pos h2]
      · rw [fndM, if_neg h2, if_neg h2, fndM, if_neg (by rw [← h]; exact h2)]
    · rw [if_neg h]
      by_cases h2 : k = c.saga
      · rw [fndM, if_pos h2, fndM, if_pos h2, if_neg (by rw [h2]; exact fun e => h e.symm)]
      · rw [fndM, if_neg h2, ih, fndM, if_neg h2]
theorem put_mem {y : ChT} : ∀ {M : List ChT} {c : ChT}, c ∈ putM y M → c = y ∨ c ∈ M
  | [], c, h => .inl (List.mem_singleton.1 h)
  | d :: r, c, h => by
    unfold putM at h
    split at h
    · rcases List.mem_cons.1 h with h | h
      · exact .inl h
      · exact .inr (List.mem_cons_of_mem _ h)
    · rcases List.mem_cons.1 h with h | h
      · exact .inr (by rw [h]; exact List.mem_cons_self)
      · exact (put_mem h).imp id (List.mem_cons_of_mem _)
theorem step_cur (M : List ChT) (φ : Int → Int) (x : ChT) : curM (stepM M x) φ = upF (curM M φ) x.saga x.is_ := by
  funext k
  unfold stepM curM upF
  cases fndM x.saga M with
  | some o =>
    simp only [fnd_put]
    by_cases hk : k = x.saga
    · simp only [if_pos hk]
    · simp only [if_neg hk]
  | none =>
    simp only [fnd_put]
    by_cases hk : k = x.saga
    · simp only [if_pos hk]
    · simp only [if_neg hk]
theorem fold_cur {φ φ' : Int → Int} : ∀ (C M : List ChT), (∀ c, c ∈ M → c.was = φ c.saga) → Chain (curM M φ) C φ' → (∀ c, c ∈ C.foldl stepM M → c.was = φ c.saga) ∧ φ' = curM (C.foldl stepM M) φ
  | [], M, h, hc => by cases hc; exact ⟨h, rfl⟩
  | x :: r, M, h, hc => by
    obtain ⟨hx, ht⟩ : x.was = curM M φ x.saga ∧ Chain (upF (curM M φ) x.saga x.is_) r φ' := by cases hc; exact ⟨by assumption, by assumption⟩
    rw [← step_cur] at ht
    refine fold_cur r (stepM M x) (fun c hcm => ?_) ht
    unfold stepM at hcm
    cases hm : fndM x.saga M with
    | some o =>
      rw [hm] at hcm
      rcases put_mem hcm with rfl | hcm
      · show o.was = φ x.saga
        rw [h o (fnd_sg hm).2, (fnd_sg hm).1]
      · exact h c hcm
    | none =>
      rw [hm] at hcm
      rcases put_mem hcm with hcx | hcm
      · rw [hcx, hx]
        unfold curM
        rw [hm]
      · exact h c hcm
theorem fnd_out {k : Int} : ∀ {M : List ChT}, (∀ c, c ∈ M → c.saga ≠ k) → fndM k M = none
  | [], _ => rfl
  | c :: r, h => by
    unfold fndM
    rw [if_neg fun e => h c List.mem_cons_self e.symm]
    exact fnd_out fun d hd => h d (List.mem_cons_of_mem _ hd)
theorem chain_any : ∀ (ys : List ChT) (φ : Int → Int), (ys.map (·.saga)).Nodup → (∀ c, c ∈ ys → c.was = φ c.saga) → Chain φ ys (curM ys φ)
  | [], φ, _, _ => .nil
  | c :: r, φ, hn, hw => by
    rw [List.map_cons, List.nodup_cons] at hn
    have hne : ∀ d, d ∈ r → d.saga ≠ c.saga := fun d hd e => hn.1 (List.mem_map.2 ⟨d, hd, e⟩)
    have ih := chain_any r (upF φ c.saga c.is_) hn.2 fun d hd => by
      unfold upF
      rw [if_neg (hne d hd)]
      exact hw d (List.mem_cons_of_mem _ hd)
    have e : curM r (upF φ c.saga c.is_) = curM (c :: r) φ := by
      funext k
      unfold curM
      by_cases hk : k = c.saga
      · rw [fndM, if_pos hk, fnd_out (k := k) fun d hd e => hne d hd (by rw [e, hk])]
        show upF φ c.saga c.is_ k = c.is_
        unfold upF
        rw [if_pos hk]
      · rw [fndM, if_neg hk]
        split
        · rfl
        · unfold upF
          rw [if_neg hk]
    rw [e] at ih
    exact .cons (hw c List.mem_cons_self) ih
theorem chain_latest {φ φ' : Int → Int} {C ys : List ChT} (h : Chain φ C φ') (hy : ys.Perm ((latM C).filter chd)) : Chain φ ys φ' := by
  have h0 : curM [] φ = φ := rfl
  rw [← h0] at h
  obtain ⟨hw, he⟩ := fold_cur C [] (fun c hc => by cases hc) h
  have hnd : ((latM C).map (·.saga)).Nodup := fold_nodup C [] (by simp)
  rw [show C.foldl stepM [] = latM C from rfl] at hw he
  generalize latM C = M at hw he hnd hy
  have hin : ∀ c, c ∈ ys → c ∈ M ∧ c.was ≠ c.is_ := fun c hc => by
    have := List.mem_filter.1 (hy.mem_iff.1 hc)
    exact ⟨this.1, by simpa [chd] using this.2⟩
  have hyn : (ys.map (·.saga)).Nodup := by
    have h1 : ((M.filter chd).map (·.saga)).Nodup := hnd.sublist (List.filter_sublist.map _)
    exact (hy.map _).nodup_iff.2 h1
  have hc := chain_any ys φ hyn fun c hc => hw c (hin c hc).1
  have e : curM ys φ = curM M φ := by
    funext k
    unfold curM
    by_cases hk : ∃ c, c ∈ M ∧ c.saga = k
    · obtain ⟨c, hc, rfl⟩ := hk
      rw [fnd_self hnd c hc]
      by_cases hch : c.was = c.is_
      · rw [fnd_out (M := ys)]
        · show φ c.saga = c.is_
          rw [← hw c hc, hch]
        · intro d hd e
          obtain ⟨h1, h2⟩ := hin d hd
          have h3 := fnd_self hnd d h1
          rw [e, fnd_self hnd c hc] at h3
          cases h3
          exact h2 hch
      · have : c ∈ ys := hy.mem_iff.2 (List.mem_filter.2 ⟨hc, by simp [chd, hch]⟩)
        rw [fnd_self hyn c this]
    · have h1 : ∀ c, c ∈ M → c.saga ≠ k := fun c hc e => hk ⟨c, hc, e⟩
      rw [fnd_out h1, fnd_out fun c hc => h1 c (hin c hc).1]
  rw [he, ← e]
  exact hc
theorem steps_split {E : Prog} : ∀ (k : Nat) {x y : StT} {l : List EvT} {T : List (StT × StT × CmT)}, k ≤ l.length → Steps E x y l T true → XOK x →
    Steps E x y (l.take k) (T.take k) true ∧ Steps E (lastX x (T.take k)) (lastY y (T.take k)) (l.drop k) (T.drop k) true ∧ XOK (lastX x (T.take k)) ∧
    (∀ i : Nat, fromC ((i + k : Nat) : Int) (chgs i x l T) = chgs (i + k) (lastX x (T.take k)) (l.drop k) (T.drop k)) ∧ lastX (lastX x (T.take k)) (T.drop k) = lastX x T
  | 0, x, y, l, T, _, t, hx => ⟨by simpa using Steps.nil, t, hx, fun i => from_all fun c hc => by have := chgs_in l T i x c hc; omega, rfl⟩
  | k + 1, x, y, l, T, hk, t, hx => by
    cases t with
    | nil => simp at hk
    | @go _ _ v r x' y' c T' _ d1 d2 q' ok gr t =>
      obtain ⟨s1, s2, s3, s4, s5⟩ := steps_split k (by simp only [List.length_cons] at hk; omega) t ok
      refine ⟨.go d1 d2 q' ok gr s1, s2, s3, fun i => ?_, s5⟩
      have h5 := s4 (i + 1)
      have e : ((i + (k + 1) : Nat) : Int) = ((i + 1 + k : Nat) : Int) := by omega
      have e2 : fromC ((i + 1 + k : Nat) : Int) (chg i x x' v) = [] := from_none fun c hc => by have := chg_in hc; omega
      rw [chgs, fromC, List.filter_append, ← fromC, ← fromC, e, e2, List.nil_append, h5, show i + 1 + k = i + (k + 1) by omega]
      rfl
theorem id_ge {S : List SgT} (hs : S.Pairwise ltI) (h0 : ∀ s, s ∈ S → 0 ≤ s.id) : ∀ (i : Nat) (s : SgT), S[i]? = some s → (i : Int) ≤ s.id
  | 0, s, h => by have := h0 s (List.mem_of_getElem? h); omega
  | i + 1, s, h => by
    obtain ⟨a1, e1⟩ := List.getElem?_eq_some_iff.1 h
    have h2 : S[i]? = some (S[i]'(by omega)) := List.getElem?_eq_getElem _
    have ih := id_ge hs h0 i _ h2
    have := List.pairwise_iff_getElem.1 hs i (i + 1) (by omega) a1 (by omega)
    rw [e1] at this
    simp only [ltI] at this
    omega
theorem sg_len_next {x : StT} (h : XOK x) : (x.sagas.list.length : Int) ≤ x.next := by
  rcases Nat.eq_zero_or_pos x.sagas.list.length with c | c
  · rw [c]; have := h.n0; omega
  · have h2 : x.sagas.list[x.sagas.list.length - 1]? = some (x.sagas.list[x.sagas.list.length - 1]'(by omega)) := List.getElem?_eq_getElem _
    have h3 := id_ge h.ss (fun s hs => by obtain ⟨_, d, t, _, so⟩ := h.sk s hs; exact so.id0) _ _ h2
    have h4 := (h.sk _ (List.mem_of_getElem? h2)).1
    omega
theorem next_le {E : Prog} {x y : StT} {l : List EvT} {T : List (StT × StT × CmT)} {b : Bool} (t : Steps E x y l T b) : (lastX x T).next ≤ x.next + l.length := by
  induction t with
  | nil => rw [lastX]; simp
  | stop => rw [lastX]; simp only [List.length_cons]; omega
  | @go x y v r x' y' c T b d1 d2 q ok gr t ih =>
    rw [lastX]
    simp only [List.length_cons]
    rcases gr.n with ⟨_, _, h⟩ | ⟨_, h⟩ <;> omega
theorem leads_run {E : Prog} (hE : Std E fns) (hw : callP E f_usufructlaw33_awake [] = some (vb true)) (l : Sl EvT) (u : Int) (k : Nat) (hl : l.list.length ≤ 60) (hf : callP E f_usufructlaw33_few [lv l] = some (vb true)) (u0 : 0 ≤ u) (u1 : u ≤ 255)
    (hkn : k ≤ l.list.length) (htm : Int.tmod u ((l.list.length + 1 : Nat) : Int) = (k : Int)) (n : Int) (D ys : List ChT) (A I : List PhT) (B1 B2 : Sl PhT) (ho : callP E f_feed_Of [lv l, vi k] = some (ofA D n 0))
    (h1 : callP E f_feed_Now [lv (l.sub 0 k)] = some (nowA A)) (h2 : callP E f_feed_Now [lv l] = some (nowA I)) (h3 : callP E f_feed_Apply [(slOf A).av 2 PhT.cells, (slOf D).av 4 ChT.cells] = some (.tup [B1.av 2 PhT.cells, vi 0]))
    (h4 : callP E f_feed_Latest [(slOf D).av 4 ChT.cells] = some ((slOf ys).av 4 ChT.cells)) (h5 : callP E f_feed_Apply [(slOf A).av 2 PhT.cells, (slOf ys).av 4 ChT.cells] = some (.tup [B2.av 2 PhT.cells, vi 0]))
    (h6 : callP E f_usufructref33_One [B1.av 2 PhT.cells, (slOf I).av 2 PhT.cells] = some (vb true)) (h7 : callP E f_usufructref33_One [B2.av 2 PhT.cells, (slOf I).av 2 PhT.cells] = some (vb true)) :
    callP E f_usufructlaw33_FeedLeads [lv l, .v (.int .u8 u)] = some (vb true) := by
  have wu : IntKind.i64.wrap u = u := IntWalk.i64_in _ (by omega)
  have wn := wrap_succ (i := l.list.length) (by omega)
  have wk : IntKind.i64.wrap (k : Int) = (k : Int) := IntWalk.i64_in _ (by omega)
  have z0 : ¬ ((l.list.length + 1 : Nat) : Int) = 0 := by omega
  have z3 : (k : Int) ≤ (l.list.length : Int) := by omega
  unfold ofA at ho
  unfold nowA at h1 h2
  rw [hE.run rfl rfl]
  simp -implicitDefEqProofs only [go_sem, ir_usufructlaw33_FeedLeads, hw, hf, wu, wn, htm, wk, z0, z3, ho, h1, h2, h3, h4, h5, h6, h7, ro_ev, ro_ch, ro_ph, Int.natCast_nonneg]
theorem leads_bad {E : Prog} (hE : Std E fns) (hw : callP E f_usufructlaw33_awake [] = some (vb true)) (l : Sl EvT) (u : Int) (k : Nat) (hl : l.list.length ≤ 60) (hf : callP E f_usufructlaw33_few [lv l] = some (vb true)) (u0 : 0 ≤ u) (u1 : u ≤ 255)
    (hkn : k ≤ l.list.length) (htm : Int.tmod u ((l.list.length + 1 : Nat) : Int) = (k : Int)) (ho : callP E f_feed_Of [lv l, vi k] = some (ofA [] 0 3)) : callP E f_usufructlaw33_FeedLeads [lv l, .v (.int .u8 u)] = some (vb true) := by
  have wu : IntKind.i64.wrap u = u := IntWalk.i64_in _ (by omega)
  have wn := wrap_succ (i := l.list.length) (by omega)
  have wk : IntKind.i64.wrap (k : Int) = (k : Int) := IntWalk.i64_in _ (by omega)
  have z0 : ¬ ((l.list.length + 1 : Nat) : Int) = 0 := by omega
  unfold ofA at ho
  rw [hE.run rfl rfl]
  simp -implicitDefEqProofs only [go_sem, ir_usufructlaw33_FeedLeads, hw, hf, wu, wn, htm, wk, z0, ho, ro_ev, ro_ch, ro_ph, Int.natCast_nonneg]
theorem fn_FeedLeads {E : Prog} (hk : LOK E) (hin : IPK E) (hd : DPK E) (hw : callP E f_usufructlaw33_awake [] = some (vb true)) (l : Sl EvT) (hb : l.list.length < 9223372036854775808) (u : Int) (u0 : 0 ≤ u) (u1 : u ≤ 255) :
    callP E f_usufructlaw33_FeedLeads [lv l, .v (.int .u8 u)] = some (vb true) := by
  have hE := hk.hE
  rcases fn_few hE l hb with ⟨hl, hs, hf⟩ | hf
  · obtain ⟨T, b, t⟩ := steps_ex hk l.list x0 x0 gok0 (fun _ => rfl) ⟨rfl, rfl, rfl⟩ hs
    obtain ⟨Cs, X, hfo, f1, f2⟩ := fn_follow hE l hl t
    have htm : Int.tmod u ((l.list.length + 1 : Nat) : Int) = ((u.toNat % (l.list.length + 1) : Nat) : Int) := by
      rw [Int.tmod_eq_emod_of_nonneg u0]
      have e : u = ((u.toNat : Nat) : Int) := by omega
      rw [e, Int.toNat_natCast]
      rfl
    have hkn : u.toNat % (l.list.length + 1) ≤ l.list.length := by have := Nat.mod_lt u.toNat (show 0 < l.list.length + 1 by omega); omega
    generalize u.toNat % (l.list.length + 1) = k at htm hkn
    cases b with
    | false => exact leads_bad hE hw l u k hl hf u0 u1 hkn htm (fn_of_bad hE l Cs X hfo k)
    | true =>
      obtain ⟨f1a, rfl⟩ := f1 rfl
      obtain ⟨s1, s2, s3, s4, s5⟩ := steps_split k hkn t gok0
      have el : (l.sub 0 k).list = l.list.take k := by rw [sub_list]; simp
      have ell : (l.sub 0 k).list.length ≤ 60 := by rw [el, List.length_take]; omega
      rw [← el] at s1
      obtain ⟨Ck, Xk, hfk, fk1, _⟩ := fn_follow hE (l.sub 0 k) ell s1
      obtain ⟨_, rfl⟩ := fk1 rfl
      obtain ⟨_, okL⟩ := steps_last t ⟨rfl, rfl, rfl⟩ gok0
      have hCl : Cs.list.length ≤ 60 := by
        rw [f1a]
        exact Nat.le_trans (chgs_len l.list T 0 x0) hl
      have ho := fn_of hE l Cs _ hfo hCl k (by omega)
      have k5 := s4 0
      rw [Nat.zero_add, ← f1a] at k5
      have hch := chain_steps s2 k s3
      rw [s5, ← k5] at hch
      have hDl : (fromC (k : Int) Cs.list).length ≤ 60 := Nat.le_trans (List.length_filter_le _ _) hCl
      have hA := pok_now s3
      have hI := pok_now okL
      have hAl : (nowS (lastX x0 (T.take k)).sagas.list).length ≤ 700 := by
        have h1 := sg_len_next s3
        have h2 := next_le s1
        have h3 : (x0 : StT).next = 0 := rfl
        unfold nowS
        rw [List.length_map]
        omega
      have hn1 := fn_now hE (l.sub 0 k) Ck _ s3.sl hfk
      have hn2 := fn_now hE l Cs _ okL.sl hfo
      obtain ⟨B1, b1, a1⟩ := fn_apply hE hin hd (slOf (nowS (lastX x0 (T.take k)).sagas.list)) (slOf (fromC (k : Int) Cs.list)) (by rw [slOf_list]; exact hDl) _ _ (by rw [slOf_list]; exact hAl) (by rw [slOf_list]; exact hA) (by rw [slOf_list]; exact hch)
      obtain ⟨ys, hy, a2⟩ := fn_latest hE (slOf (fromC (k : Int) Cs.list)) (by rw [slOf_list]; exact hDl)
      rw [slOf_list] at hy
      have hyl : ys.length ≤ 60 := by
        rw [hy.length_eq]
        have h1 := fold_len (fromC (k : Int) Cs.list) []
        have h2 := List.length_filter_le chd (latM (fromC (k : Int) Cs.list))
        unfold latM at h2 ⊢
        simp only [List.length_nil] at h1
        omega
      obtain ⟨B2, b2, a3⟩ := fn_apply hE hin hd (slOf (nowS (lastX x0 (T.take k)).sagas.list)) (slOf ys) (by rw [slOf_list]; exact hyl) _ _ (by rw [slOf_list]; exact hAl) (by rw [slOf_list]; exact hA) (by rw [slOf_list]; exact chain_latest hch hy)
      have e1 := pok_uniq b1 hI
      have e2 := pok_uniq b2 hI
      have hIl : (nowS (lastX x0 T).sagas.list).length < 9223372036854775807 := by unfold nowS; rw [List.length_map]; have := okL.sl; omega
      exact leads_run hE hw l u k hl hf u0 u1 hkn htm _ _ ys _ _ B1 B2 ho hn1 hn2 a1 a2 a3 (fn_one hE B1 _ (by rw [slOf_list]; exact e1) (by rw [e1]; exact hIl)) (fn_one hE B2 _ (by rw [slOf_list]; exact e2) (by rw [e2]; exact hIl))
  · rw [hE.run rfl rfl]
    simp -implicitDefEqProofs only [go_sem, ir_usufructlaw33_FeedLeads, hw, hf, ro_ev]
end Go.Proofs.YtjidmpcgkcaeaaaGreatDoor.Ev
