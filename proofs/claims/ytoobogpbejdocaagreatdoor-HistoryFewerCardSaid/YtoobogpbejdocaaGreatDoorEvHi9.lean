import Derived.Test.YtoobogpbejdocaaGreatDoorEvSa
import Derived.Test.YtoobogpbejdocaaGreatDoorEvHi5
set_option linter.unusedVariables false
set_option linter.unusedSectionVars false
set_option linter.unusedSimpArgs false
namespace Go.Proofs.YtoobogpbejdocaaGreatDoor.Ev
attribute [local congr] bind_congr_head
attribute [local go_sem] AV.cells AV.tuple elems boxQ callN_any compact_same compact_new aggOf
def moS (x : StT) (g : Nat) : List MoT → Store
  | [] => [.box (xC x), .box [nilS]]
  | m :: r => [.box (xC x), .box [.own 2 g 0 (m :: r).length], .row 18 g ((m :: r).map MoT.cells) false]
theorem moS_nil (x : StT) (g : Nat) : moS x g [] = [.box (xC x), .box [nilS]] := rfl
theorem moS_ne (x : StT) (g : Nat) {P : List MoT} (h : P ≠ []) : moS x g P = [.box (xC x), .box [.own 2 g 0 P.length], .row 18 g (P.map MoT.cells) false] := by
  cases P with
  | nil => exact absurd rfl h
  | cons a l => rfl
abbrev cmC (c : CmT) : List AV := [vi c.saga, vi c.step, vb c.undo, vi c.try_, vs c.party, vs c.key]
set_option maxHeartbeats 4000000 in
theorem mom_loop {E : Prog} (hE : Std E fns) (l : Sl EvT) (hl : l.list.length ≤ 60) {L : Env × Store → Option (Sig × Env × Store)}
    (hL : ∀ e st, L (e, st) = (IR.runL E.glob (callL E) [] ir_history_moments_L0 e st).bind (seqK fun e st => L (compact [] 2 [3, 4, 11, 12, 13] e st)))
    {rest : List EvT} {x y : StT} {T : List (StT × StT × CmT)} {b : Bool} (t : Steps E x y rest T b) :
    ∀ (i : Nat) (P : List MoT) (g : Nat), l.list.drop i = rest → i ≤ l.list.length → P.length = i →
    ∃ (g' : Nat) (x2 y2 : StT) (c2 : CmT) (v2 : EvT) (P2 : List MoT), L ([(3, .ref 0 0 0 0), (4, .ref 1 0 0 0), (11, lv l), (12, vi l.list.length), (13, vi i)], moS x g P) =
      if b = true then some (.exit 0, [(4, .ref 1 0 0 0)], moS (lastX x T) g' (P ++ mosL x rest T))
      else some (.exit 0, [(4, .ref 1 0 0 0)], .box (xC x2) :: .box [nilS] :: ((moS x2 g' P2).drop 2 ++ [.box (vC v2), .box (xC y2), .box (cmC c2)])) := by
  induction t with
  | @nil x y =>
    intro i P g h0 hi hP
    have h1 := drop_nil' h0 hi
    refine ⟨g, x, y, cm0, ⟨0, 0, 0, eTx, ⟨0, 0, false, 0, false⟩, zeroD⟩, P, ?_⟩
    rw [hL, if_pos rfl]
    have hm : P ++ mosL x [] [] = P := by simp [mosL]
    rw [hm]
    by_cases hne : P = []
    · subst hne
      simp -implicitDefEqProofs only [go_sem, ir_history_moments_L0, h1, moS_nil, lastX, ro_ev, ro_def, ro_sg]
    · simp -implicitDefEqProofs only [go_sem, ir_history_moments_L0, h1, moS_ne _ _ hne, lastX, ro_ev, ro_def, ro_sg, ro_mo]
  | @stop x y v r x' y' c e he d1 d2 =>
    intro i P g h0 hi hP
    obtain ⟨h1, h2, h3, h4, h5⟩ := drop_cons h0
    refine ⟨g, x, x', c, v, P, ?_⟩
    unfold ansA at d1
    rw [hL, if_neg (by decide)]
    by_cases hne : P = []
    · subst hne
      simp -implicitDefEqProofs only [go_sem, ir_history_moments_L0, h1, h3, EvT.cells, d1, he, moS_nil, List.drop_succ_cons, List.drop_nil, List.drop_zero, List.nil_append, ro_ev, ro_def, ro_sg, ro_step, Int.natCast_nonneg]
    · simp -implicitDefEqProofs only [go_sem, ir_history_moments_L0, h1, h3, EvT.cells, d1, he, moS_ne _ _ hne, List.drop_succ_cons, List.drop_nil, List.drop_zero, List.cons_append, List.nil_append, ro_ev, ro_def, ro_sg, ro_step, ro_mo, Int.natCast_nonneg]
  | @go x y v r x' y' c T b d1 d2 q ok gr t ih =>
    intro i P g h0 hi hP
    obtain ⟨h1, h2, h3, h4, h5⟩ := drop_cons h0
    have h6 := wrap_succ (i := i) (by omega)
    have a1 : (P.length + 1) * 240 ≤ 140737488355328 := by omega
    unfold ansA at d1
    have e1 : P ++ mosL x (v :: r) ((x', y', c) :: T) = (P ++ [⟨v, x, x'⟩]) ++ mosL x' r T := by simp [mosL]
    have e2 : lastX x ((x', y', c) :: T) = lastX x' T := rfl
    have b1 : (P ++ [(⟨v, x, x'⟩ : MoT)]).length = P.length + 1 := by simp
    have b2 : (P ++ [(⟨v, x, x'⟩ : MoT)]).map MoT.cells = P.map MoT.cells ++ [MoT.cells ⟨v, x, x'⟩] := by simp
    have b3 : ∀ z, (P.map MoT.cells ++ [z]).take (P.length + 1) = P.map MoT.cells ++ [z] := fun z => List.take_of_length_le (by simp)
    have b4 : (P.map MoT.cells).take P.length = P.map MoT.cells := List.take_of_length_le (by simp)
    rw [e1, e2]
    by_cases hne : P = []
    · obtain ⟨g', x2, y2, c2, v2, P2, ih⟩ := ih (i + 1) (P ++ [⟨v, x, x'⟩]) 0 h2 h4 (by simp [hP])
      refine ⟨g', x2, y2, c2, v2, P2, ?_⟩
      rw [← ih, hL, moS_ne _ _ (ne_app P _), b1, b2]
      subst hne
      simp -implicitDefEqProofs only [go_sem, ir_history_moments_L0, h1, h3, h6, a1, b3, b4, EvT.cells, MoT.cells, d1, moS_nil, List.map_nil, List.length_nil, List.nil_append, ro_ev, ro_def, ro_sg, ro_step, ro_mo, Int.natCast_nonneg]
    · obtain ⟨g', x2, y2, c2, v2, P2, ih⟩ := ih (i + 1) (P ++ [⟨v, x, x'⟩]) (g + 1) h2 h4 (by simp [hP])
      refine ⟨g', x2, y2, c2, v2, P2, ?_⟩
      rw [← ih, hL, moS_ne _ _ (ne_app P _), b1, b2]
      simp -implicitDefEqProofs only [go_sem, ir_history_moments_L0, h1, h3, h6, a1, b3, b4, EvT.cells, MoT.cells, d1, moS_ne _ _ hne, ro_ev, ro_def, ro_sg, ro_step, ro_mo, Int.natCast_nonneg]
def itS (g : Nat) : List MoT → Store
  | [] => [.box [nilS]]
  | m :: r => [.box [.own 1 g 0 (m :: r).length], .row 18 g ((m :: r).map MoT.cells) false]
theorem itS_ne (g : Nat) {P : List MoT} (h : P ≠ []) : itS g P = [.box [.own 1 g 0 P.length], .row 18 g (P.map MoT.cells) false] := by
  cases P with
  | nil => exact absurd rfl h
  | cons a l => rfl
theorem fn_moments {E : Prog} (hE : Std E fns) (l : Sl EvT) (hl : l.list.length ≤ 60) {T : List (StT × StT × CmT)} {b : Bool} (t : Steps E x0 x0 l.list T b) :
    ∃ g, callL E f_history_moments [lv l] [] [] = some (.fn f_history_moments_1 [.ref 0 0 0 0], itS g (if b = true then mosL x0 l.list T else [])) := by
  obtain ⟨g, x2, y2, c2, v2, P2, hf⟩ := mom_loop hE l hl (loopL_eq (IR.runL E.glob (callL E) [] ir_history_moments_L0) (compact [] 2 [3, 4, 11, 12, 13])) t 0 [] 0 rfl (by omega) rfl
  simp only [Int.natCast_zero, moS_nil, List.nil_append, xC, avN] at hf
  refine ⟨g, ?_⟩
  rw [hE.runN rfl rfl]
  cases b with
  | true =>
    rw [if_pos rfl] at hf ⊢
    generalize mosL x0 l.list T = M at *
    by_cases hne : M = []
    · subst hne
      rw [moS_nil] at hf
      simp -implicitDefEqProofs only [go_sem, ir_history_moments, hf, itS, ro_ev, ro_def, ro_sg]
    · rw [moS_ne _ _ hne] at hf
      rw [itS_ne _ hne]
      simp -implicitDefEqProofs only [go_sem, ir_history_moments, hf, ro_ev, ro_def, ro_sg, ro_mo]
  | false =>
    rw [if_neg (by decide)] at hf ⊢
    by_cases hne : P2 = []
    · subst hne
      simp only [moS_nil, List.drop_succ_cons, List.drop_nil, List.drop_zero, List.nil_append] at hf
      simp -implicitDefEqProofs only [go_sem, ir_history_moments, hf, itS, ro_ev, ro_def, ro_sg, ro_step]
    · simp only [moS_ne _ _ hne, List.drop_succ_cons, List.drop_nil, List.drop_zero, List.cons_append, List.nil_append] at hf
      simp -implicitDefEqProofs only [go_sem, ir_history_moments, hf, itS, ro_ev, ro_def, ro_sg, ro_step, ro_mo]
def tx (b : List UInt8) : List AV := [vs (BA b)]
theorem ro_tx : Ro tx := fun _ => rfl
structure LpO (E : Prog) : Prop where
  loop : E.loop = loops
  np : ∀ k, yB ≤ k → E.prim k = none
def ofS (s : LS) (id : Int) (g : Nat) (M : List MoT) (h : Nat) : List (List UInt8) → Store
  | [] => [.loop 1001300 [.ref 1 0 0 0, .ref 2 0 0 0] s, .box [vi id], .box [nilS], .box [.own 4 g 0 M.length], .row 18 g (M.map MoT.cells) false]
  | p :: r => [.loop 1001300 [.ref 1 0 0 0, .ref 2 0 0 0] s, .box [vi id], .box [.own 5 h 0 (p :: r).length], .box [.own 4 g 0 M.length], .row 18 g (M.map MoT.cells) false, .row 1 h ((p :: r).map tx) false]
theorem ofS_nil (s : LS) (id : Int) (g : Nat) (M : List MoT) (h : Nat) : ofS s id g M h [] = [.loop 1001300 [.ref 1 0 0 0, .ref 2 0 0 0] s, .box [vi id], .box [nilS], .box [.own 4 g 0 M.length], .row 18 g (M.map MoT.cells) false] := rfl
theorem ofS_ne (s : LS) (id : Int) (g : Nat) (M : List MoT) (h : Nat) {P : List (List UInt8)} (hP : P ≠ []) : ofS s id g M h P = [.loop 1001300 [.ref 1 0 0 0, .ref 2 0 0 0] s, .box [vi id], .box [.own 5 h 0 P.length], .box [.own 4 g 0 M.length], .row 18 g (M.map MoT.cells) false, .row 1 h (P.map tx) false] := by
  cases P with
  | nil => exact absurd rfl hP
  | cons a l => rfl
set_option maxHeartbeats 4000000 in
theorem of_b0 {E : Prog} (hE : Std E fns) (hi : IOK E) (hg0 : E.glob 0 = some phTab) (hlp : LpO E) (m : MoT) (hm : m.ok) (hk : m.v.kind ≠ 0) (id : Int) (g : Nat) (M : List MoT) (c : ¬ m.v.saga = id) :
    callL E 1001300 [.agg m.cells, .ref 1 0 0 0, .ref 2 0 0 0] [] [.loop 1001300 [.ref 1 0 0 0, .ref 2 0 0 0] .busy, .box [vi id], .box [nilS], .box [.own 4 g 0 M.length], .row 18 g (M.map MoT.cells) false, .box m.cells] = some (vi 0, [.loop 1001300 [.ref 1 0 0 0, .ref 2 0 0 0] .busy, .box [vi id], .box [nilS], .box [.own 4 g 0 M.length], .row 18 g (M.map MoT.cells) false, .box m.cells]) := by
  rw [callL_loop (hlp.np 1001300 (by decide)) (by rw [hE.fn]; rfl) (by rw [hlp.loop]; rfl) rfl]
  simp -implicitDefEqProofs only [go_sem, ir_history_Of_R0, MoT.cells, c, ro_ev, ro_def, ro_sg, ro_step, ro_mo]
  try rfl
set_option maxHeartbeats 4000000 in
theorem of_b0' {E : Prog} (hE : Std E fns) (hi : IOK E) (hg0 : E.glob 0 = some phTab) (hlp : LpO E) (m : MoT) (hm : m.ok) (hk : m.v.kind ≠ 0) (id : Int) (g : Nat) (M : List MoT) (P : List (List UInt8)) (h : Nat) (c : ¬ m.v.saga = id) :
    callL E 1001300 [.agg m.cells, .ref 1 0 0 0, .ref 2 0 0 0] [] [.loop 1001300 [.ref 1 0 0 0, .ref 2 0 0 0] .busy, .box [vi id], .box [.own 5 h 0 P.length], .box [.own 4 g 0 M.length], .row 18 g (M.map MoT.cells) false, .row 1 h (P.map tx) false, .box m.cells] = some (vi 0, [.loop 1001300 [.ref 1 0 0 0, .ref 2 0 0 0] .busy, .box [vi id], .box [.own 5 h 0 P.length], .box [.own 4 g 0 M.length], .row 18 g (M.map MoT.cells) false, .row 1 h (P.map tx) false, .box m.cells]) := by
  rw [callL_loop (hlp.np 1001300 (by decide)) (by rw [hE.fn]; rfl) (by rw [hlp.loop]; rfl) rfl]
  simp -implicitDefEqProofs only [go_sem, ir_history_Of_R0, MoT.cells, c, ro_ev, ro_def, ro_sg, ro_step, ro_mo, ro_tx]
  try rfl
set_option maxHeartbeats 4000000 in
theorem of_b1 {E : Prog} (hE : Std E fns) (hi : IOK E) (hg0 : E.glob 0 = some phTab) (hlp : LpO E) (m : MoT) (hm : m.ok) (hk : m.v.kind ≠ 0) (id : Int) (g : Nat) (M : List MoT) (c : m.v.saga = id) :
    callL E 1001300 [.agg m.cells, .ref 1 0 0 0, .ref 2 0 0 0] [] [.loop 1001300 [.ref 1 0 0 0, .ref 2 0 0 0] .busy, .box [vi id], .box [nilS], .box [.own 4 g 0 M.length], .row 18 g (M.map MoT.cells) false, .box m.cells] = some (vi 0, [.loop 1001300 [.ref 1 0 0 0, .ref 2 0 0 0] .busy, .box [vi id], .box [.own 6 0 0 1], .box [.own 4 g 0 M.length], .row 18 g (M.map MoT.cells) false, .box m.cells, .row 1 0 [tx m.line] false]) := by
  obtain ⟨hln, hll⟩ := fn_moLine hE hi hg0 m hm hk
  rw [callL_loop (hlp.np 1001300 (by decide)) (by rw [hE.fn]; rfl) (by rw [hlp.loop]; rfl) rfl]
  subst c
  simp only [MoT.cells] at hln
  simp -implicitDefEqProofs only [go_sem, ir_history_Of_R0, MoT.cells, hln, tx, ro_ev, ro_def, ro_sg, ro_step, ro_mo]
  try rfl
set_option maxHeartbeats 4000000 in
theorem of_b2 {E : Prog} (hE : Std E fns) (hi : IOK E) (hg0 : E.glob 0 = some phTab) (hlp : LpO E) (m : MoT) (hm : m.ok) (hk : m.v.kind ≠ 0) (id : Int) (g : Nat) (M : List MoT) (P : List (List UInt8)) (h : Nat) (hP : P.length ≤ 100) (c : m.v.saga = id) :
    callL E 1001300 [.agg m.cells, .ref 1 0 0 0, .ref 2 0 0 0] [] [.loop 1001300 [.ref 1 0 0 0, .ref 2 0 0 0] .busy, .box [vi id], .box [.own 5 h 0 P.length], .box [.own 4 g 0 M.length], .row 18 g (M.map MoT.cells) false, .row 1 h (P.map tx) false, .box m.cells] = some (vi 0, [.loop 1001300 [.ref 1 0 0 0, .ref 2 0 0 0] .busy, .box [vi id], .box [.own 5 (h + 1) 0 (P ++ [m.line]).length], .box [.own 4 g 0 M.length], .row 18 g (M.map MoT.cells) false, .row 1 (h + 1) ((P ++ [m.line]).map tx) false, .box m.cells]) := by
  obtain ⟨hln, hll⟩ := fn_moLine hE hi hg0 m hm hk
  have a1 : (P.length + 1) * 16 ≤ 140737488355328 := by omega
  have b1 : (P ++ [m.line]).length = P.length + 1 := by simp
  have b2 : (P ++ [m.line]).map tx = P.map tx ++ [tx m.line] := by simp
  have b3 : ∀ z, (P.map tx ++ [z]).take (P.length + 1) = P.map tx ++ [z] := fun z => List.take_of_length_le (by simp)
  have b4 : (P.map tx).take P.length = P.map tx := List.take_of_length_le (by simp)
  rw [callL_loop (hlp.np 1001300 (by decide)) (by rw [hE.fn]; rfl) (by rw [hlp.loop]; rfl) rfl, b1, b2]
  subst c
  simp only [MoT.cells] at hln
  simp -implicitDefEqProofs only [go_sem, ir_history_Of_R0, MoT.cells, hln, tx, a1, b3, b4, ro_ev, ro_def, ro_sg, ro_step, ro_mo, ro_tx]
  try rfl
set_option maxHeartbeats 4000000 in
theorem of_loop {E : Prog} (hE : Std E fns) (hi : IOK E) (hg0 : E.glob 0 = some phTab) (hlp : LpO E) (id : Int) (g : Nat) (M : List MoT) (hM : ∀ m, m ∈ M → m.ok) (hl : M.length ≤ 60) {L : Env × Store → Option (Sig × Env × Store)}
    (hL : ∀ e st, L (e, st) = (IR.runL E.glob (callL E) [] ir_history_moments_1_L0 e st).bind (seqK fun e st => L (compact [] 5 [0, 5, 6, 7] e st))) :
    ∀ (rest : List MoT) (i : Nat) (P : List (List UInt8)) (h : Nat), M.drop i = rest → i ≤ M.length → P.length ≤ i →
    ∃ h', L ([(0, .yl 0), (5, .own 4 g 0 M.length), (6, vi M.length), (7, vi i)], ofS .rdy id g M h P) = some (.exit 0, [], ofS .rdy id g M h' (P ++ ofR id rest))
  | [], i, P, h, h0, hi', hP => by
    have h1 : M.length = i := by have := congrArg List.length h0; simp at this; omega
    refine ⟨h, ?_⟩
    have e1 : P ++ ofR id [] = P := by simp [ofR]
    rw [hL, e1]
    have w : ¬ ((i : Int) < (M.length : Int)) := by omega
    by_cases hne : P = []
    · subst hne
      simp -implicitDefEqProofs only [go_sem, ir_history_moments_1_L0, w, ofS_nil, ro_mo]
    · simp -implicitDefEqProofs only [go_sem, ir_history_moments_1_L0, w, ofS_ne _ _ _ _ _ hne, ro_mo, ro_tx]
  | m :: rest, i, P, h, h0, hi', hP => by
    have hlt : i < M.length := by
      have := congrArg List.length h0; simp at this; omega
    have hget : M[i]? = some m := by
      have : (M.drop i)[0]? = some m := by rw [h0]; rfl
      simpa using this
    have h2 : M.drop (i + 1) = rest := by
      have : (M.drop i).drop 1 = rest := by rw [h0]; rfl
      simpa [List.drop_drop] using this
    have h6 := wrap_succ (i := i) (by omega)
    have w : ((i : Int) < (M.length : Int)) := by omega
    have hm := hM m (List.mem_of_getElem? hget)
    have eg : M[i] = m := (List.getElem?_eq_some_iff.1 hget).2
    by_cases c : m.v.kind = 0
    · obtain ⟨h', ih⟩ := of_loop hE hi hg0 hlp id g M hM hl hL rest (i + 1) P h h2 (by omega) (by omega)
      refine ⟨h', ?_⟩
      have e1 : ofR id (m :: rest) = ofR id rest := by rw [ofR, if_pos c]
      rw [e1, ← ih, hL]
      by_cases hne : P = []
      · subst hne
        simp -implicitDefEqProofs only [go_sem, ir_history_moments_1_L0, w, ias_own, List.getElem?_map, hget, Option.map_some, hlt, eg, MoT.cells, c, h6, ofS_nil, Nat.zero_add, Int.toNat_natCast, and_self, ro_ev, ro_def, ro_sg, ro_step, ro_mo, Int.natCast_nonneg]
      · simp -implicitDefEqProofs only [go_sem, ir_history_moments_1_L0, w, ias_own, List.getElem?_map, hget, Option.map_some, hlt, eg, MoT.cells, c, h6, ofS_ne _ _ _ _ _ hne, Nat.zero_add, Int.toNat_natCast, and_self, ro_ev, ro_def, ro_sg, ro_step, ro_mo, ro_tx, Int.natCast_nonneg]
    · by_cases c2 : m.v.saga = id
      · have hR : P ++ ofR id (m :: rest) = (P ++ [m.line]) ++ ofR id rest := by
          rw [ofR, if_neg c, if_pos c2]
          simp
        rw [hR]
        by_cases hne : P = []
        · obtain ⟨h', ih⟩ := of_loop hE hi hg0 hlp id g M hM hl hL rest (i + 1) (P ++ [m.line]) 0 h2 (by omega) (by simp only [List.length_append, List.length_cons, List.length_nil]; omega)
          refine ⟨h', ?_⟩
          rw [← ih, hL, ofS_ne _ _ _ _ _ (ne_app P _)]
          subst hne
          have hb := of_b1 hE hi hg0 hlp m hm c id g M c2
          simp only [MoT.cells, tx] at hb
          rw [ofS_nil]
          simp -implicitDefEqProofs only [go_sem, ir_history_moments_1_L0, w, ias_own, List.getElem?_map, hget, Option.map_some, hlt, eg, MoT.cells, c, h6, hb, Nat.zero_add, Int.toNat_natCast, and_self, ro_ev, ro_def, ro_sg, ro_step, ro_mo, ro_tx, Int.natCast_nonneg]
          try rfl
        · obtain ⟨h', ih⟩ := of_loop hE hi hg0 hlp id g M hM hl hL rest (i + 1) (P ++ [m.line]) (h + 1) h2 (by omega) (by simp only [List.length_append, List.length_cons, List.length_nil]; omega)
          refine ⟨h', ?_⟩
          rw [← ih, hL, ofS_ne _ _ _ _ _ (ne_app P _), ofS_ne _ _ _ _ _ hne]
          have hb := of_b2 hE hi hg0 hlp m hm c id g M P h (by omega) c2
          generalize P ++ [m.line] = P2 at hb ⊢
          simp only [MoT.cells] at hb
          simp -implicitDefEqProofs only [go_sem, ir_history_moments_1_L0, w, ias_own, List.getElem?_map, hget, Option.map_some, hlt, eg, MoT.cells, c, h6, hb, Nat.zero_add, Int.toNat_natCast, and_self, ro_ev, ro_def, ro_sg, ro_step, ro_mo, ro_tx, Int.natCast_nonneg]
      · have hR : ofR id (m :: rest) = ofR id rest := by
          rw [ofR, if_neg c, if_neg c2]
        rw [hR]
        obtain ⟨h', ih⟩ := of_loop hE hi hg0 hlp id g M hM hl hL rest (i + 1) P h h2 (by omega) (by omega)
        refine ⟨h', ?_⟩
        rw [← ih, hL]
        by_cases hne : P = []
        · subst hne
          have hb := of_b0 hE hi hg0 hlp m hm c id g M c2
          simp only [MoT.cells] at hb
          rw [ofS_nil]
          simp -implicitDefEqProofs only [go_sem, ir_history_moments_1_L0, w, ias_own, List.getElem?_map, hget, Option.map_some, hlt, eg, MoT.cells, c, h6, hb, Nat.zero_add, Int.toNat_natCast, and_self, ro_ev, ro_def, ro_sg, ro_step, ro_mo, ro_tx, Int.natCast_nonneg]
        · rw [ofS_ne _ _ _ _ _ hne]
          have hb := of_b0' hE hi hg0 hlp m hm c id g M P h c2
          simp only [MoT.cells] at hb
          simp -implicitDefEqProofs only [go_sem, ir_history_moments_1_L0, w, ias_own, List.getElem?_map, hget, Option.map_some, hlt, eg, MoT.cells, c, h6, hb, Nat.zero_add, Int.toNat_natCast, and_self, ro_ev, ro_def, ro_sg, ro_step, ro_mo, ro_tx, Int.natCast_nonneg]
set_option maxHeartbeats 4000000 in
theorem of_it {E : Prog} (hE : Std E fns) (hi : IOK E) (hg0 : E.glob 0 = some phTab) (hlp : LpO E) (id : Int) (g : Nat) (M : List MoT) (hM : ∀ m, m ∈ M → m.ok) (hl : M.length ≤ 60) :
    ∃ h', callL E f_history_moments_1 [.yl 0, .ref 3 0 0 0] [] (ofS .rdy id g M 0 []) = some (.tup [], ofS .rdy id g M h' (ofR id M)) := by
  obtain ⟨h', hf⟩ := of_loop hE hi hg0 hlp id g M hM hl (loopL_eq (IR.runL E.glob (callL E) [] ir_history_moments_1_L0) (compact [] 5 [0, 5, 6, 7])) M 0 [] 0 rfl (by omega) (by simp)
  refine ⟨h', ?_⟩
  rw [List.nil_append, Int.natCast_zero, ofS_nil] at hf
  rw [hE.runN rfl rfl, ofS_nil]
  generalize ofR id M = R at *
  by_cases hne : R = []
  · subst hne
    rw [ofS_nil] at hf ⊢
    simp -implicitDefEqProofs only [go_sem, ir_history_moments_1, lenA_own, lenA_nil, List.length_map, hf, ro_mo]
    try rfl
  · rw [ofS_ne _ _ _ _ _ hne] at hf ⊢
    simp -implicitDefEqProofs only [go_sem, ir_history_moments_1, lenA_own, lenA_nil, List.length_map, hf, ro_mo, ro_tx]
    try rfl
theorem of_none {E : Prog} (hE : Std E fns) (id : Int) :
    callL E f_history_moments_1 [.yl 0, .ref 3 0 0 0] [] [.loop 1001300 [.ref 1 0 0 0, .ref 2 0 0 0] .rdy, .box [vi id], .box [nilS], .box [nilS]] = some (.tup [], [.loop 1001300 [.ref 1 0 0 0, .ref 2 0 0 0] .rdy, .box [vi id], .box [nilS], .box [nilS]]) := by
  have hf := loopL_eq (IR.runL E.glob (callL E) [] ir_history_moments_1_L0) (compact [] 4 [0, 5, 6, 7]) [(0, .yl 0), (5, nilS), (6, vi 0), (7, vi 0)] [.loop 1001300 [.ref 1 0 0 0, .ref 2 0 0 0] .rdy, .box [vi id], .box [nilS], .box [nilS]]
  simp -implicitDefEqProofs only [go_sem, ir_history_moments_1_L0] at hf
  rw [hE.runN rfl rfl]
  simp -implicitDefEqProofs only [go_sem, ir_history_moments_1, lenA_own, lenA_nil, hf]
  try rfl
set_option maxHeartbeats 4000000 in
theorem fn_Of {E : Prog} (hE : Std E fns) (hi : IOK E) (hg0 : E.glob 0 = some phTab) (hlp : LpO E) (l : Sl EvT) (hl : l.list.length ≤ 60) (hs : ∀ v, v ∈ l.list → shortS v = 0) {T : List (StT × StT × CmT)} {b : Bool} (t : Steps E x0 x0 l.list T b) (id : Int) :
    callP E f_history_Of [lv l, vi id] = some ((slOf (ofR id (if b = true then mosL x0 l.list T else []))).av 1 tx) := by
  obtain ⟨g, hmo⟩ := fn_moments hE l hl t
  have hok := mos_ok t gok0 hs
  have hml := mos_len x0 l.list T
  rw [hE.run rfl rfl]
  have hM : ∀ m, m ∈ (if b = true then mosL x0 l.list T else []) → m.ok := fun m hm => by
    split at hm
    · exact hok m hm
    · cases hm
  have hMl : (if b = true then mosL x0 l.list T else []).length ≤ 60 := by
    split
    · omega
    · simp
  generalize (if b = true then mosL x0 l.list T else []) = M at *
  by_cases hm0 : M = []
  · subst hm0
    have hit := of_none hE id
    simp only [itS] at hmo
    simp -implicitDefEqProofs only [go_sem, ir_history_Of, hmo, hit, ofR, slOf, avN, ro_ev]
    try rfl
  · obtain ⟨h', hit⟩ := of_it hE hi hg0 hlp id g M hM hMl
    rw [itS_ne _ hm0] at hmo
    rw [ofS_nil] at hit
    generalize ofR id M = R at *
    by_cases hne : R = []
    · subst hne
      rw [ofS_nil] at hit
      simp -implicitDefEqProofs only [go_sem, ir_history_Of, hmo, hit, slOf, avN, ro_ev, ro_mo]
      try rfl
    · rw [ofS_ne _ _ _ _ _ hne] at hit
      rw [slOf_ne hne, avM]
      simp -implicitDefEqProofs only [go_sem, ir_history_Of, hmo, hit, take_map_all, ro_ev, ro_mo, ro_tx]
      try rfl
def MoT.full (m : MoT) : List UInt8 := Lib.itoa m.v.saga ++ 32 :: m.line
theorem saga_in {m : MoT} (h : m.ok) (hk : m.v.kind ≠ 0) : 0 ≤ m.v.saga ∧ m.v.saga ≤ 1125899906842624 := by
  obtain ⟨hg, hst⟩ := h.g.b rfl
  obtain ⟨k0, k10, n0, n1, s0⟩ := ev_in hg
  have hn : m.x.next ≤ 1125899906842624 := h.ok.n1
  refine ⟨s0, ?_⟩
  by_cases k1 : m.v.kind = 1
  · rw [hst k1]; exact hn
  · obtain ⟨d, t, s, s', a⟩ := h.act (by omega)
    have := a.i1
    omega
def alS (s : LS) (g : Nat) (M : List MoT) (h : Nat) : List (List UInt8) → Store
  | [] => [.loop 1001400 [.ref 1 0 0 0] s, .box [nilS], .box [.own 3 g 0 M.length], .row 18 g (M.map MoT.cells) false]
  | p :: r => [.loop 1001400 [.ref 1 0 0 0] s, .box [.own 4 h 0 (p :: r).length], .box [.own 3 g 0 M.length], .row 18 g (M.map MoT.cells) false, .row 1 h ((p :: r).map tx) false]
theorem alS_nil (s : LS) (g : Nat) (M : List MoT) (h : Nat) : alS s g M h [] = [.loop 1001400 [.ref 1 0 0 0] s, .box [nilS], .box [.own 3 g 0 M.length], .row 18 g (M.map MoT.cells) false] := rfl
theorem alS_ne (s : LS) (g : Nat) (M : List MoT) (h : Nat) {P : List (List UInt8)} (hP : P ≠ []) : alS s g M h P = [.loop 1001400 [.ref 1 0 0 0] s, .box [.own 4 h 0 P.length], .box [.own 3 g 0 M.length], .row 18 g (M.map MoT.cells) false, .row 1 h (P.map tx) false] := by
  cases P with
  | nil => exact absurd rfl hP
  | cons a l => rfl
set_option maxHeartbeats 4000000 in
theorem al_b1 {E : Prog} (hE : Std E fns) (hi : IOK E) (hg0 : E.glob 0 = some phTab) (hlp : LpO E) (m : MoT) (hm : m.ok) (hk : m.v.kind ≠ 0) (g : Nat) (M : List MoT) :
    callL E 1001400 [.agg m.cells, .ref 1 0 0 0] [] [.loop 1001400 [.ref 1 0 0 0] .busy, .box [nilS], .box [.own 3 g 0 M.length], .row 18 g (M.map MoT.cells) false, .box m.cells] = some (vi 0, [.loop 1001400 [.ref 1 0 0 0] .busy, .box [.own 5 0 0 1], .box [.own 3 g 0 M.length], .row 18 g (M.map MoT.cells) false, .box m.cells, .row 1 0 [tx m.full] false]) := by
  obtain ⟨hln, hll⟩ := fn_moLine hE hi hg0 m hm hk
  obtain ⟨g0, g1⟩ := saga_in hm hk
  have hit := hi m.v.saga (by omega) (by omega)
  have hil := itoa_len g0 (by omega)
  have e1 : (⟨#[32]⟩ : ByteArray) = BA [32] := rfl
  have s1 : ¬ (9223372036854775807 : Int) < (((BA (Lib.itoa m.v.saga)).size + (BA [32]).size : Nat) : Int) := by simp only [ba_size, List.length_cons, List.length_nil]; omega
  have s2 : ¬ (9223372036854775807 : Int) < (((BA (Lib.itoa m.v.saga ++ [32])).size + (BA m.line).size : Nat) : Int) := by simp only [ba_size, List.length_append, List.length_cons, List.length_nil]; omega
  rw [callL_loop (hlp.np 1001400 (by decide)) (by rw [hE.fn]; rfl) (by rw [hlp.loop]; rfl) rfl]
  have e2 : Lib.itoa m.v.saga ++ [32] ++ m.line = m.full := by simp [MoT.full]
  generalize m.full = F at *
  generalize m.line = Z at *
  simp only [MoT.cells] at hln
  simp -implicitDefEqProofs only [go_sem, ir_history_All_R0, MoT.cells, hln, hit, e1, ba_app, s1, s2, e2, tx, ro_ev, ro_def, ro_sg, ro_step, ro_mo]
  try rfl
set_option maxHeartbeats 4000000 in
theorem al_b2 {E : Prog} (hE : Std E fns) (hi : IOK E) (hg0 : E.glob 0 = some phTab) (hlp : LpO E) (m : MoT) (hm : m.ok) (hk : m.v.kind ≠ 0) (g : Nat) (M : List MoT) (P : List (List UInt8)) (h : Nat) (hP : P.length ≤ 100) :
    callL E 1001400 [.agg m.cells, .ref 1 0 0 0] [] [.loop 1001400 [.ref 1 0 0 0] .busy, .box [.own 4 h 0 P.length], .box [.own 3 g 0 M.length], .row 18 g (M.map MoT.cells) false, .row 1 h (P.map tx) false, .box m.cells] = some (vi 0, [.loop 1001400 [.ref 1 0 0 0] .busy, .box [.own 4 (h + 1) 0 (P ++ [m.full]).length], .box [.own 3 g 0 M.length], .row 18 g (M.map MoT.cells) false, .row 1 (h + 1) ((P ++ [m.full]).map tx) false, .box m.cells]) := by
  obtain ⟨hln, hll⟩ := fn_moLine hE hi hg0 m hm hk
  obtain ⟨g0, g1⟩ := saga_in hm hk
  have hit := hi m.v.saga (by omega) (by omega)
  have hil := itoa_len g0 (by omega)
  have e1 : (⟨#[32]⟩ : ByteArray) = BA [32] := rfl
  have s1 : ¬ (9223372036854775807 : Int) < (((BA (Lib.itoa m.v.saga)).size + (BA [32]).size : Nat) : Int) := by simp only [ba_size, List.length_cons, List.length_nil]; omega
  have s2 : ¬ (9223372036854775807 : Int) < (((BA (Lib.itoa m.v.saga ++ [32])).size + (BA m.line).size : Nat) : Int) := by simp only [ba_size, List.length_append, List.length_cons, List.length_nil]; omega
  have a1 : (P.length + 1) * 16 ≤ 140737488355328 := by omega
  have b1 : (P ++ [m.full]).length = P.length + 1 := by simp
  have b2 : (P ++ [m.full]).map tx = P.map tx ++ [tx m.full] := by simp
  have b3 : ∀ z, (P.map tx ++ [z]).take (P.length + 1) = P.map tx ++ [z] := fun z => List.take_of_length_le (by simp)
  have b4 : (P.map tx).take P.length = P.map tx := List.take_of_length_le (by simp)
  rw [callL_loop (hlp.np 1001400 (by decide)) (by rw [hE.fn]; rfl) (by rw [hlp.loop]; rfl) rfl, b1, b2]
  have e2 : Lib.itoa m.v.saga ++ [32] ++ m.line = m.full := by simp [MoT.full]
  generalize m.full = F at *
  generalize m.line = Z at *
  simp only [MoT.cells] at hln
  simp -implicitDefEqProofs only [go_sem, ir_history_All_R0, MoT.cells, hln, hit, e1, ba_app, s1, s2, e2, tx, a1, b3, b4, ro_ev, ro_def, ro_sg, ro_step, ro_mo, ro_tx]
  try rfl
set_option maxHeartbeats 4000000 in
theorem al_loop {E : Prog} (hE : Std E fns) (hi : IOK E) (hg0 : E.glob 0 = some phTab) (hlp : LpO E) (g : Nat) (M : List MoT) (hM : ∀ m, m ∈ M → m.ok) (hl : M.length ≤ 60) {L : Env × Store → Option (Sig × Env × Store)}
    (hL : ∀ e st, L (e, st) = (IR.runL E.glob (callL E) [] ir_history_moments_1_L0 e st).bind (seqK fun e st => L (compact [] 4 [0, 5, 6, 7] e st))) :
    ∀ (rest : List MoT) (i : Nat) (P : List (List UInt8)) (h : Nat), M.drop i = rest → i ≤ M.length → P.length ≤ i →
    ∃ h', L ([(0, .yl 0), (5, .own 3 g 0 M.length), (6, vi M.length), (7, vi i)], alS .rdy g M h P) = some (.exit 0, [], alS .rdy g M h' (P ++ allR rest))
  | [], i, P, h, h0, hi', hP => by
    have h1 : M.length = i := by have := congrArg List.length h0; simp at this; omega
    refine ⟨h, ?_⟩
    have e1 : P ++ allR [] = P := by simp [allR]
    rw [hL, e1]
    have w : ¬ ((i : Int) < (M.length : Int)) := by omega
    by_cases hne : P = []
    · subst hne
      simp -implicitDefEqProofs only [go_sem, ir_history_moments_1_L0, w, alS_nil, ro_mo]
    · simp -implicitDefEqProofs only [go_sem, ir_history_moments_1_L0, w, alS_ne _ _ _ _ hne, ro_mo, ro_tx]
  | m :: rest, i, P, h, h0, hi', hP => by
    have hlt : i < M.length := by
      have := congrArg List.length h0; simp at this; omega
    have hget : M[i]? = some m := by
      have : (M.drop i)[0]? = some m := by rw [h0]; rfl
      simpa using this
    have h2 : M.drop (i + 1) = rest := by
      have : (M.drop i).drop 1 = rest := by rw [h0]; rfl
      simpa [List.drop_drop] using this
    have h6 := wrap_succ (i := i) (by omega)
    have w : ((i : Int) < (M.length : Int)) := by omega
    have hm := hM m (List.mem_of_getElem? hget)
    have eg : M[i] = m := (List.getElem?_eq_some_iff.1 hget).2
    by_cases c : m.v.kind = 0
    · obtain ⟨h', ih⟩ := al_loop hE hi hg0 hlp g M hM hl hL rest (i + 1) P h h2 (by omega) (by omega)
      refine ⟨h', ?_⟩
      have e1 : allR (m :: rest) = allR rest := by rw [allR, if_pos c]
      rw [e1, ← ih, hL]
      by_cases hne : P = []
      · subst hne
        simp -implicitDefEqProofs only [go_sem, ir_history_moments_1_L0, w, ias_own, List.getElem?_map, hget, Option.map_some, hlt, eg, MoT.cells, c, h6, alS_nil, Nat.zero_add, Int.toNat_natCast, and_self, ro_ev, ro_def, ro_sg, ro_step, ro_mo, Int.natCast_nonneg]
      · simp -implicitDefEqProofs only [go_sem, ir_history_moments_1_L0, w, ias_own, List.getElem?_map, hget, Option.map_some, hlt, eg, MoT.cells, c, h6, alS_ne _ _ _ _ hne, Nat.zero_add, Int.toNat_natCast, and_self, ro_ev, ro_def, ro_sg, ro_step, ro_mo, ro_tx, Int.natCast_nonneg]
    · have hR : P ++ allR (m :: rest) = (P ++ [m.full]) ++ allR rest := by
        rw [allR, if_neg c]
        simp [MoT.full]
      rw [hR]
      by_cases hne : P = []
      · obtain ⟨h', ih⟩ := al_loop hE hi hg0 hlp g M hM hl hL rest (i + 1) (P ++ [m.full]) 0 h2 (by omega) (by simp only [List.length_append, List.length_cons, List.length_nil]; omega)
        refine ⟨h', ?_⟩
        rw [← ih, hL, alS_ne _ _ _ _ (ne_app P _)]
        subst hne
        have hb := al_b1 hE hi hg0 hlp m hm c g M
        simp only [MoT.cells, tx] at hb
        rw [alS_nil]
        simp -implicitDefEqProofs only [go_sem, ir_history_moments_1_L0, w, ias_own, List.getElem?_map, hget, Option.map_some, hlt, eg, MoT.cells, c, h6, hb, Nat.zero_add, Int.toNat_natCast, and_self, ro_ev, ro_def, ro_sg, ro_step, ro_mo, ro_tx, Int.natCast_nonneg]
        try rfl
      · obtain ⟨h', ih⟩ := al_loop hE hi hg0 hlp g M hM hl hL rest (i + 1) (P ++ [m.full]) (h + 1) h2 (by omega) (by simp only [List.length_append, List.length_cons, List.length_nil]; omega)
        refine ⟨h', ?_⟩
        rw [← ih, hL, alS_ne _ _ _ _ (ne_app P _), alS_ne _ _ _ _ hne]
        have hb := al_b2 hE hi hg0 hlp m hm c g M P h (by omega)
        generalize P ++ [m.full] = P2 at hb ⊢
        simp only [MoT.cells] at hb
        simp -implicitDefEqProofs only [go_sem, ir_history_moments_1_L0, w, ias_own, List.getElem?_map, hget, Option.map_some, hlt, eg, MoT.cells, c, h6, hb, Nat.zero_add, Int.toNat_natCast, and_self, ro_ev, ro_def, ro_sg, ro_step, ro_mo, ro_tx, Int.natCast_nonneg]
set_option maxHeartbeats 4000000 in
theorem al_it {E : Prog} (hE : Std E fns) (hi : IOK E) (hg0 : E.glob 0 = some phTab) (hlp : LpO E) (g : Nat) (M : List MoT) (hM : ∀ m, m ∈ M → m.ok) (hl : M.length ≤ 60) :
    ∃ h', callL E f_history_moments_1 [.yl 0, .ref 2 0 0 0] [] (alS .rdy g M 0 []) = some (.tup [], alS .rdy g M h' (allR M)) := by
  obtain ⟨h', hf⟩ := al_loop hE hi hg0 hlp g M hM hl (loopL_eq (IR.runL E.glob (callL E) [] ir_history_moments_1_L0) (compact [] 4 [0, 5, 6, 7])) M 0 [] 0 rfl (by omega) (by simp)
  refine ⟨h', ?_⟩
  rw [List.nil_append, Int.natCast_zero, alS_nil] at hf
  rw [hE.runN rfl rfl, alS_nil]
  generalize allR M = R at *
  by_cases hne : R = []
  · subst hne
    rw [alS_nil] at hf ⊢
    simp -implicitDefEqProofs only [go_sem, ir_history_moments_1, lenA_own, lenA_nil, List.length_map, hf, ro_mo]
    try rfl
  · rw [alS_ne _ _ _ _ hne] at hf ⊢
    simp -implicitDefEqProofs only [go_sem, ir_history_moments_1, lenA_own, lenA_nil, List.length_map, hf, ro_mo, ro_tx]
    try rfl
theorem al_none {E : Prog} (hE : Std E fns) :
    callL E f_history_moments_1 [.yl 0, .ref 2 0 0 0] [] [.loop 1001400 [.ref 1 0 0 0] .rdy, .box [nilS], .box [nilS]] = some (.tup [], [.loop 1001400 [.ref 1 0 0 0] .rdy, .box [nilS], .box [nilS]]) := by
  have hf := loopL_eq (IR.runL E.glob (callL E) [] ir_history_moments_1_L0) (compact [] 3 [0, 5, 6, 7]) [(0, .yl 0), (5, nilS), (6, vi 0), (7, vi 0)] [.loop 1001400 [.ref 1 0 0 0] .rdy, .box [nilS], .box [nilS]]
  simp -implicitDefEqProofs only [go_sem, ir_history_moments_1_L0] at hf
  rw [hE.runN rfl rfl]
  simp -implicitDefEqProofs only [go_sem, ir_history_moments_1, lenA_own, lenA_nil, hf]
  try rfl
set_option maxHeartbeats 4000000 in
theorem fn_All {E : Prog} (hE : Std E fns) (hi : IOK E) (hg0 : E.glob 0 = some phTab) (hlp : LpO E) (l : Sl EvT) (hl : l.list.length ≤ 60) (hs : ∀ v, v ∈ l.list → shortS v = 0) {T : List (StT × StT × CmT)} {b : Bool} (t : Steps E x0 x0 l.list T b) :
    callP E f_history_All [lv l] = some ((slOf (allR (if b = true then mosL x0 l.list T else []))).av 1 tx) := by
  obtain ⟨g, hmo⟩ := fn_moments hE l hl t
  have hok := mos_ok t gok0 hs
  have hml := mos_len x0 l.list T
  rw [hE.run rfl rfl]
  have hM : ∀ m, m ∈ (if b = true then mosL x0 l.list T else []) → m.ok := fun m hm => by
    split at hm
    · exact hok m hm
    · cases hm
  have hMl : (if b = true then mosL x0 l.list T else []).length ≤ 60 := by
    split
    · omega
    · simp
  generalize (if b = true then mosL x0 l.list T else []) = M at *
  by_cases hm0 : M = []
  · subst hm0
    have hit := al_none hE
    simp only [itS] at hmo
    simp -implicitDefEqProofs only [go_sem, ir_history_All, hmo, hit, allR, slOf, avN, ro_ev]
    try rfl
  · obtain ⟨h', hit⟩ := al_it hE hi hg0 hlp g M hM hMl
    rw [itS_ne _ hm0] at hmo
    rw [alS_nil] at hit
    generalize allR M = R at *
    by_cases hne : R = []
    · subst hne
      rw [alS_nil] at hit
      simp -implicitDefEqProofs only [go_sem, ir_history_All, hmo, hit, slOf, avN, ro_ev, ro_mo]
      try rfl
    · rw [alS_ne _ _ _ _ hne] at hit
      rw [slOf_ne hne, avM]
      simp -implicitDefEqProofs only [go_sem, ir_history_All, hmo, hit, take_map_all, ro_ev, ro_mo, ro_tx]
      try rfl
end Go.Proofs.YtoobogpbejdocaaGreatDoor.Ev
