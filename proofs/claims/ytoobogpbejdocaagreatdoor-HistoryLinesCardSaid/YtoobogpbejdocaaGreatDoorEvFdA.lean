import Derived.Test.YtoobogpbejdocaaGreatDoorEvSa
import Derived.Test.YtoobogpbejdocaaGreatDoorEvSg21
set_option linter.unusedVariables false
set_option linter.unusedSectionVars false
set_option linter.unusedSimpArgs false
namespace Go.Proofs.YtoobogpbejdocaaGreatDoor.Ev
attribute [local congr] bind_congr_head
attribute [local go_sem] AV.cells AV.tuple elems boxQ callN_any compact_same compact_new aggOf
abbrev limS : Int := 1048576
inductive Steps (E : Prog) : StT → StT → List EvT → List (StT × StT × CmT) → Bool → Prop
  | nil {x y : StT} : Steps E x y [] [] true
  | stop {x y : StT} {v : EvT} {r : List EvT} {x' y' : StT} {c : CmT} {e : Int} (he : e ≠ 0) (h1 : callP E f_state_Do [stA x, vA v, vi limS] = some (ansA x' c e)) (h2 : callP E f_usufructref16_Do [stA y, vA v, vi limS] = some (ansA y' c e)) : Steps E x y (v :: r) [] false
  | go {x y : StT} {v : EvT} {r : List EvT} {x' y' : StT} {c : CmT} {T : List (StT × StT × CmT)} {b : Bool} (h1 : callP E f_state_Do [stA x, vA v, vi limS] = some (ansA x' c 0)) (h2 : callP E f_usufructref16_Do [stA y, vA v, vi limS] = some (ansA y' c 0))
      (q : Eqv x' y') (ok : XOK x') (g : Grow x x' v 0) (t : Steps E x' y' r T b) : Steps E x y (v :: r) ((x', y', c) :: T) b
theorem steps_ex {E : Prog} (hk : LOK E) : ∀ (l : List EvT) (x y : StT), XOK x → NN x → Eqv x y → (∀ v, v ∈ l → shortS v = 0) → ∃ (T : List (StT × StT × CmT)) (b : Bool), Steps E x y l T b
  | [], x, y, _, _, _, _ => ⟨[], true, .nil⟩
  | v :: r, x, y, hx, hn, q, hs => by
    obtain ⟨s1, s2⟩ := short_ev (hs v List.mem_cons_self)
    obtain ⟨x', y', c, e, d1, d2, q', ok', nn', g, _⟩ := do_both hk.hE hk.hv hk.hi hk.hin hk.hdl x y hx hn q v s1 s2 limS
    by_cases he : e = 0
    · subst he
      obtain ⟨T, b, t⟩ := steps_ex hk r x' y' ok' nn' q' fun w hw => hs w (List.mem_cons_of_mem _ hw)
      exact ⟨(x', y', c) :: T, b, .go d1 d2 q' ok' g t⟩
    · exact ⟨[], false, .stop he d1 d2⟩
def lastX (x : StT) : List (StT × StT × CmT) → StT
  | [] => x
  | (x', _, _) :: T => lastX x' T
def zeroS : SgT := ⟨0, eTx, 0, 0, 0, 0, false, 0, 0⟩
def sgAt (S : List SgT) (k : Int) : SgT × Bool := match S[(fidx (isId k) S 0).toNat]? with | some s => if 0 ≤ fidx (isId k) S 0 then (s, true) else (zeroS, false) | none => (zeroS, false)
theorem sgAt_no {S : List SgT} {k : Int} (h : fidx (isId k) S 0 = -1) : sgAt S k = (zeroS, false) := by
  unfold sgAt
  rw [h]
  split <;> simp
theorem sgAt_yes {S : List SgT} {k : Int} {i : Nat} {s : SgT} (h : fidx (isId k) S 0 = (i : Int)) (hs : S[i]? = some s) : sgAt S k = (s, true) := by
  unfold sgAt
  rw [h, Int.toNat_natCast, hs]
  simp
theorem fn_stFind {E : Prog} (hE : Std E fns) (x : StT) (hl : x.sagas.list.length ≤ 1048576) (k : Int) : callP E f_state_Find [stA x, vi k] = some (.tup [sA (sgAt x.sagas.list k).1, vb (sgAt x.sagas.list k).2]) := by
  have hf := fn_findS hE k x.sagas (by omega)
  rw [hE.run rfl rfl]
  rcases fidx_cases (isId k) x.sagas.list 0 with ⟨h1, _⟩ | ⟨i, s, h1, h2, _, _⟩
  · rw [h1] at hf
    rw [sgAt_no h1]
    simp -implicitDefEqProofs only [go_sem, ir_state_Find, hf, ro_def, ro_sg]
    try rfl
  · rw [Nat.zero_add] at h1
    rw [h1] at hf
    rw [sgAt_yes h1 h2]
    have h3 : ¬ ((i : Int) < 0) := by omega
    simp -implicitDefEqProofs only [go_sem, ir_state_Find, hf, h2, h3, ro_def, ro_sg, Int.natCast_nonneg, SgT.cells]
abbrev x0 : StT := ⟨.nil, .nil, 0⟩
theorem lsM {α : Type} (xs : List α) : (Sl.mk xs).list = xs := rfl
def StT.cells (x : StT) : List AV := [x.defs.av 3 DefT.cells, x.sagas.av 9 SgT.cells, vi x.next]
def CmT.cells (c : CmT) : List AV := [vi c.saga, vi c.step, vb c.undo, vi c.try_, vs c.party, vs c.key]
theorem ro_cm : Ro CmT.cells := fun _ => rfl
theorem ro_st : Ro StT.cells := fun x => by
  have h1 := ids_avR (k := 3) (s := x.defs) ro_def
  have h2 := ids_avR (k := 9) (s := x.sagas) ro_sg
  simp only [StT.cells, idss, AV.ids, h1, h2, List.append_nil]
abbrev yT (T : List (StT × StT × CmT)) : List StT := T.map fun t => t.2.1
abbrev cT (T : List (StT × StT × CmT)) : List CmT := T.map fun t => t.2.2
abbrev z3 : Ob := .box [.v (.slice none 0 0), .v (.slice none 0 0), .v (.int .i64 0)]
def trS (g h : Nat) (bad : Int) (P : List StT) (Q : List CmT) : Store := match Q with
  | [] => [z3, .row 3 g (P.map StT.cells) false, .box [.own 1 g 0 P.length, .v (.slice none 0 0), vi bad]]
  | _ :: _ => [z3, .row 3 g (P.map StT.cells) false, .box [.own 1 g 0 P.length, .own 3 h 0 Q.length, vi bad], .row 6 h (Q.map CmT.cells) false]
theorem trS_nil (g h : Nat) (bad : Int) (P : List StT) : trS g h bad P [] = [z3, .row 3 g (P.map StT.cells) false, .box [.own 1 g 0 P.length, .v (.slice none 0 0), vi bad]] := rfl
theorem trS_ne (g h : Nat) (bad : Int) (P : List StT) {Q : List CmT} (hq : Q ≠ []) : trS g h bad P Q = [z3, .row 3 g (P.map StT.cells) false, .box [.own 1 g 0 P.length, .own 3 h 0 Q.length, vi bad], .row 6 h (Q.map CmT.cells) false] := by
  cases Q with
  | nil => exact absurd rfl hq
  | cons a l => rfl
set_option maxHeartbeats 4000000 in
theorem fol_loop {E : Prog} (hE : Std E fns) (l : Sl EvT) (hl : l.list.length ≤ 60) {L : Env × Store → Option (Sig × Env × Store)}
    (hL : ∀ e st, L (e, st) = (IR.runL E.glob (callL E) [] ir_usufructref24_Follow_L0 e st).bind (seqK fun e st => L (compact [] 3 [0, 2, 3, 4] e st)))
    {rest : List EvT} {x y : StT} {T : List (StT × StT × CmT)} {b : Bool} (t : Steps E x y rest T b) :
    ∀ (i : Nat) (P : List StT) (Q : List CmT) (g h : Nat), l.list.drop i = rest → i ≤ l.list.length → P.length = i + 1 → P[i]? = some y → Q.length = i →
    ∃ (g' h' : Nat) (y2 : StT) (c2 : CmT) (P' : List StT) (Q' : List CmT) (n : Nat), L ([(0, lv l), (2, .ref 0 0 0 0), (3, .ref 2 0 0 0), (4, vi i)], trS g h (-1) P Q) =
      if b = true then some (.exit 0, [(2, .ref 0 0 0 0), (3, .ref 2 0 0 0)], trS g' h' (-1) (P ++ yT T) (Q ++ cT T))
      else some (.ret, [(2, .ref 0 0 0 0)], (.box [.own 1 g' 0 P'.length, (if Q' = [] then .v (.slice none 0 0) else .own 3 h' 0 Q'.length), vi n]) :: ((trS g' h' n P' Q').tail ++ [.box [y2.defs.av 3 DefT.cells, y2.sagas.av 9 SgT.cells, vi y2.next], .box [vi c2.saga, vi c2.step, vb c2.undo, vi c2.try_, vs c2.party, vs c2.key]])) := by
  induction t with
  | @nil x y =>
    intro i P Q g h h0 hi hP hy hQ
    have h1 := drop_nil' h0 hi
    refine ⟨g, h, y, cm0, [], [], 0, ?_⟩
    rw [hL, if_pos rfl]
    by_cases hne : Q = []
    · subst hne
      simp -implicitDefEqProofs only [go_sem, ir_usufructref24_Follow_L0, h1, trS_nil, List.map_nil, List.append_nil, ro_ev, ro_st, ro_cm]
    · have hm : Q ++ cT [] = Q := by simp
      have hp : P ++ yT [] = P := by simp
      rw [hm, hp]
      simp -implicitDefEqProofs only [go_sem, ir_usufructref24_Follow_L0, h1, trS_ne _ _ _ _ hne, ro_ev, ro_st, ro_cm]
  | @stop x y v r x' y' c e he d1 d2 =>
    intro i P Q g h h0 hi hP hy hQ
    obtain ⟨h1, h2, h3, h4, h5⟩ := drop_cons h0
    refine ⟨g, h, y', c, P, Q, i, ?_⟩
    have hlt : i < P.length := by omega
    unfold ansA at d2
    rw [hL, if_neg (by decide)]
    by_cases hne : Q = []
    · subst hne
      rw [if_pos rfl]
      simp -implicitDefEqProofs only [go_sem, ir_usufructref24_Follow_L0, h1, h3, hy, hlt, ias_own, List.getElem?_map, Option.map_some, Nat.zero_add, Int.toNat_natCast, and_self, EvT.cells, StT.cells, d2, he, trS_nil, List.tail_cons, List.cons_append, List.nil_append, ro_ev, ro_def, ro_sg, ro_step, ro_st, ro_cm, Int.natCast_nonneg]
    · rw [if_neg hne]
      simp -implicitDefEqProofs only [go_sem, ir_usufructref24_Follow_L0, h1, h3, hy, hlt, ias_own, List.getElem?_map, Option.map_some, Nat.zero_add, Int.toNat_natCast, and_self, EvT.cells, StT.cells, d2, he, trS_ne _ _ _ _ hne, List.tail_cons, List.cons_append, List.nil_append, ro_ev, ro_def, ro_sg, ro_step, ro_st, ro_cm, Int.natCast_nonneg]
  | @go x y v r x' y' c T b d1 d2 q ok gr t ih =>
    intro i P Q g h h0 hi hP hy hQ
    obtain ⟨h1, h2, h3, h4, h5⟩ := drop_cons h0
    have h6 := wrap_succ (i := i) (by omega)
    have hlt : i < P.length := by omega
    have a1 : (P.length + 1) * 56 ≤ 140737488355328 := by omega
    have a2 : (Q.length + 1) * 64 ≤ 140737488355328 := by omega
    unfold ansA at d2
    have e1 : P ++ yT ((x', y', c) :: T) = (P ++ [y']) ++ yT T := by simp
    have e2 : Q ++ cT ((x', y', c) :: T) = (Q ++ [c]) ++ cT T := by simp
    have b1 : (P ++ [y']).length = P.length + 1 := by simp
    have b2 : (P ++ [y']).map StT.cells = P.map StT.cells ++ [y'.cells] := by simp
    have b3 : ∀ z, (P.map StT.cells ++ [z]).take (P.length + 1) = P.map StT.cells ++ [z] := fun z => List.take_of_length_le (by simp)
    have b4 : (P.map StT.cells).take P.length = P.map StT.cells := List.take_of_length_le (by simp)
    have c1 : (Q ++ [c]).length = Q.length + 1 := by simp
    have c2 : (Q ++ [c]).map CmT.cells = Q.map CmT.cells ++ [c.cells] := by simp
    have c3 : ∀ z, (Q.map CmT.cells ++ [z]).take (Q.length + 1) = Q.map CmT.cells ++ [z] := fun z => List.take_of_length_le (by simp)
    have c4 : (Q.map CmT.cells).take Q.length = Q.map CmT.cells := List.take_of_length_le (by simp)
    rw [e1, e2]
    have hP' : (P ++ [y'])[i + 1]? = some y' := by rw [List.getElem?_append_right (by omega)]; simp [hP]
    by_cases hne : Q = []
    · obtain ⟨g', h', y2, c2', P', Q', n, ih⟩ := ih (i + 1) (P ++ [y']) (Q ++ [c]) (g + 1) 0 h2 h4 (by simp [hP]) hP' (by simp [hQ])
      refine ⟨g', h', y2, c2', P', Q', n, ?_⟩
      rw [← ih, hL, trS_ne _ _ _ _ (ne_app Q c), b1, b2, c1, c2]
      subst hne
      simp -implicitDefEqProofs only [go_sem, ir_usufructref24_Follow_L0, h1, h3, h6, hy, hlt, a1, b3, b4, ias_own, List.getElem?_map, Option.map_some, Nat.zero_add, Int.toNat_natCast, and_self, EvT.cells, StT.cells, CmT.cells, d2, trS_nil, List.map_nil, List.length_nil, List.nil_append, ro_ev, ro_def, ro_sg, ro_step, ro_st, ro_cm, Int.natCast_nonneg]
    · obtain ⟨g', h', y2, c2', P', Q', n, ih⟩ := ih (i + 1) (P ++ [y']) (Q ++ [c]) (g + 1) (h + 1) h2 h4 (by simp [hP]) hP' (by simp [hQ])
      refine ⟨g', h', y2, c2', P', Q', n, ?_⟩
      rw [← ih, hL, trS_ne _ _ _ _ (ne_app Q c), b1, b2, c1, c2]
      simp -implicitDefEqProofs only [go_sem, ir_usufructref24_Follow_L0, h1, h3, h6, hy, hlt, a1, a2, b3, b4, c3, c4, ias_own, List.getElem?_map, Option.map_some, Nat.zero_add, Int.toNat_natCast, and_self, EvT.cells, StT.cells, CmT.cells, d2, trS_ne _ _ _ _ hne, ro_ev, ro_def, ro_sg, ro_step, ro_st, ro_cm, Int.natCast_nonneg]
def trA (P : List StT) (Q : List CmT) (bad : Int) : AV := .agg [(Sl.mk P).av 3 StT.cells, (slOf Q).av 6 CmT.cells, vi bad]
theorem fn_trail {E : Prog} (hE : Std E fns) (l : Sl EvT) (hl : l.list.length ≤ 60) {T : List (StT × StT × CmT)} {b : Bool} (t : Steps E x0 x0 l.list T b) :
    ∃ (P : List StT) (Q : List CmT) (bad : Int), callP E f_usufructref24_Follow [lv l] = some (trA P Q bad) ∧ (b = true → P = x0 :: yT T ∧ Q = cT T ∧ bad = -1) ∧ (b = false → 0 ≤ bad) := by
  obtain ⟨g, h, y2, c2, P', Q', n, hf⟩ := fol_loop hE l hl (loopL_eq (IR.runL E.glob (callL E) [] ir_usufructref24_Follow_L0) (compact [] 3 [0, 2, 3, 4])) t 0 [x0] [] 0 0 rfl (by omega) rfl rfl rfl
  simp only [Int.natCast_zero, trS_nil, List.map_cons, List.map_nil, List.length_cons, List.length_nil, Nat.zero_add, StT.cells, avN, List.nil_append] at hf
  cases b with
  | true =>
    rw [if_pos rfl] at hf
    refine ⟨[x0] ++ yT T, cT T, -1, ?_, fun _ => ⟨rfl, rfl, rfl⟩, fun h => (by cases h)⟩
    generalize [x0] ++ yT T = P at hf ⊢
    generalize cT T = Q at hf ⊢
    by_cases hne : Q = []
    · subst hne
      rw [trS_nil] at hf
      rw [trA, hE.run rfl rfl]
      simp -implicitDefEqProofs only [go_sem, ir_usufructref24_Follow, hf, avM, take_map_all, ro_ev, ro_st, ro_cm, ro_def, ro_sg]
      rfl
    · rw [trS_ne _ _ _ _ hne] at hf
      rw [trA, slOf_ne hne, hE.run rfl rfl]
      simp -implicitDefEqProofs only [go_sem, ir_usufructref24_Follow, hf, avM, take_map_all, ro_ev, ro_st, ro_cm, ro_def, ro_sg]
  | false =>
    rw [if_neg (by decide)] at hf
    refine ⟨P', Q', n, ?_, fun h => (by cases h), fun _ => Int.natCast_nonneg n⟩
    by_cases hne : Q' = []
    · subst hne
      rw [if_pos rfl, trS_nil, List.tail_cons] at hf
      simp only [List.cons_append, List.nil_append] at hf
      rw [trA, hE.run rfl rfl]
      simp -implicitDefEqProofs only [go_sem, ir_usufructref24_Follow, hf, avM, take_map_all, ro_ev, ro_st, ro_cm, ro_def, ro_sg]
      rfl
    · rw [if_neg hne, trS_ne _ _ _ _ hne, List.tail_cons] at hf
      simp only [List.cons_append, List.nil_append] at hf
      rw [trA, slOf_ne hne, hE.run rfl rfl]
      simp -implicitDefEqProofs only [go_sem, ir_usufructref24_Follow, hf, avM, take_map_all, ro_ev, ro_st, ro_cm, ro_def, ro_sg]
end Go.Proofs.YtoobogpbejdocaaGreatDoor.Ev
