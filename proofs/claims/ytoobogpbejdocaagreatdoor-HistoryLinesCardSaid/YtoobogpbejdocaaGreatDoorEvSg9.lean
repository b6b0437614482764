import Derived.Test.YtoobogpbejdocaaGreatDoorEvSa
import Derived.Test.YtoobogpbejdocaaGreatDoorEvSg6
import Derived.Sort.Walk0
set_option linter.unusedVariables false
set_option linter.unusedSectionVars false
set_option linter.unusedSimpArgs false
namespace Go.Proofs.YtoobogpbejdocaaGreatDoor.Ev
attribute [local congr] bind_congr_head
attribute [local go_sem] AV.cells AV.tuple elems boxQ callN_any compact_same compact_new aggOf
structure StT where
  defs : Sl DefT
  sagas : Sl SgT
  next : Int
theorem ro_def : Ro DefT.cells := fun d => by
  have := ids_avR (k := 12) (s := d.steps) ro_step
  simp only [DefT.cells, idss, AV.ids, this, List.append_nil]
theorem ro_sg : Ro SgT.cells := fun _ => rfl
theorem def_ids (d : DefT) : idss d.cells = [] := ro_def d
theorem sg_ids (s : SgT) : idss s.cells = [] := rfl
theorem def_rens (ρ : Nat → Nat) (d : DefT) : rens ρ d.cells = d.cells := rens_R ro_def d
theorem sg_rens (ρ : Nat → Nat) (s : SgT) : rens ρ s.cells = s.cells := rfl
theorem def_le (d : DefT) : (3 ≤ d.cells.length) = True := eq_true (by show 3 ≤ 3; omega)
theorem sg_le (s : SgT) : (9 ≤ s.cells.length) = True := eq_true (by show 9 ≤ 9; omega)
theorem def_take (d : DefT) : d.cells.take 3 = d.cells := rfl
theorem sg_take (s : SgT) : s.cells.take 9 = s.cells := rfl
theorem def_snaps (st : Store) (d : DefT) : snaps st d.cells = some d.cells := snaps_R ro_def d
theorem sg_snaps (st : Store) (s : SgT) : snaps st s.cells = some s.cells := rfl
theorem sg_belows (n : Nat) (s : SgT) : belows n s.cells = true := rfl
theorem def_belows (n : Nat) (d : DefT) : belows n d.cells = true := belows_R ro_def d
def fidx {α : Type} (p : α → Bool) : List α → Nat → Int
  | [], _ => -1
  | x :: r, i => if p x = true then (i : Int) else fidx p r (i + 1)
theorem fidx_neg {α : Type} (p : α → Bool) : ∀ (l : List α) (i : Nat), ¬ 0 ≤ fidx p l i → fidx p l i = -1
  | [], _, _ => rfl
  | x :: r, i, h => by
    unfold fidx at h ⊢
    split
    · rename_i c; rw [if_pos c] at h; omega
    · rename_i c; rw [if_neg c] at h; exact fidx_neg p r (i + 1) h
theorem fidx_cases {α : Type} (p : α → Bool) : ∀ (l : List α) (i : Nat), (fidx p l i = -1 ∧ ∀ x, x ∈ l → p x = false) ∨
    (∃ (k : Nat) (x : α), fidx p l i = ((i + k : Nat) : Int) ∧ l[k]? = some x ∧ p x = true ∧ ∀ (j : Nat) (y : α), j < k → l[j]? = some y → p y = false)
  | [], i => .inl ⟨rfl, by simp⟩
  | x :: r, i => by
    unfold fidx
    by_cases c : p x = true
    · rw [if_pos c]
      exact .inr ⟨0, x, rfl, rfl, c, fun j y h => by omega⟩
    · rw [if_neg c]
      rcases fidx_cases p r (i + 1) with ⟨h1, h2⟩ | ⟨k, y, h1, h2, h3, h4⟩
      · refine .inl ⟨h1, fun y hy => ?_⟩
        rcases List.mem_cons.1 hy with rfl | hy
        · simpa using c
        · exact h2 y hy
      · refine .inr ⟨k + 1, y, by rw [h1]; congr 1; omega, h2, h3, fun j z hj hz => ?_⟩
        cases j with
        | zero => simp only [List.getElem?_cons_zero, Option.some.injEq] at hz; subst hz; simpa using c
        | succ j => exact h4 j z (by omega) hz
theorem fn_name {E : Prog} (hE : Std E fns) (d : DefT) : callP E f_state_name [.agg d.cells] = some (vs d.name) := by
  rw [hE.run rfl rfl]
  simp -implicitDefEqProofs only [go_sem, ir_state_name, DefT.cells, ro_step]
theorem fn_number {E : Prog} (hE : Std E fns) (s : SgT) : callP E f_state_number [.agg s.cells] = some (vi s.id) := by
  rw [hE.run rfl rfl]
  simp -implicitDefEqProofs only [go_sem, ir_state_number, SgT.cells]
theorem fn_find1 {E : Prog} (hE : Std E fns) (k : ByteArray) (d : DefT) : callL E f_state_find_api_Def_string_1 [.agg d.cells, .ref 0 0 0 0, .ref 1 0 0 0] [] [.box [.fn f_state_name []], .box [vs k]] = some (vb (decide (d.name = k)), [.box [.fn f_state_name []], .box [vs k]]) := by
  have h := fn_name hE d
  simp only [DefT.cells] at h
  rw [hE.runN rfl rfl]
  simp -implicitDefEqProofs only [go_sem, ir_state_find_api_Def_string_1, DefT.cells, h, ro_step]
theorem fn_find2 {E : Prog} (hE : Std E fns) (k : Int) (s : SgT) : callL E f_state_find_api_Saga_int_1 [.agg s.cells, .ref 0 0 0 0, .ref 1 0 0 0] [] [.box [.fn f_state_number []], .box [vi k]] = some (vb (decide (s.id = k)), [.box [.fn f_state_number []], .box [vi k]]) := by
  have h := fn_number hE s
  simp only [SgT.cells] at h
  rw [hE.runN rfl rfl]
  simp -implicitDefEqProofs only [go_sem, ir_state_find_api_Saga_int_1, SgT.cells, h, int_beq]
abbrev isNm (k : ByteArray) (d : DefT) : Bool := decide (d.name = k)
abbrev isId (k : Int) (s : SgT) : Bool := decide (s.id = k)
theorem ixD_loop {E : Prog} (hE : Std E fns) (k : ByteArray) {L : Env × Store → Option (Sig × Env × Store)} (l : Sl DefT) (hl : l.list.length < 9223372036854775807) (hcl : ∀ x, x ∈ l.list → callL E f_state_find_api_Def_string_1 ([.agg x.cells] ++ [.ref 0 0 0 0, .ref 1 0 0 0]) [] [.box [.fn f_state_name []], .box [vs k]] = some (vb (isNm k x), [.box [.fn f_state_name []], .box [vs k]]))
    (hL : ∀ e st, L (e, st) = (IR.runL E.glob (callL E) [] ir_slices_IndexFunc_api_Def_api_Def_L0 e st).bind (seqK fun e st => L (compact [] 2 [0, 1, 7, 8] e st))) :
    ∀ (rest : List DefT) (i : Nat), l.list.drop i = rest → i ≤ l.list.length →
    L ([(0, l.av 3 DefT.cells), (1, .fn f_state_find_api_Def_string_1 [.ref 0 0 0 0, .ref 1 0 0 0]), (7, vi l.list.length), (8, vi i)], [.box [.fn f_state_name []], .box [vs k]]) = if 0 ≤ fidx (isNm k) rest i then some (.ret, [(4, vi (fidx (isNm k) rest i))], [.box [.fn f_state_name []], .box [vs k]]) else some (.exit 0, [], [.box [.fn f_state_name []], .box [vs k]])
  | [], i, h, hi => by
    have h1 := drop_nil' h hi
    rw [hL]
    simp -implicitDefEqProofs only [go_sem, ir_slices_IndexFunc_api_Def_api_Def_L0, h1, fidx]
  | x :: rest, i, h, hi => by
    obtain ⟨h1, h2, h3, h4, h5⟩ := drop_cons h
    have h6 := wrap_succ (i := i) (by omega)
    have hs := hcl x (List.mem_of_getElem? h1)
    have ih := ixD_loop hE k l hl hcl hL rest (i + 1) h2 h4
    simp only [List.cons_append, List.nil_append, List.length_cons, List.length_nil, Nat.zero_add, Nat.reduceAdd] at hs ih hL
    rw [hL]
    cases c : (isNm k) x with
    | true =>
      rw [c] at hs
      simp -implicitDefEqProofs only [go_sem, ir_slices_IndexFunc_api_Def_api_Def_L0, h1, h3, def_ids, def_rens, def_le, def_take, h6, hs, fidx, c, ro_def, Int.natCast_nonneg]
    | false =>
      rw [c] at hs
      simp -implicitDefEqProofs only [go_sem, ir_slices_IndexFunc_api_Def_api_Def_L0, h1, h3, def_ids, def_rens, def_le, def_take, h6, hs, fidx, c, ih, ro_def]
theorem ixD_fn {E : Prog} (hE : Std E fns) (k : ByteArray) (l : Sl DefT) (hl : l.list.length < 9223372036854775807) (hcl : ∀ x, x ∈ l.list → callL E f_state_find_api_Def_string_1 ([.agg x.cells] ++ [.ref 0 0 0 0, .ref 1 0 0 0]) [] [.box [.fn f_state_name []], .box [vs k]] = some (vb (isNm k x), [.box [.fn f_state_name []], .box [vs k]])) :
    callL E f_slices_IndexFunc_api_Def_api_Def [l.av 3 DefT.cells, .fn f_state_find_api_Def_string_1 [.ref 0 0 0 0, .ref 1 0 0 0]] [] [.box [.fn f_state_name []], .box [vs k]] = some (vi (fidx (isNm k) l.list 0), [.box [.fn f_state_name []], .box [vs k]]) := by
  have ih := ixD_loop hE k l hl hcl (loopL_eq (IR.runL E.glob (callL E) [] ir_slices_IndexFunc_api_Def_api_Def_L0) (compact [] 2 [0, 1, 7, 8])) l.list 0 rfl (by omega)
  simp only [Int.natCast_zero, List.length_cons, List.length_nil, Nat.zero_add, Nat.reduceAdd] at ih
  rw [hE.runN rfl rfl]
  by_cases c : 0 ≤ fidx (isNm k) l.list 0
  · rw [if_pos c] at ih
    simp -implicitDefEqProofs only [go_sem, ir_slices_IndexFunc_api_Def_api_Def, ih, ro_def]
  · rw [if_neg c] at ih
    have := fidx_neg (isNm k) l.list 0 c
    simp -implicitDefEqProofs only [go_sem, ir_slices_IndexFunc_api_Def_api_Def, ih, this, ro_def]
theorem ixS_loop {E : Prog} (hE : Std E fns) (k : Int) {L : Env × Store → Option (Sig × Env × Store)} (l : Sl SgT) (hl : l.list.length < 9223372036854775807) (hcl : ∀ x, x ∈ l.list → callL E f_state_find_api_Saga_int_1 ([.agg x.cells] ++ [.ref 0 0 0 0, .ref 1 0 0 0]) [] [.box [.fn f_state_number []], .box [vi k]] = some (vb (isId k x), [.box [.fn f_state_number []], .box [vi k]]))
    (hL : ∀ e st, L (e, st) = (IR.runL E.glob (callL E) [] ir_slices_IndexFunc_api_Saga_api_Saga_L0 e st).bind (seqK fun e st => L (compact [] 2 [0, 1, 7, 8] e st))) :
    ∀ (rest : List SgT) (i : Nat), l.list.drop i = rest → i ≤ l.list.length →
    L ([(0, l.av 9 SgT.cells), (1, .fn f_state_find_api_Saga_int_1 [.ref 0 0 0 0, .ref 1 0 0 0]), (7, vi l.list.length), (8, vi i)], [.box [.fn f_state_number []], .box [vi k]]) = if 0 ≤ fidx (isId k) rest i then some (.ret, [(4, vi (fidx (isId k) rest i))], [.box [.fn f_state_number []], .box [vi k]]) else some (.exit 0, [], [.box [.fn f_state_number []], .box [vi k]])
  | [], i, h, hi => by
    have h1 := drop_nil' h hi
    rw [hL]
    simp -implicitDefEqProofs only [go_sem, ir_slices_IndexFunc_api_Saga_api_Saga_L0, h1, fidx]
  | x :: rest, i, h, hi => by
    obtain ⟨h1, h2, h3, h4, h5⟩ := drop_cons h
    have h6 := wrap_succ (i := i) (by omega)
    have hs := hcl x (List.mem_of_getElem? h1)
    have ih := ixS_loop hE k l hl hcl hL rest (i + 1) h2 h4
    simp only [List.cons_append, List.nil_append, List.length_cons, List.length_nil, Nat.zero_add, Nat.reduceAdd] at hs ih hL
    rw [hL]
    cases c : (isId k) x with
    | true =>
      rw [c] at hs
      simp -implicitDefEqProofs only [go_sem, ir_slices_IndexFunc_api_Saga_api_Saga_L0, h1, h3, sg_ids, sg_rens, sg_le, sg_take, h6, hs, fidx, c, ro_sg, Int.natCast_nonneg]
    | false =>
      rw [c] at hs
      simp -implicitDefEqProofs only [go_sem, ir_slices_IndexFunc_api_Saga_api_Saga_L0, h1, h3, sg_ids, sg_rens, sg_le, sg_take, h6, hs, fidx, c, ih, ro_sg]
theorem ixS_fn {E : Prog} (hE : Std E fns) (k : Int) (l : Sl SgT) (hl : l.list.length < 9223372036854775807) (hcl : ∀ x, x ∈ l.list → callL E f_state_find_api_Saga_int_1 ([.agg x.cells] ++ [.ref 0 0 0 0, .ref 1 0 0 0]) [] [.box [.fn f_state_number []], .box [vi k]] = some (vb (isId k x), [.box [.fn f_state_number []], .box [vi k]])) :
    callL E f_slices_IndexFunc_api_Saga_api_Saga [l.av 9 SgT.cells, .fn f_state_find_api_Saga_int_1 [.ref 0 0 0 0, .ref 1 0 0 0]] [] [.box [.fn f_state_number []], .box [vi k]] = some (vi (fidx (isId k) l.list 0), [.box [.fn f_state_number []], .box [vi k]]) := by
  have ih := ixS_loop hE k l hl hcl (loopL_eq (IR.runL E.glob (callL E) [] ir_slices_IndexFunc_api_Saga_api_Saga_L0) (compact [] 2 [0, 1, 7, 8])) l.list 0 rfl (by omega)
  simp only [Int.natCast_zero, List.length_cons, List.length_nil, Nat.zero_add, Nat.reduceAdd] at ih
  rw [hE.runN rfl rfl]
  by_cases c : 0 ≤ fidx (isId k) l.list 0
  · rw [if_pos c] at ih
    simp -implicitDefEqProofs only [go_sem, ir_slices_IndexFunc_api_Saga_api_Saga, ih, ro_sg]
  · rw [if_neg c] at ih
    have := fidx_neg (isId k) l.list 0 c
    simp -implicitDefEqProofs only [go_sem, ir_slices_IndexFunc_api_Saga_api_Saga, ih, this, ro_sg]
theorem fn_findD {E : Prog} (hE : Std E fns) (k : ByteArray) (l : Sl DefT) (hl : l.list.length < 9223372036854775807) : callP E f_state_find_api_Def_string [l.av 3 DefT.cells, vs k, .fn f_state_name []] = some (vi (fidx (isNm k) l.list 0)) := by
  have h := ixD_fn hE k l hl (fun d _ => fn_find1 hE k d)
  rw [hE.run rfl rfl]
  simp -implicitDefEqProofs only [go_sem, ir_state_find_api_Def_string, h, ro_def]
theorem fn_findS {E : Prog} (hE : Std E fns) (k : Int) (l : Sl SgT) (hl : l.list.length < 9223372036854775807) : callP E f_state_find_api_Saga_int [l.av 9 SgT.cells, vi k, .fn f_state_number []] = some (vi (fidx (isId k) l.list 0)) := by
  have h := ixS_fn hE k l hl (fun s _ => fn_find2 hE k s)
  rw [hE.run rfl rfl]
  simp -implicitDefEqProofs only [go_sem, ir_state_find_api_Saga_int, h, ro_sg]
def kyB (n : ByteArray) : List UInt8 := n.data.toList
theorem kyB_inj {a b : ByteArray} (h : kyB a = kyB b) : a = b := by
  cases a; cases b
  simp only [kyB] at h
  congr 1
  exact Array.ext' h
theorem bLess (a b : ByteArray) : Op.bytesLess a.toList b.toList = decide (kyB a < kyB b) := by
  rw [ByteArray.toList_eq, ByteArray.toList_eq]
  exact Go.Proofs.bytesLess_eq _ _
abbrev ltN (a b : DefT) : Prop := kyB a.name < kyB b.name
abbrev ltI (a b : SgT) : Prop := a.id < b.id
structure GOK (D : List DefT) (S : List SgT) (nx : Int) : Prop where
  dl : D.length ≤ 64
  dk : ∀ d, d ∈ D → DOK d
  ds : D.Pairwise ltN
  ss : S.Pairwise ltI
  sl : S.length ≤ 1048576
  sk : ∀ s, s ∈ S → s.id < nx ∧ ∃ d t, d ∈ D ∧ SOK d s t
  n0 : 0 ≤ nx
  n1 : nx ≤ 1125899906842624
theorem pw_at {α : Type} {R : α → α → Prop} {l : List α} (h : l.Pairwise R) {i : Nat} {x y : α} (h1 : l[i]? = some y) (h2 : l[i + 1]? = some x) : R y x := by
  obtain ⟨a1, rfl⟩ := List.getElem?_eq_some_iff.1 h1
  obtain ⟨a2, rfl⟩ := List.getElem?_eq_some_iff.1 h2
  exact List.pairwise_iff_getElem.1 h i (i + 1) a1 a2 (by omega)
theorem pred_at {α : Type} {l rest : List α} {i : Nat} {x : α} (h : l.drop (i + 1) = x :: rest) : ∃ y, l[i]? = some y := by
  have h1 := (drop_cons h).1
  have h2 := (List.getElem?_eq_some_iff.1 h1).1
  exact ⟨l[i], List.getElem?_eq_getElem (by omega)⟩
theorem pred_i (i : Nat) : IntKind.i64.wrap (((i + 1 : Nat) : Int) - 1) = (i : Int) ∨ 9223372036854775807 < i := by
  by_cases h : i ≤ 9223372036854775807
  · exact .inl (by rw [show ((i + 1 : Nat) : Int) - 1 = i by omega]; exact IntWalk.i64_in _ (by omega))
  · exact .inr (by omega)
theorem rsD_loop {E : Prog} (hE : Std E fns) (l : Sl DefT) (hl : l.list.length ≤ 1048576) (hs : l.list.Pairwise ltN) {L : Env × Store → Option (Sig × Env × Store)}
    (hL : ∀ e st, L (e, st) = (IR.runL E.glob (callL E) [] ir_state_rises_api_Def_string_L0 e st).bind (seqK fun e st => L (compact [] 0 [0, 1, 5] e st))) :
    ∀ (rest : List DefT) (i : Nat), l.list.drop (i + 1) = rest → L ([(0, l.av 3 DefT.cells), (1, .fn f_state_name []), (5, vi ((i + 1 : Nat) : Int))], []) = some (.exit 0, [], [])
  | [], i, h => by
    have h1 : ¬ ((i + 1 : Nat) : Int) < (l.list.length : Int) := by
      have := List.drop_eq_nil_iff.1 h
      omega
    rw [hL]
    simp -implicitDefEqProofs only [go_sem, ir_state_rises_api_Def_string_L0, h1]
  | x :: rest, i, h => by
    obtain ⟨h1, h2, h3, h4, h5⟩ := drop_cons h
    obtain ⟨y, hy⟩ := pred_at h
    have h6 := wrap_succ (i := i + 1) (by omega)
    have h7 := (pred_i i).resolve_right (by omega)
    have hr : ltN y x := pw_at hs hy h1
    have k1 := fn_name hE x
    have k2 := fn_name hE y
    have ih := rsD_loop hE l hl hs hL rest (i + 1) h2
    rw [hL]
    have hb : Op.bytesLess y.name.toList x.name.toList = true := by rw [bLess]; exact decide_eq_true hr
    simp -implicitDefEqProofs only [go_sem, ir_state_rises_api_Def_string_L0, h1, h3, hy, h6, h7, k1, k2, def_ids, def_rens, def_le, def_take, def_snaps, def_belows, ih, hb, ro_def, Int.natCast_nonneg]
theorem rsD_fn {E : Prog} (hE : Std E fns) (l : Sl DefT) (hl : l.list.length ≤ 1048576) (hs : l.list.Pairwise ltN) : callP E f_state_rises_api_Def_string [l.av 3 DefT.cells, .fn f_state_name []] = some (vb true) := by
  have h := rsD_loop hE l hl hs (loopL_eq (IR.runL E.glob (callL E) [] ir_state_rises_api_Def_string_L0) (compact [] 0 [0, 1, 5])) (l.list.drop 1) 0 rfl
  simp only [Nat.zero_add, Int.natCast_one] at h
  rw [hE.run rfl rfl]
  simp -implicitDefEqProofs only [go_sem, ir_state_rises_api_Def_string, h, ro_def]
theorem rsS_loop {E : Prog} (hE : Std E fns) (l : Sl SgT) (hl : l.list.length ≤ 1048576) (hs : l.list.Pairwise ltI) {L : Env × Store → Option (Sig × Env × Store)}
    (hL : ∀ e st, L (e, st) = (IR.runL E.glob (callL E) [] ir_state_rises_api_Saga_int_L0 e st).bind (seqK fun e st => L (compact [] 0 [0, 1, 5] e st))) :
    ∀ (rest : List SgT) (i : Nat), l.list.drop (i + 1) = rest → L ([(0, l.av 9 SgT.cells), (1, .fn f_state_number []), (5, vi ((i + 1 : Nat) : Int))], []) = some (.exit 0, [], [])
  | [], i, h => by
    have h1 : ¬ ((i + 1 : Nat) : Int) < (l.list.length : Int) := by
      have := List.drop_eq_nil_iff.1 h
      omega
    rw [hL]
    simp -implicitDefEqProofs only [go_sem, ir_state_rises_api_Saga_int_L0, h1]
  | x :: rest, i, h => by
    obtain ⟨h1, h2, h3, h4, h5⟩ := drop_cons h
    obtain ⟨y, hy⟩ := pred_at h
    have h6 := wrap_succ (i := i + 1) (by omega)
    have h7 := (pred_i i).resolve_right (by omega)
    have hr : ltI y x := pw_at hs hy h1
    have k1 := fn_number hE x
    have k2 := fn_number hE y
    have ih := rsS_loop hE l hl hs hL rest (i + 1) h2
    rw [hL]
    have hb : ¬ x.id ≤ y.id := by omega
    simp -implicitDefEqProofs only [go_sem, ir_state_rises_api_Saga_int_L0, h1, h3, hy, h6, h7, k1, k2, sg_ids, sg_rens, sg_le, sg_take, sg_snaps, sg_belows, ih, hb, ro_sg, Int.natCast_nonneg]
theorem rsS_fn {E : Prog} (hE : Std E fns) (l : Sl SgT) (hl : l.list.length ≤ 1048576) (hs : l.list.Pairwise ltI) : callP E f_state_rises_api_Saga_int [l.av 9 SgT.cells, .fn f_state_number []] = some (vb true) := by
  have h := rsS_loop hE l hl hs (loopL_eq (IR.runL E.glob (callL E) [] ir_state_rises_api_Saga_int_L0) (compact [] 0 [0, 1, 5])) (l.list.drop 1) 0 rfl
  simp only [Nat.zero_add, Int.natCast_one] at h
  rw [hE.run rfl rfl]
  simp -implicitDefEqProofs only [go_sem, ir_state_rises_api_Saga_int, h, ro_sg]
theorem fn_ownP {E : Prog} (hE : Std E fns) (d : DefT) (h : d.steps.list.length ≤ 40) : callP E f_def_Own [dA d] = some (dA d) := by
  have hc := fn_cloneStep hE d.steps (by omega)
  obtain ⟨nm, dl, s⟩ := d
  rw [hE.run rfl rfl]
  cases s with
  | nil =>
    simp only [Sl.av, copyN] at hc
    simp -implicitDefEqProofs only [go_sem, ir_def_Own, Sl.av, hc, ro_step]
    rfl
  | mk xs =>
    simp only [Sl.av, copyN] at hc
    simp -implicitDefEqProofs only [go_sem, ir_def_Own, Sl.av, hc, ro_step]
    rfl
def zeroD : DefT := ⟨eTx, 0, .nil⟩
def defAt (D : List DefT) (k : ByteArray) : DefT × Bool := match D[(fidx (isNm k) D 0).toNat]? with | some d => if 0 ≤ fidx (isNm k) D 0 then (d, true) else (zeroD, false) | none => (zeroD, false)
theorem defAt_no {D : List DefT} {k : ByteArray} (h : fidx (isNm k) D 0 = -1) : defAt D k = (zeroD, false) := by
  unfold defAt
  rw [h]
  split <;> simp
theorem defAt_yes {D : List DefT} {k : ByteArray} {i : Nat} {d : DefT} (h : fidx (isNm k) D 0 = (i : Int)) (hd : D[i]? = some d) : defAt D k = (d, true) := by
  unfold defAt
  rw [h, Int.toNat_natCast, hd]
  simp
theorem fn_Def {E : Prog} (hE : Std E fns) (l : Sl DefT) (S : Sl SgT) (nx : Int) (hl : l.list.length ≤ 64) (hk : ∀ d, d ∈ l.list → DOK d) (k : ByteArray) :
    callL E f_state_Def [.agg [l.av 3 DefT.cells, S.av 9 SgT.cells, vi nx], vs k] [] [] = some (.tup [dA (defAt l.list k).1, vb (defAt l.list k).2], []) := by
  have hf := fn_findD hE k l (by omega)
  rw [hE.runN rfl rfl]
  rcases fidx_cases (isNm k) l.list 0 with ⟨h1, _⟩ | ⟨i, d, h1, h2, _, _⟩
  · rw [h1] at hf
    rw [defAt_no h1]
    simp -implicitDefEqProofs only [go_sem, ir_state_Def, hf, ro_def, ro_sg]
    rfl
  · rw [Nat.zero_add] at h1
    have ho := fn_ownP hE d (hk d (List.mem_of_getElem? h2)).sh.2.1
    rw [h1] at hf
    rw [defAt_yes h1 h2]
    have h3 : ¬ ((i : Int) < 0) := by omega
    simp -implicitDefEqProofs only [go_sem, ir_state_Def, hf, ro_def, ro_sg, ro_step, Int.natCast_nonneg, h2, DefT.cells, ho]
theorem name_uniq {D : List DefT} (hs : D.Pairwise ltN) {d e : DefT} (hd : d ∈ D) (he : e ∈ D) (h : d.name = e.name) : d = e := by
  obtain ⟨i, hi⟩ := List.getElem?_of_mem hd
  obtain ⟨j, hj⟩ := List.getElem?_of_mem he
  obtain ⟨a1, rfl⟩ := List.getElem?_eq_some_iff.1 hi
  obtain ⟨a2, rfl⟩ := List.getElem?_eq_some_iff.1 hj
  have hp := List.pairwise_iff_getElem.1 hs
  rcases Nat.lt_trichotomy i j with h1 | h1 | h1
  · have := hp i j a1 a2 h1
    simp only [ltN, h] at this
    exact absurd this (List.lt_irrefl _)
  · subst h1; rfl
  · have := hp j i a2 a1 h1
    simp only [ltN, h] at this
    exact absurd this (List.lt_irrefl _)
theorem def_found {D : List DefT} (hs : D.Pairwise ltN) {d : DefT} (hd : d ∈ D) : ∃ i : Nat, fidx (isNm d.name) D 0 = (i : Int) ∧ D[i]? = some d := by
  rcases fidx_cases (isNm d.name) D 0 with ⟨_, h⟩ | ⟨i, e, h1, h2, h3, _⟩
  · have := h d hd
    simp [isNm] at this
  · rw [Nat.zero_add] at h1
    have : e = d := name_uniq hs (List.mem_of_getElem? h2) hd (of_decide_eq_true h3)
    subst this
    exact ⟨i, h1, h2⟩
theorem fn_good1 {E : Prog} (hE : Std E fns) (hv : VO E) (d : DefT) (hd : DOK d) : callL E f_state_Good_1 [.agg d.cells] [] [] = some (vb false, []) := by
  have hc := fn_check hE hv d hd.sh
  rw [hd.ck] at hc
  simp only [DefT.cells] at hc
  rw [hE.runN rfl rfl]
  simp -implicitDefEqProofs only [go_sem, ir_state_Good_1, hc, DefT.cells, ro_step]
abbrev noB {α : Type} (x : α) : Bool := false
theorem fidx_no {α : Type} : ∀ (l : List α) (i : Nat), fidx noB l i = -1
  | [], _ => rfl
  | x :: l, i => by rw [fidx, if_neg (by simp [noB]), fidx_no l]
theorem ixG_loop {E : Prog} (hE : Std E fns)  {L : Env × Store → Option (Sig × Env × Store)} (l : Sl DefT) (hl : l.list.length < 9223372036854775807) (hcl : ∀ x, x ∈ l.list → callL E f_state_Good_1 ([.agg x.cells] ++ []) [] [] = some (vb (noB x), []))
    (hL : ∀ e st, L (e, st) = (IR.runL E.glob (callL E) [] ir_slices_IndexFunc_api_Def_api_Def_L0 e st).bind (seqK fun e st => L (compact [] 0 [0, 1, 7, 8] e st))) :
    ∀ (rest : List DefT) (i : Nat), l.list.drop i = rest → i ≤ l.list.length →
    L ([(0, l.av 3 DefT.cells), (1, .fn f_state_Good_1 []), (7, vi l.list.length), (8, vi i)], []) = if 0 ≤ fidx (noB) rest i then some (.ret, [(4, vi (fidx (noB) rest i))], []) else some (.exit 0, [], [])
  | [], i, h, hi => by
    have h1 := drop_nil' h hi
    rw [hL]
    simp -implicitDefEqProofs only [go_sem, ir_slices_IndexFunc_api_Def_api_Def_L0, h1, fidx]
  | x :: rest, i, h, hi => by
    obtain ⟨h1, h2, h3, h4, h5⟩ := drop_cons h
    have h6 := wrap_succ (i := i) (by omega)
    have hs := hcl x (List.mem_of_getElem? h1)
    have ih := ixG_loop hE  l hl hcl hL rest (i + 1) h2 h4
    simp only [List.cons_append, List.nil_append, List.length_cons, List.length_nil, Nat.zero_add, Nat.reduceAdd] at hs ih hL
    rw [hL]
    cases c : (noB) x with
    | true =>
      cases c
    | false =>
      rw [c] at hs
      simp -implicitDefEqProofs only [go_sem, ir_slices_IndexFunc_api_Def_api_Def_L0, h1, h3, def_ids, def_rens, def_le, def_take, h6, hs, fidx, c, ih, ro_def]
theorem ixG_fn {E : Prog} (hE : Std E fns)  (l : Sl DefT) (hl : l.list.length < 9223372036854775807) (hcl : ∀ x, x ∈ l.list → callL E f_state_Good_1 ([.agg x.cells] ++ []) [] [] = some (vb (noB x), [])) :
    callL E f_slices_IndexFunc_api_Def_api_Def [l.av 3 DefT.cells, .fn f_state_Good_1 []] [] [] = some (vi (fidx (noB) l.list 0), []) := by
  have ih := ixG_loop hE  l hl hcl (loopL_eq (IR.runL E.glob (callL E) [] ir_slices_IndexFunc_api_Def_api_Def_L0) (compact [] 0 [0, 1, 7, 8])) l.list 0 rfl (by omega)
  simp only [Int.natCast_zero, List.length_cons, List.length_nil, Nat.zero_add, Nat.reduceAdd] at ih
  rw [hE.runN rfl rfl]
  by_cases c : 0 ≤ fidx (noB) l.list 0
  · rw [if_pos c] at ih
    simp -implicitDefEqProofs only [go_sem, ir_slices_IndexFunc_api_Def_api_Def, ih, ro_def]
  · rw [if_neg c] at ih
    have := fidx_neg (noB) l.list 0 c
    simp -implicitDefEqProofs only [go_sem, ir_slices_IndexFunc_api_Def_api_Def, ih, this, ro_def]
theorem fn_contD {E : Prog} (hE : Std E fns) (hv : VO E) (l : Sl DefT) (hl : l.list.length ≤ 64) (hk : ∀ d, d ∈ l.list → DOK d) : callL E f_slices_ContainsFunc_api_Def_api_Def [l.av 3 DefT.cells, .fn f_state_Good_1 []] [] [] = some (vb false, []) := by
  have h := ixG_fn hE l (by omega) (fun d hd => fn_good1 hE hv d (hk d hd))
  rw [fidx_no] at h
  rw [hE.runN rfl rfl]
  simp -implicitDefEqProofs only [go_sem, ir_slices_ContainsFunc_api_Def_api_Def, h, ro_def]
theorem fn_good2 {E : Prog} (hE : Std E fns) (hv : VO E) (l : Sl DefT) (S : Sl SgT) (nx : Int) (h : GOK l.list S.list nx) (s : SgT) (hs : s ∈ S.list) :
    callL E f_state_Good_2 [.agg s.cells, .ref 0 0 0 0] [] [.box [l.av 3 DefT.cells, S.av 9 SgT.cells, vi nx]] = some (vb false, [.box [l.av 3 DefT.cells, S.av 9 SgT.cells, vi nx]]) := by
  obtain ⟨h1, d, t, h2, h3⟩ := h.sk s hs
  obtain ⟨i, h4, h5⟩ := def_found h.ds h2
  have hd := fn_Def hE l S nx h.dl h.dk d.name
  rw [defAt_yes h4 h5, ← h3.nm] at hd
  have hg := fn_sgood hE hv d (h.dk d h2) s t h3
  have c1 : ¬ nx ≤ s.id := by omega
  rw [hE.runN rfl rfl]
  simp -implicitDefEqProofs only [go_sem, ir_state_Good_2, SgT.cells, hd, hg, c1, ro_def, ro_sg, ro_step]
theorem ixH_loop {E : Prog} (hE : Std E fns) (X : StT) {L : Env × Store → Option (Sig × Env × Store)} (l : Sl SgT) (hl : l.list.length < 9223372036854775807) (hcl : ∀ x, x ∈ l.list → callL E f_state_Good_2 ([.agg x.cells] ++ [.ref 0 0 0 0]) [] [.box [X.defs.av 3 DefT.cells, X.sagas.av 9 SgT.cells, vi X.next]] = some (vb (noB x), [.box [X.defs.av 3 DefT.cells, X.sagas.av 9 SgT.cells, vi X.next]]))
    (hL : ∀ e st, L (e, st) = (IR.runL E.glob (callL E) [] ir_slices_IndexFunc_api_Saga_api_Saga_L0 e st).bind (seqK fun e st => L (compact [] 1 [0, 1, 7, 8] e st))) :
    ∀ (rest : List SgT) (i : Nat), l.list.drop i = rest → i ≤ l.list.length →
    L ([(0, l.av 9 SgT.cells), (1, .fn f_state_Good_2 [.ref 0 0 0 0]), (7, vi l.list.length), (8, vi i)], [.box [X.defs.av 3 DefT.cells, X.sagas.av 9 SgT.cells, vi X.next]]) = if 0 ≤ fidx (noB) rest i then some (.ret, [(4, vi (fidx (noB) rest i))], [.box [X.defs.av 3 DefT.cells, X.sagas.av 9 SgT.cells, vi X.next]]) else some (.exit 0, [], [.box [X.defs.av 3 DefT.cells, X.sagas.av 9 SgT.cells, vi X.next]])
  | [], i, h, hi => by
    have h1 := drop_nil' h hi
    rw [hL]
    simp -implicitDefEqProofs only [go_sem, ir_slices_IndexFunc_api_Saga_api_Saga_L0, h1, fidx]
  | x :: rest, i, h, hi => by
    obtain ⟨h1, h2, h3, h4, h5⟩ := drop_cons h
    have h6 := wrap_succ (i := i) (by omega)
    have hs := hcl x (List.mem_of_getElem? h1)
    have ih := ixH_loop hE X l hl hcl hL rest (i + 1) h2 h4
    simp only [List.cons_append, List.nil_append, List.length_cons, List.length_nil, Nat.zero_add, Nat.reduceAdd] at hs ih hL
    rw [hL]
    cases c : (noB) x with
    | true =>
      cases c
    | false =>
      rw [c] at hs
      simp -implicitDefEqProofs only [go_sem, ir_slices_IndexFunc_api_Saga_api_Saga_L0, h1, h3, sg_ids, sg_rens, sg_le, sg_take, h6, hs, fidx, c, ih, ro_sg, ro_def]
theorem ixH_fn {E : Prog} (hE : Std E fns) (X : StT) (l : Sl SgT) (hl : l.list.length < 9223372036854775807) (hcl : ∀ x, x ∈ l.list → callL E f_state_Good_2 ([.agg x.cells] ++ [.ref 0 0 0 0]) [] [.box [X.defs.av 3 DefT.cells, X.sagas.av 9 SgT.cells, vi X.next]] = some (vb (noB x), [.box [X.defs.av 3 DefT.cells, X.sagas.av 9 SgT.cells, vi X.next]])) :
    callL E f_slices_IndexFunc_api_Saga_api_Saga [l.av 9 SgT.cells, .fn f_state_Good_2 [.ref 0 0 0 0]] [] [.box [X.defs.av 3 DefT.cells, X.sagas.av 9 SgT.cells, vi X.next]] = some (vi (fidx (noB) l.list 0), [.box [X.defs.av 3 DefT.cells, X.sagas.av 9 SgT.cells, vi X.next]]) := by
  have ih := ixH_loop hE X l hl hcl (loopL_eq (IR.runL E.glob (callL E) [] ir_slices_IndexFunc_api_Saga_api_Saga_L0) (compact [] 1 [0, 1, 7, 8])) l.list 0 rfl (by omega)
  simp only [Int.natCast_zero, List.length_cons, List.length_nil, Nat.zero_add, Nat.reduceAdd] at ih
  rw [hE.runN rfl rfl]
  by_cases c : 0 ≤ fidx (noB) l.list 0
  · rw [if_pos c] at ih
    simp -implicitDefEqProofs only [go_sem, ir_slices_IndexFunc_api_Saga_api_Saga, ih, ro_sg, ro_def]
  · rw [if_neg c] at ih
    have := fidx_neg (noB) l.list 0 c
    simp -implicitDefEqProofs only [go_sem, ir_slices_IndexFunc_api_Saga_api_Saga, ih, this, ro_sg, ro_def]
abbrev stA (x : StT) : AV := .agg [x.defs.av 3 DefT.cells, x.sagas.av 9 SgT.cells, vi x.next]
abbrev XOK (x : StT) : Prop := GOK x.defs.list x.sagas.list x.next
theorem fn_contS {E : Prog} (hE : Std E fns) (hv : VO E) (x : StT) (h : XOK x) : callL E f_slices_ContainsFunc_api_Saga_api_Saga [x.sagas.av 9 SgT.cells, .fn f_state_Good_2 [.ref 0 0 0 0]] [] [.box [x.defs.av 3 DefT.cells, x.sagas.av 9 SgT.cells, vi x.next]] = some (vb false, [.box [x.defs.av 3 DefT.cells, x.sagas.av 9 SgT.cells, vi x.next]]) := by
  have h := ixH_fn hE x x.sagas (by have := h.sl; omega) (fun s hs => fn_good2 hE hv x.defs x.sagas x.next h s hs)
  rw [fidx_no] at h
  rw [hE.runN rfl rfl]
  simp -implicitDefEqProofs only [go_sem, ir_slices_ContainsFunc_api_Saga_api_Saga, h, ro_def, ro_sg]
theorem fn_stgood {E : Prog} (hE : Std E fns) (hv : VO E) (x : StT) (h : XOK x) : callP E f_state_Good [stA x] = some (vb true) := by
  have h1 := rsD_fn hE x.defs (by have := h.dl; omega) h.ds
  have h2 := rsS_fn hE x.sagas h.sl h.ss
  have h3 := fn_contD hE hv x.defs h.dl h.dk
  have h4 := fn_contS hE hv x h
  have c1 : ¬ (64 : Int) < (x.defs.list.length : Int) := by have := h.dl; omega
  have c2 : ¬ x.next < 0 := by have := h.n0; omega
  rw [hE.run rfl rfl]
  simp -implicitDefEqProofs only [go_sem, ir_state_Good, h1, h2, h3, h4, c1, c2, ro_def, ro_sg]
abbrev stX (x : StT) : Store := [.box [x.defs.av 3 DefT.cells, x.sagas.av 9 SgT.cells, vi x.next]]
theorem refDef_loop {E : Prog} (hE : Std E fns) (x : StT) (k : ByteArray) (hl : x.defs.list.length ≤ 64) {L : Env × Store → Option (Sig × Env × Store)}
    (hL : ∀ e st, L (e, st) = (IR.runL E.glob (callL E) [] ir_usufructref16_Def_L0 e st).bind (seqK fun e st => L (compact [] 1 [1, 2, 5] e st))) :
    ∀ (rest : List DefT) (i : Nat), x.defs.list.drop i = rest → i ≤ x.defs.list.length →
    L ([(1, vs k), (2, .ref 0 0 0 0), (5, vi i)], stX x) = if 0 ≤ fidx (isNm k) rest i then some (.ret, [(4, vi (fidx (isNm k) rest i))], stX x) else some (.exit 0, [], stX x)
  | [], i, h, hi => by
    have h1 := drop_nil' h hi
    rw [hL]
    simp -implicitDefEqProofs only [go_sem, ir_usufructref16_Def_L0, h1, fidx]
  | d :: rest, i, h, hi => by
    obtain ⟨h1, h2, h3, h4, h5⟩ := drop_cons h
    have h6 := wrap_succ (i := i) (by omega)
    have ih := refDef_loop hE x k hl hL rest (i + 1) h2 h4
    rw [hL]
    by_cases c : d.name = k
    · simp -implicitDefEqProofs only [go_sem, ir_usufructref16_Def_L0, h1, h3, DefT.cells, h6, fidx, isNm, c, ro_def, Int.natCast_nonneg]
    · simp -implicitDefEqProofs only [go_sem, ir_usufructref16_Def_L0, h1, h3, DefT.cells, h6, fidx, isNm, c, ih, ro_def]
theorem fn_refDef {E : Prog} (hE : Std E fns) (x : StT) (k : ByteArray) (hl : x.defs.list.length ≤ 64) : callP E f_usufructref16_Def [stA x, vs k] = some (vi (fidx (isNm k) x.defs.list 0)) := by
  have ih := refDef_loop hE x k hl (loopL_eq (IR.runL E.glob (callL E) [] ir_usufructref16_Def_L0) (compact [] 1 [1, 2, 5])) x.defs.list 0 rfl (by omega)
  simp only [Int.natCast_zero] at ih
  rw [hE.run rfl rfl]
  by_cases c : 0 ≤ fidx (isNm k) x.defs.list 0
  · rw [if_pos c] at ih
    simp -implicitDefEqProofs only [go_sem, ir_usufructref16_Def, ih, ro_def, ro_sg]
  · rw [if_neg c] at ih
    have := fidx_neg (isNm k) x.defs.list 0 c
    simp -implicitDefEqProofs only [go_sem, ir_usufructref16_Def, ih, this, ro_def, ro_sg]
theorem refFind_loop {E : Prog} (hE : Std E fns) (x : StT) (k : Int) (hl : x.sagas.list.length ≤ 1048576) {L : Env × Store → Option (Sig × Env × Store)}
    (hL : ∀ e st, L (e, st) = (IR.runL E.glob (callL E) [] ir_usufructref16_Find_L0 e st).bind (seqK fun e st => L (compact [] 1 [1, 2, 5] e st))) :
    ∀ (rest : List SgT) (i : Nat), x.sagas.list.drop i = rest → i ≤ x.sagas.list.length →
    L ([(1, vi k), (2, .ref 0 0 0 0), (5, vi i)], stX x) = if 0 ≤ fidx (isId k) rest i then some (.ret, [(4, vi (fidx (isId k) rest i))], stX x) else some (.exit 0, [], stX x)
  | [], i, h, hi => by
    have h1 := drop_nil' h hi
    rw [hL]
    simp -implicitDefEqProofs only [go_sem, ir_usufructref16_Find_L0, h1, fidx]
  | d :: rest, i, h, hi => by
    obtain ⟨h1, h2, h3, h4, h5⟩ := drop_cons h
    have h6 := wrap_succ (i := i) (by omega)
    have ih := refFind_loop hE x k hl hL rest (i + 1) h2 h4
    rw [hL]
    by_cases c : d.id = k
    · simp -implicitDefEqProofs only [go_sem, ir_usufructref16_Find_L0, h1, h3, SgT.cells, h6, fidx, isId, c, ro_sg, Int.natCast_nonneg]
    · simp -implicitDefEqProofs only [go_sem, ir_usufructref16_Find_L0, h1, h3, SgT.cells, h6, fidx, isId, c, ih, ro_sg]
theorem fn_refFind {E : Prog} (hE : Std E fns) (x : StT) (k : Int) (hl : x.sagas.list.length ≤ 1048576) : callP E f_usufructref16_Find [stA x, vi k] = some (vi (fidx (isId k) x.sagas.list 0)) := by
  have ih := refFind_loop hE x k hl (loopL_eq (IR.runL E.glob (callL E) [] ir_usufructref16_Find_L0) (compact [] 1 [1, 2, 5])) x.sagas.list 0 rfl (by omega)
  simp only [Int.natCast_zero] at ih
  rw [hE.run rfl rfl]
  by_cases c : 0 ≤ fidx (isId k) x.sagas.list 0
  · rw [if_pos c] at ih
    simp -implicitDefEqProofs only [go_sem, ir_usufructref16_Find, ih, ro_def, ro_sg]
  · rw [if_neg c] at ih
    have := fidx_neg (isId k) x.sagas.list 0 c
    simp -implicitDefEqProofs only [go_sem, ir_usufructref16_Find, ih, this, ro_def, ro_sg]
theorem refGoodD_loop {E : Prog} (hE : Std E fns) (x : StT) (h : XOK x) {L : Env × Store → Option (Sig × Env × Store)}
    (hL : ∀ e st, L (e, st) = (IR.runL E.glob (callL E) [] ir_usufructref16_Good_L1 e st).bind (seqK fun e st => L (compact [] 1 [1, 3] e st))) :
    ∀ (rest : List DefT) (i : Nat), x.defs.list.drop i = rest → i ≤ x.defs.list.length → L ([(1, .ref 0 0 0 0), (3, vi i)], stX x) = some (.exit 0, [(1, .ref 0 0 0 0)], stX x)
  | [], i, h0, hi => by
    have h1 := drop_nil' h0 hi
    rw [hL]
    simp -implicitDefEqProofs only [go_sem, ir_usufructref16_Good_L1, h1]
  | d :: rest, i, h0, hi => by
    obtain ⟨h1, h2, h3, h4, h5⟩ := drop_cons h0
    have hd := h.dl
    have h6 := wrap_succ (i := i) (by omega)
    have hok := h.dk d (List.mem_of_getElem? h1)
    have hc := fn_checkRef hE d hok.sh
    rw [hok.ck] at hc
    simp only [DefT.cells] at hc
    have ih := refGoodD_loop hE x h hL rest (i + 1) h2 h4
    rw [hL]
    cases i with
    | zero =>
      simp only [Int.natCast_zero] at h3 h6
      simp -implicitDefEqProofs only [go_sem, ir_usufructref16_Good_L1, h1, h3, DefT.cells, h6, hc, ih, ro_def, ro_step, Int.natCast_zero]
    | succ i =>
      obtain ⟨y, hy⟩ := pred_at h0
      have h7 := (pred_i i).resolve_right (by omega)
      have hr : ltN y d := pw_at h.ds hy h1
      have hb : Op.bytesLess d.name.toList y.name.toList = false := by
        rw [bLess]
        exact decide_eq_false fun h8 => absurd (List.lt_trans h8 hr) (List.lt_irrefl _)
      have hb2 : ¬ d.name = y.name := fun h8 => by
        simp only [ltN, h8] at hr
        exact absurd hr (List.lt_irrefl _)
      have c0 : (0 : Int) < ((i + 1 : Nat) : Int) := by omega
      simp -implicitDefEqProofs only [go_sem, ir_usufructref16_Good_L1, h1, h3, hy, h7, DefT.cells, h6, hc, hb, hb2, c0, ih, ro_def, ro_step, Int.natCast_nonneg]
theorem refGoodS_loop {E : Prog} (hE : Std E fns) (x : StT) (h : XOK x) {L : Env × Store → Option (Sig × Env × Store)}
    (hL : ∀ e st, L (e, st) = (IR.runL E.glob (callL E) [] ir_usufructref16_Good_L0 e st).bind (seqK fun e st => L (compact [] 1 [1, 6] e st))) :
    ∀ (rest : List SgT) (i : Nat), x.sagas.list.drop i = rest → i ≤ x.sagas.list.length → L ([(1, .ref 0 0 0 0), (6, vi i)], stX x) = some (.exit 2, [], stX x)
  | [], i, h0, hi => by
    have h1 := drop_nil' h0 hi
    rw [hL]
    simp -implicitDefEqProofs only [go_sem, ir_usufructref16_Good_L0, h1]
  | s :: rest, i, h0, hi => by
    obtain ⟨h1, h2, h3, h4, h5⟩ := drop_cons h0
    have hsl := h.sl
    have h6 := wrap_succ (i := i) (by omega)
    obtain ⟨k1, d, t, k2, k3⟩ := h.sk s (List.mem_of_getElem? h1)
    obtain ⟨j, k4, k5⟩ := def_found h.ds k2
    have hD := fn_refDef hE x s.df h.dl
    rw [← k3.nm] at k4
    rw [k4] at hD
    have hg := fn_sgoodRef hE d (h.dk d k2) s t k3
    have c1 : ¬ x.next ≤ s.id := by omega
    have c2 : ¬ ((j : Int) < 0) := by omega
    have ih := refGoodS_loop hE x h hL rest (i + 1) h2 h4
    rw [hL]
    cases i with
    | zero =>
      simp only [Int.natCast_zero] at h3 h6
      simp -implicitDefEqProofs only [go_sem, ir_usufructref16_Good_L0, h1, h3, SgT.cells, DefT.cells, hD, h6, k5, c1, c2, hg, ih, ro_def, ro_sg, ro_step, Int.natCast_zero, Int.natCast_nonneg]
    | succ i =>
      obtain ⟨y, hy⟩ := pred_at h0
      have h7 := (pred_i i).resolve_right (by omega)
      have hr : ltI y s := pw_at h.ss hy h1
      have c3 : ¬ s.id ≤ y.id := by simp only [ltI] at hr; omega
      have c0 : (0 : Int) < ((i + 1 : Nat) : Int) := by omega
      simp -implicitDefEqProofs only [go_sem, ir_usufructref16_Good_L0, h1, h3, hy, h7, SgT.cells, DefT.cells, hD, h6, k5, c0, c1, c2, c3, hg, ih, ro_def, ro_sg, ro_step, Int.natCast_nonneg]
theorem fn_refStGood {E : Prog} (hE : Std E fns) (x : StT) (h : XOK x) : callP E f_usufructref16_Good [stA x] = some (vb true) := by
  have h1 := refGoodD_loop hE x h (loopL_eq (IR.runL E.glob (callL E) [] ir_usufructref16_Good_L1) (compact [] 1 [1, 3])) x.defs.list 0 rfl (by omega)
  have h2 := refGoodS_loop hE x h (loopL_eq (IR.runL E.glob (callL E) [] ir_usufructref16_Good_L0) (compact [] 1 [1, 6])) x.sagas.list 0 rfl (by omega)
  simp only [Int.natCast_zero] at h1 h2
  have c1 : ¬ (64 : Int) < (x.defs.list.length : Int) := by have := h.dl; omega
  have c2 : ¬ x.next < 0 := by have := h.n0; omega
  rw [hE.run rfl rfl]
  simp -implicitDefEqProofs only [go_sem, ir_usufructref16_Good, h1, h2, c1, c2, ro_def, ro_sg]
end Go.Proofs.YtoobogpbejdocaaGreatDoor.Ev
