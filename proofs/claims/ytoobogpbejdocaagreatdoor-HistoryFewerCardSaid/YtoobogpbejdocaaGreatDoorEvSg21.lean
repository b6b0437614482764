import Derived.Test.YtoobogpbejdocaaGreatDoorEvSa
import Derived.Test.YtoobogpbejdocaaGreatDoorEvSg11
import Derived.Test.YtoobogpbejdocaaGreatDoorEvCopy
set_option linter.unusedVariables false
set_option linter.unusedSectionVars false
set_option linter.unusedSimpArgs false
namespace Go.Proofs.YtoobogpbejdocaaGreatDoor.Ev
attribute [local congr] bind_congr_head
attribute [local go_sem] AV.cells AV.tuple elems boxQ callN_any compact_same compact_new aggOf
abbrev nilS : AV := .v (.slice none 0 0)
abbrev rwD (g : Nat) (D : List DefT) : Ob := .row 3 g (D.map DefT.cells) false
abbrev rwS (g : Nat) (S : List SgT) : Ob := .row 9 g (S.map SgT.cells) false
inductive Sh
  | a
  | b (g : Nat) (D : List DefT)
  | c (g h : Nat) (D : List DefT) (S : List SgT)
def Sh.D : Sh → List DefT
  | .b _ D => D
  | .c _ _ D _ => D
  | _ => []
def Sh.S : Sh → List SgT
  | .c _ _ _ S => S
  | _ => []
def Sh.av : Sh → Int → List AV
  | .a, n => [nilS, nilS, vi n]
  | .b g D, n => [.own 0 g 0 D.length, nilS, vi n]
  | .c g h D S, n => [.own 0 g 0 D.length, .own 1 h 0 S.length, vi n]
def Sh.sto : Sh → Store
  | .a => []
  | .b g D => [rwD g D]
  | .c g h D S => [rwD g D, rwS h S]
theorem avN {α : Type} (k : Nat) (f : α → List AV) : (Sl.nil : Sl α).av k f = .v (.slice none 0 0) := rfl
theorem sameLL_refl {α : Type} {f : α → List AV} (hf : ∀ x, sameL (f x) (f x) = true) : ∀ xs : List α, sameLL (xs.map f) (xs.map f) = true
  | [] => by simp [sameLL]
  | x :: xs => by simp only [List.map_cons, sameLL, hf x, sameLL_refl hf xs, Bool.and_self]
theorem sameA_av {α : Type} {f : α → List AV} (hf : ∀ x, sameL (f x) (f x) = true) (k : Nat) (s : Sl α) : sameA (s.av k f) (s.av k f) = true := by
  cases s with
  | nil => exact sameA_slice 0 0
  | mk xs => simp only [Sl.av, sameA, sameLL_refl hf xs, decide_true, Bool.and_self]
theorem sameL_step (s : StepT) : sameL s.cells s.cells = true := by
  simp only [StepT.cells, sameL_cons, sameA_int, sameA_str, sameA_bool, Bool.and_self, Bool.true_and, sameL, List.isEmpty_nil]
theorem sameL_sg (s : SgT) : sameL s.cells s.cells = true := by
  simp only [SgT.cells, sameL_cons, sameA_int, sameA_str, sameA_bool, Bool.and_self, Bool.true_and, sameL, List.isEmpty_nil]
theorem sameL_dfn (d : DefT) : sameL d.cells d.cells = true := by
  simp only [DefT.cells, sameL_cons, sameA_int, sameA_str, sameA_av sameL_step 12 d.steps, Bool.and_self, Bool.true_and, sameL, List.isEmpty_nil]
theorem sameA_d (s : Sl DefT) : sameA (s.av 3 DefT.cells) (s.av 3 DefT.cells) = true := sameA_av sameL_dfn 3 s
theorem sameA_s (xs : List SgT) : sameA (.sl 9 (xs.map SgT.cells)) (.sl 9 (xs.map SgT.cells)) = true := sameA_av sameL_sg 9 (.mk xs)
def copyS : Sl SgT → AV × Store
  | .nil => (.v (.slice none 0 0), [])
  | .mk xs => (.own 0 1 0 xs.length, [.row 9 1 (xs.map SgT.cells) false])
theorem fn_cloneSg {E : Prog} (hE : Std E fns) (s : Sl SgT) (h : s.list.length ≤ 1048576) : callL E f_slices_Clone_api_Saga_api_Saga [s.av 9 SgT.cells] [] [] = some (copyS s) := by
  rw [hE.runN rfl rfl]
  cases s with
  | nil => simp -implicitDefEqProofs only [go_sem, ir_slices_Clone_api_Saga_api_Saga, Sl.av, copyS]
  | mk xs =>
    simp only [Sl.list] at h
    have h' : xs.length * 80 ≤ 140737488355328 := by omega
    simp -implicitDefEqProofs only [go_sem, ir_slices_Clone_api_Saga_api_Saga, Sl.av, copyS, all_sg, h', ro_sg]
abbrev stOw (x : StT) : Store := [.box [x.defs.av 3 DefT.cells, x.sagas.av 9 SgT.cells, vi x.next], .box [.v (.slice none 0 0), .v (.slice none 0 0), .v (.int .i64 0)]]
theorem own_loop {E : Prog} (hE : Std E fns) (x : StT) (hl : x.defs.list.length ≤ 64) (hk : ∀ d, d ∈ x.defs.list → DOK d) {L : Env × Store → Option (Sig × Env × Store)}
    (hL : ∀ e st, L (e, st) = (IR.runL E.glob (callL E) [] ir_state_own_L0 e st).bind (seqK fun e st => L (compact [] 2 [1, 2, 3, 7, 8, 9] e st))) :
    ∀ (rest : List DefT) (i : Nat) (out : List DefT) (g : Nat), x.defs.list.drop i = rest → i ≤ x.defs.list.length → out.length ≤ i →
    ∃ g' : Nat, L ([(1, .ref 0 0 0 0), (2, .ref 1 0 0 0), (3, (bld 3 DefT.cells g (stOw x) out).1), (7, x.defs.av 3 DefT.cells), (8, vi x.defs.list.length), (9, vi i)], (bld 3 DefT.cells g (stOw x) out).2) =
      some (.exit 0, [(1, .ref 0 0 0 0), (2, .ref 1 0 0 0), (3, (bld 3 DefT.cells g' (stOw x) (out ++ rest)).1)], (bld 3 DefT.cells g' (stOw x) (out ++ rest)).2)
  | [], i, out, g, h, hi, ho => by
    have h1 := drop_nil' h hi
    refine ⟨g, ?_⟩
    rw [hL, List.append_nil]
    by_cases hne : out = []
    · subst hne
      simp -implicitDefEqProofs only [go_sem, ir_state_own_L0, h1, bld_nil, ro_def, ro_sg]
    · simp -implicitDefEqProofs only [go_sem, ir_state_own_L0, h1, bld_ne hne, ro_def, ro_sg]
  | d :: rest, i, out, g, h, hi, ho => by
    obtain ⟨h1, h2, h3, h4, h5⟩ := drop_cons h
    have h6 := wrap_succ (i := i) (by omega)
    have hx := fn_ownP hE d (hk d (List.mem_of_getElem? h1)).sh.2.1
    have hb : (out.length + 1) * 48 ≤ 140737488355328 := by omega
    rw [show out ++ d :: rest = (out ++ [d]) ++ rest by simp]
    by_cases hne : out = []
    · subst hne
      obtain ⟨g', ih⟩ := own_loop hE x hl hk hL rest (i + 1) [d] 0 h2 h4 (by simp)
      refine ⟨g', ?_⟩
      rw [List.nil_append, ← ih, hL]
      simp -implicitDefEqProofs only [go_sem, ir_state_own_L0, h1, h3, h6, DefT.cells, hx, bld_nil, bld_ne (List.cons_ne_nil d []), ro_def, ro_sg, ro_step]
    · obtain ⟨g', ih⟩ := own_loop hE x hl hk hL rest (i + 1) (out ++ [d]) (g + 1) h2 h4 (by simp; omega)
      refine ⟨g', ?_⟩
      rw [← ih, hL]
      simp -implicitDefEqProofs only [go_sem, ir_state_own_L0, h1, h3, h6, DefT.cells, hx, bld_ne hne, bld_ne (ne_app out d), hb, ro_def, ro_sg, ro_step]
theorem fn_stOwn {E : Prog} (hE : Std E fns) (x : StT) (h : XOK x) (hn : x.defs.list = [] → x.sagas = .nil) : ∃ w : Sh, callL E f_state_own [stA x] [] [] = some (.agg (w.av x.next), w.sto) ∧ w.D = x.defs.list ∧ w.S = x.sagas.list ∧ (w.D = [] → w = .a) := by
  have hc := fn_cloneSg hE x.sagas h.sl
  obtain ⟨g, hl⟩ := own_loop hE x h.dl h.dk (loopL_eq (IR.runL E.glob (callL E) [] ir_state_own_L0) (compact [] 2 [1, 2, 3, 7, 8, 9])) x.defs.list 0 [] 0 rfl (by omega) (by simp)
  rw [List.nil_append] at hl
  simp only [Int.natCast_zero, bld_nil] at hl
  obtain ⟨dd, ss, nx⟩ := x
  dsimp only at *
  by_cases hd : dd.list = []
  · have hb : bld 3 DefT.cells g (stOw ⟨dd, ss, nx⟩) dd.list = (.v (.slice none 0 0), stOw ⟨dd, ss, nx⟩) := by rw [hd]; rfl
    rw [hb] at hl
    cases ss with
    | nil =>
      refine ⟨.a, ?_, hd.symm, rfl, fun _ => rfl⟩
      simp only [stOw, avN, copyS] at hc hl
      rw [hE.runN rfl rfl]
      simp -implicitDefEqProofs only [go_sem, ir_state_own, avN, hl, hc, sameA_d, Sh.av, Sh.sto, ro_def, ro_sg]
    | mk xs => cases hn hd
  · have hb := bld_ne (k := 3) (f := DefT.cells) (g := g) (st := stOw ⟨dd, ss, nx⟩) hd
    rw [hb] at hl
    cases ss with
    | nil =>
      refine ⟨.b g dd.list, ?_, rfl, rfl, fun h => absurd h hd⟩
      simp only [stOw, avN, copyS, List.length_cons, List.length_nil, List.cons_append, List.nil_append, Nat.zero_add, Nat.reduceAdd] at hc hl
      rw [hE.runN rfl rfl]
      simp -implicitDefEqProofs only [go_sem, ir_state_own, avN, hl, hc, sameA_d, Sh.av, Sh.sto, ro_def, ro_sg]
    | mk xs =>
      refine ⟨.c g 1 dd.list xs, ?_, rfl, rfl, fun h => absurd h hd⟩
      simp only [stOw, avM, copyS, List.length_cons, List.length_nil, List.cons_append, List.nil_append, Nat.zero_add, Nat.reduceAdd] at hc hl
      rw [hE.runN rfl rfl]
      simp -implicitDefEqProofs only [go_sem, ir_state_own, avM, hl, hc, sameA_d, sameA_s, Sh.av, Sh.sto, ro_def, ro_sg]
theorem lenA_own (st : Store) (id gen off ln : Nat) : lenAV st (.own id gen off ln) = (match st[id]? with
    | some (.row _ g _ _) => if g = gen then some ln else none
    | _ => none) := rfl
theorem lenA_nil (st : Store) : lenAV st (.v (.slice none 0 0)) = some 0 := rfl
abbrev gtN (k : ByteArray) (o : DefT) : Bool := decide (kyB k < kyB o.name)
theorem gt_b (a b : ByteArray) : (!(Op.bytesLess a.toList b.toList || decide (a = b))) = decide (kyB b < kyB a) := by
  rw [bLess]
  by_cases h : kyB a < kyB b
  · have h2 : ¬ kyB b < kyB a := fun h3 => absurd (List.lt_trans h h3) (List.lt_irrefl _)
    simp [h, h2]
  · by_cases h2 : a = b
    · subst h2; simp [h]
    · have h3 : kyB b < kyB a := by
        rcases Classical.em (kyB b < kyB a) with h3 | h3
        · exact h3
        · exact absurd (kyB_inj (List.le_antisymm (List.not_lt.1 h3) (List.not_lt.1 h))) h2
      simp [h, h2, h3]
theorem fn_define1 {E : Prog} (hE : Std E fns) (d o : DefT) : callL E f_state_define_1 [.agg o.cells, .ref 0 0 0 0] [] [.box d.cells] = some (vb (gtN d.name o), [.box d.cells]) := by
  have hb := gt_b o.name d.name
  rw [hE.runN rfl rfl]
  simp -implicitDefEqProofs only [go_sem, ir_state_define_1, DefT.cells, hb, ro_def, ro_step]
theorem ixO_loop {E : Prog} (hE : Std E fns) (g : Nat) (D : List DefT) (d : DefT) (hl : D.length ≤ 64) {L : Env × Store → Option (Sig × Env × Store)}
    (hL : ∀ e st, L (e, st) = (IR.runL E.glob (callL E) [] ir_slices_IndexFunc_api_Def_api_Def_L0 e st).bind (seqK fun e st => L (compact [] 2 [0, 1, 7, 8] e st))) :
    ∀ (rest : List DefT) (i : Nat), D.drop i = rest → i ≤ D.length →
    L ([(0, .own 0 g 0 D.length), (1, .fn f_state_define_1 [.ref 1 0 0 0]), (7, vi D.length), (8, vi i)], [rwD g D, .box d.cells]) =
      if 0 ≤ fidx (gtN d.name) rest i then some (.ret, [(4, vi (fidx (gtN d.name) rest i))], [rwD g D, .box d.cells]) else some (.exit 0, [], [rwD g D, .box d.cells])
  | [], i, h, hi => by
    have h1 : ¬ (i : Int) < (D.length : Int) := by have := List.drop_eq_nil_iff.1 h; omega
    rw [hL]
    simp -implicitDefEqProofs only [go_sem, ir_slices_IndexFunc_api_Def_api_Def_L0, h1, fidx]
  | x :: rest, i, h, hi => by
    have hlt : i < D.length := by
      rcases Nat.lt_or_ge i D.length with h1 | h1
      · exact h1
      · rw [List.drop_eq_nil_of_le h1] at h; cases h
    have h1 : D[i]? = some x := by rw [← List.head?_drop, h]; rfl
    have h2 : D.drop (i + 1) = rest := by rw [← List.tail_drop, h]; rfl
    have h3 : (i : Int) < (D.length : Int) := by omega
    have h6 := wrap_succ (i := i) (by omega)
    have hs := fn_define1 hE d x
    have ih := ixO_loop hE g D d hl hL rest (i + 1) h2 (by omega)
    rw [hL]
    cases c : gtN d.name x with
    | true =>
      rw [c] at hs
      simp -implicitDefEqProofs only [go_sem, ir_slices_IndexFunc_api_Def_api_Def_L0, h1, h3, hlt, ias_own, List.getElem?_map, Option.map_some, Nat.zero_add, Int.toNat_natCast, and_self, def_ids, def_rens, def_le, def_take, h6, hs, fidx, c, ro_def, Int.natCast_nonneg]
    | false =>
      rw [c] at hs
      simp -implicitDefEqProofs only [go_sem, ir_slices_IndexFunc_api_Def_api_Def_L0, h1, h3, hlt, ias_own, List.getElem?_map, Option.map_some, Nat.zero_add, Int.toNat_natCast, and_self, def_ids, def_rens, def_le, def_take, h6, hs, fidx, c, ih, ro_def, Int.natCast_nonneg]
theorem ixO_fn {E : Prog} (hE : Std E fns) (g : Nat) (D : List DefT) (d : DefT) (hl : D.length ≤ 64) :
    callL E f_slices_IndexFunc_api_Def_api_Def [.own 0 g 0 D.length, .fn f_state_define_1 [.ref 1 0 0 0]] [] [rwD g D, .box d.cells] = some (vi (fidx (gtN d.name) D 0), [rwD g D, .box d.cells]) := by
  have ih := ixO_loop hE g D d hl (loopL_eq (IR.runL E.glob (callL E) [] ir_slices_IndexFunc_api_Def_api_Def_L0) (compact [] 2 [0, 1, 7, 8])) D 0 rfl (by omega)
  simp only [Int.natCast_zero] at ih
  rw [hE.runN rfl rfl]
  by_cases c : 0 ≤ fidx (gtN d.name) D 0
  · rw [if_pos c] at ih
    simp -implicitDefEqProofs only [go_sem, ir_slices_IndexFunc_api_Def_api_Def, ih, lenA_own, ro_def]
  · rw [if_neg c] at ih
    have := fidx_neg (gtN d.name) D 0 c
    simp -implicitDefEqProofs only [go_sem, ir_slices_IndexFunc_api_Def_api_Def, ih, this, lenA_own, ro_def]
theorem ixN_loop {E : Prog} (d : DefT) {L : Env × Store → Option (Sig × Env × Store)}
    (hL : ∀ e st, L (e, st) = (IR.runL E.glob (callL E) [] ir_slices_IndexFunc_api_Def_api_Def_L0 e st).bind (seqK fun e st => L (compact [] 1 [0, 1, 7, 8] e st))) :
    L ([(0, nilS), (1, .fn f_state_define_1 [.ref 0 0 0 0]), (7, vi 0), (8, vi 0)], [.box d.cells]) = some (.exit 0, [], [.box d.cells]) := by
  rw [hL]
  simp -implicitDefEqProofs only [go_sem, ir_slices_IndexFunc_api_Def_api_Def_L0]
theorem ixO_nil {E : Prog} (hE : Std E fns) (d : DefT) :
    callL E f_slices_IndexFunc_api_Def_api_Def [nilS, .fn f_state_define_1 [.ref 0 0 0 0]] [] [.box d.cells] = some (vi (-1), [.box d.cells]) := by
  have ih := ixN_loop (E := E) d (loopL_eq (IR.runL E.glob (callL E) [] ir_slices_IndexFunc_api_Def_api_Def_L0) (compact [] 1 [0, 1, 7, 8]))
  rw [hE.runN rfl rfl]
  simp -implicitDefEqProofs only [go_sem, ir_slices_IndexFunc_api_Def_api_Def, lenA_nil, Int.natCast_zero, ro_def, ih]
theorem gt_lb (k : ByteArray) : ∀ (D : List DefT) (i : Nat), D.Pairwise ltN → (∀ x, x ∈ D → x.name ≠ k) →
    fidx (gtN k) D i = if lbD k D < D.length then ((i + lbD k D : Nat) : Int) else -1
  | [], i, _, _ => rfl
  | x :: r, i, hs, hn => by
    have ih := gt_lb k r (i + 1) (List.pairwise_cons.1 hs).2 fun y hy => hn y (List.mem_cons_of_mem _ hy)
    unfold fidx lbD
    by_cases c : kyB x.name < kyB k
    · have c2 : ¬ gtN k x = true := fun h => absurd (List.lt_trans c (of_decide_eq_true h)) (List.lt_irrefl _)
      rw [if_neg c2, if_pos c, ih]
      simp only [List.length_cons, Nat.add_lt_add_iff_right]
      split
      · congr 1; omega
      · rfl
    · have c2 : gtN k x = true := by
        refine decide_eq_true ?_
        rcases Classical.em (kyB k < kyB x.name) with h | h
        · exact h
        · exact absurd (kyB_inj (List.le_antisymm (List.not_lt.1 h) (List.not_lt.1 c))) (hn x List.mem_cons_self)
      rw [if_pos c2, if_neg c, if_pos (by simp)]
      simp
abbrev IDK (E : Prog) : Prop := E.prim f_slices_Insert_api_Def_api_Def = some (pInsert 3 48)
abbrev DSK (E : Prog) : Prop := E.prim f_slices_Delete_api_Saga_api_Saga = some (pDelete 9)
theorem fn_ins {E : Prog} (hi : IDK E) (xs : List DefT) (g K : Nat) (hK : K ≤ xs.length) (hx : xs.length ≤ 64) (d : DefT) :
    callL E f_slices_Insert_api_Def_api_Def [.own 0 g 0 xs.length, vi K, .sl 3 [d.cells]] [] [.row 3 g (xs.map DefT.cells) false] = some (.own 0 (g + 1) 0 (xs.length + 1), [.row 3 (g + 1) ((xs.take K ++ d :: xs.drop K).map DefT.cells) false]) := by
  have hr : ross [d.cells] = true := ross_map ro_def 0 [d]
  have hl : ([d.cells].all fun c => c.length == 3) = true := rfl
  rw [call_prim hi]
  simp only [pInsert, List.getElem?_cons_zero]
  rw [if_pos ⟨trivial, trivial, trivial, by simp, trivial, by omega, by omega, by simp, hl, by simp; omega, hr⟩]
  simp only [List.length_cons, List.length_nil, List.set_cons_zero, List.drop_zero, Int.toNat_natCast]
  rw [take_map_all, ← List.map_take, ← List.map_drop]
  simp only [List.map_append, List.map_cons, List.cons_append, List.nil_append]
theorem fn_ins0 {E : Prog} (hi : IDK E) (d : DefT) :
    callL E f_slices_Insert_api_Def_api_Def [.v (.slice none 0 0), vi 0, .sl 3 [d.cells]] [] [] = some (.own 0 0 0 1, [.row 3 0 [d.cells] false]) := by
  have hr : ross [d.cells] = true := ross_map ro_def 0 [d]
  have hl : ([d.cells].all fun c => c.length == 3) = true := rfl
  rw [call_prim hi]
  simp only [pInsert]
  rw [if_pos ⟨trivial, by simp, hl, by simp, hr⟩]
  rfl
theorem define_there {E : Prog} (hE : Std E fns) (w : Sh) (nx : Int) (d : DefT) (hl : w.D.length ≤ 64) (h0 : 0 ≤ fidx (isNm d.name) w.D 0) :
    callL E f_state_define [.agg (w.av nx), dA d] [] w.sto = some (.tup [.agg (w.av nx), vi 6], w.sto) := by
  rw [hE.runN rfl rfl]
  cases w with
  | a => exact absurd h0 (by simp only [Sh.D, fidx]; omega)
  | b g D =>
    have hf := fn_findD hE d.name (.mk D) (by simp only [Sh.D] at hl; simp only [Sl.list]; omega)
    simp only [avM, Sl.list] at hf
    simp only [Sh.D] at h0 hl
    simp -implicitDefEqProofs only [go_sem, ir_state_define, Sh.av, Sh.sto, rwD, rwS, hf, h0, lenA_own, lenA_nil, avM, Nat.zero_add, Int.natCast_zero, def_ids, def_rens, def_snaps, def_belows, sg_ids, sg_rens, sg_snaps, sg_belows, ro_def, ro_sg, ro_step]
  | c g h D S =>
    have hf := fn_findD hE d.name (.mk D) (by simp only [Sh.D] at hl; simp only [Sl.list]; omega)
    simp only [avM, Sl.list] at hf
    simp only [Sh.D] at h0 hl
    simp -implicitDefEqProofs only [go_sem, ir_state_define, Sh.av, Sh.sto, rwD, rwS, hf, h0, lenA_own, lenA_nil, avM, Nat.zero_add, Int.natCast_zero, def_ids, def_rens, def_snaps, def_belows, sg_ids, sg_rens, sg_snaps, sg_belows, ro_def, ro_sg, ro_step]
theorem define_full {E : Prog} (hE : Std E fns) (w : Sh) (nx : Int) (d : DefT) (hl : w.D.length = 64) (h0 : ¬ 0 ≤ fidx (isNm d.name) w.D 0) :
    callL E f_state_define [.agg (w.av nx), dA d] [] w.sto = some (.tup [.agg (w.av nx), vi 8], w.sto) := by
  rw [hE.runN rfl rfl]
  cases w with
  | a => cases hl
  | b g D =>
    have hf := fn_findD hE d.name (.mk D) (by simp only [Sh.D] at hl; simp only [Sl.list]; omega)
    simp only [avM, Sl.list] at hf
    simp only [Sh.D] at h0 hl
    have c : (D.length : Int) = 64 := by omega
    simp -implicitDefEqProofs only [go_sem, ir_state_define, Sh.av, Sh.sto, rwD, rwS, hf, h0, c, lenA_own, lenA_nil, avM, Nat.zero_add, Int.natCast_zero, def_ids, def_rens, def_snaps, def_belows, sg_ids, sg_rens, sg_snaps, sg_belows, ro_def, ro_sg, ro_step]
  | c g h D S =>
    have hf := fn_findD hE d.name (.mk D) (by simp only [Sh.D] at hl; simp only [Sl.list]; omega)
    simp only [avM, Sl.list] at hf
    simp only [Sh.D] at h0 hl
    have c : (D.length : Int) = 64 := by omega
    simp -implicitDefEqProofs only [go_sem, ir_state_define, Sh.av, Sh.sto, rwD, rwS, hf, h0, c, lenA_own, lenA_nil, avM, Nat.zero_add, Int.natCast_zero, def_ids, def_rens, def_snaps, def_belows, sg_ids, sg_rens, sg_snaps, sg_belows, ro_def, ro_sg, ro_step]
theorem define_ok {E : Prog} (hE : Std E fns) (hin : IDK E) (w : Sh) (nx : Int) (d : DefT) (hl : w.D.length < 64) (hs : w.D.Pairwise ltN) (hno : ∀ x, x ∈ w.D → x.name ≠ d.name) (hst : d.steps.list.length ≤ 40) :
    ∃ w' : Sh, callL E f_state_define [.agg (w.av nx), dA d] [] w.sto = some (.tup [.agg (w'.av nx), vi 0], w'.sto) ∧ w'.D = insD w.D d ∧ w'.S = w.S := by
  have h0 : ¬ 0 ≤ fidx (isNm d.name) w.D 0 := by
    rcases fidx_cases (isNm d.name) w.D 0 with ⟨h1, _⟩ | ⟨k, y, h1, h2, h3, _⟩
    · omega
    · exact absurd (of_decide_eq_true h3) (hno y (List.mem_of_getElem? h2))
  have hle := lbD_le d.name w.D
  have ho := fn_ownP hE d hst
  cases w with
  | a =>
    refine ⟨.b 0 [d], ?_, rfl, rfl⟩
    have hf := fn_findD hE d.name .nil (by simp [Sl.list])
    have hx := ixO_nil hE d
    have hi := fn_ins0 hin d
    simp only [Sl.av, Sl.list] at hf
    simp only [Sh.D] at h0
    simp only [DefT.cells] at hx hi
    rw [hE.runN rfl rfl]
    simp -implicitDefEqProofs only [go_sem, ir_state_define, Sh.av, Sh.sto, rwD, rwS, hf, h0, hx, hi, ho, DefT.cells, List.length_cons, List.length_nil, List.map_cons, List.map_nil, lenA_own, lenA_nil, avM, Nat.zero_add, Int.natCast_zero, def_ids, def_rens, def_snaps, def_belows, sg_ids, sg_rens, sg_snaps, sg_belows, ro_def, ro_sg, ro_step]
  | b g D =>
    refine ⟨.b (g + 1) (insD D d), ?_, rfl, rfl⟩
    have hf := fn_findD hE d.name (.mk D) (by simp only [Sh.D] at hl; simp only [Sl.list]; omega)
    simp only [avM, Sl.list] at hf
    simp only [Sh.D] at h0 hl hle hs hno
    have hg := gt_lb d.name D 0 hs hno
    rw [Nat.zero_add] at hg
    have c : ¬ (D.length : Int) = 64 := by omega
    have hx := ixO_fn hE g D d (by omega)
    have hi := fn_ins hin D g (lbD d.name D) hle (by omega) d
    have e1 : D.length + 1 = (insD D d).length := by simp only [insD, List.length_append, List.length_cons, List.length_take, List.length_drop]; omega
    rw [show D.take (lbD d.name D) ++ d :: D.drop (lbD d.name D) = insD D d from rfl, e1] at hi
    rw [hg] at hx
    simp only [rwD] at hx
    simp only [DefT.cells] at hx hi
    generalize insD D d = D' at *
    rw [hE.runN rfl rfl]
    by_cases c2 : lbD d.name D < D.length
    · rw [if_pos c2] at hx
      have c3 : ¬ ((lbD d.name D : Nat) : Int) < 0 := by omega
      simp -implicitDefEqProofs only [go_sem, ir_state_define, Sh.av, Sh.sto, rwD, rwS, hf, h0, hx, hi, ho, c, c3, DefT.cells, lenA_own, lenA_nil, avM, Nat.zero_add, Int.natCast_zero, def_ids, def_rens, def_snaps, def_belows, sg_ids, sg_rens, sg_snaps, sg_belows, ro_def, ro_sg, ro_step]
    · rw [if_neg c2] at hx
      have c3 : lbD d.name D = D.length := by omega
      rw [c3] at hi
      simp -implicitDefEqProofs only [go_sem, ir_state_define, Sh.av, Sh.sto, rwD, rwS, hf, h0, hx, hi, ho, c, DefT.cells, lenA_own, lenA_nil, avM, Nat.zero_add, Int.natCast_zero, def_ids, def_rens, def_snaps, def_belows, sg_ids, sg_rens, sg_snaps, sg_belows, ro_def, ro_sg, ro_step]
  | c g h D S =>
    refine ⟨.c (g + 1) h (insD D d) S, ?_, rfl, rfl⟩
    have hf := fn_findD hE d.name (.mk D) (by simp only [Sh.D] at hl; simp only [Sl.list]; omega)
    simp only [avM, Sl.list] at hf
    simp only [Sh.D] at h0 hl hle hs hno
    have hg := gt_lb d.name D 0 hs hno
    rw [Nat.zero_add] at hg
    have c : ¬ (D.length : Int) = 64 := by omega
    have hx := ixO_fn hE g D d (by omega)
    have hi := fn_ins hin D g (lbD d.name D) hle (by omega) d
    have e1 : D.length + 1 = (insD D d).length := by simp only [insD, List.length_append, List.length_cons, List.length_take, List.length_drop]; omega
    rw [show D.take (lbD d.name D) ++ d :: D.drop (lbD d.name D) = insD D d from rfl, e1] at hi
    rw [hg] at hx
    simp only [rwD] at hx
    simp only [DefT.cells] at hx hi
    generalize insD D d = D' at *
    rw [hE.runN rfl rfl]
    by_cases c2 : lbD d.name D < D.length
    · rw [if_pos c2] at hx
      have c3 : ¬ ((lbD d.name D : Nat) : Int) < 0 := by omega
      simp -implicitDefEqProofs only [go_sem, ir_state_define, Sh.av, Sh.sto, rwD, rwS, hf, h0, hx, hi, ho, c, c3, DefT.cells, lenA_own, lenA_nil, avM, Nat.zero_add, Int.natCast_zero, def_ids, def_rens, def_snaps, def_belows, sg_ids, sg_rens, sg_snaps, sg_belows, ro_def, ro_sg, ro_step]
    · rw [if_neg c2] at hx
      have c3 : lbD d.name D = D.length := by omega
      rw [c3] at hi
      simp -implicitDefEqProofs only [go_sem, ir_state_define, Sh.av, Sh.sto, rwD, rwS, hf, h0, hx, hi, ho, c, DefT.cells, lenA_own, lenA_nil, avM, Nat.zero_add, Int.natCast_zero, def_ids, def_rens, def_snaps, def_belows, sg_ids, sg_rens, sg_snaps, sg_belows, ro_def, ro_sg, ro_step]
theorem fn_DefO {E : Prog} (hE : Std E fns) (w : Sh) (nx : Int) (hl : w.D.length ≤ 64) (hk : ∀ d, d ∈ w.D → DOK d) (k : ByteArray) :
    callL E f_state_Def [.agg (w.av nx), vs k] [] w.sto = some (.tup [dA (defAt w.D k).1, vb (defAt w.D k).2], w.sto) := by
  cases w with
  | a => exact fn_Def hE .nil .nil nx (by simp [Sl.list]) (by simp [Sl.list]) k
  | b g D =>
    simp only [Sh.D] at hl hk ⊢
    have hf := fn_findD hE k (.mk D) (by simp only [Sl.list]; omega)
    simp only [avM, Sl.list] at hf
    rw [hE.runN rfl rfl]
    rcases fidx_cases (isNm k) D 0 with ⟨h1, _⟩ | ⟨i, d, h1, h2, _, _⟩
    · rw [h1] at hf
      rw [defAt_no h1]
      simp -implicitDefEqProofs only [go_sem, ir_state_Def, Sh.av, Sh.sto, rwD, rwS, hf, lenA_own, lenA_nil, avM, Nat.zero_add, Int.natCast_zero, ias_own, List.getElem?_map, Option.map_some, Int.toNat_natCast, and_self, def_ids, def_rens, def_snaps, def_belows, sg_ids, sg_rens, sg_snaps, sg_belows, Int.natCast_nonneg, ro_def, ro_sg, ro_step]
      rfl
    · rw [Nat.zero_add] at h1
      have ho := fn_ownP hE d (hk d (List.mem_of_getElem? h2)).sh.2.1
      rw [h1] at hf
      rw [defAt_yes h1 h2]
      have h3 : ¬ ((i : Int) < 0) := by omega
      have h4 := (List.getElem?_eq_some_iff.1 h2).1
      simp -implicitDefEqProofs only [go_sem, ir_state_Def, Sh.av, Sh.sto, rwD, rwS, hf, h2, h3, h4, DefT.cells, ho, lenA_own, lenA_nil, avM, Nat.zero_add, Int.natCast_zero, ias_own, List.getElem?_map, Option.map_some, Int.toNat_natCast, and_self, def_ids, def_rens, def_snaps, def_belows, sg_ids, sg_rens, sg_snaps, sg_belows, Int.natCast_nonneg, ro_def, ro_sg, ro_step]
  | c g h D S =>
    simp only [Sh.D] at hl hk ⊢
    have hf := fn_findD hE k (.mk D) (by simp only [Sl.list]; omega)
    simp only [avM, Sl.list] at hf
    rw [hE.runN rfl rfl]
    rcases fidx_cases (isNm k) D 0 with ⟨h1, _⟩ | ⟨i, d, h1, h2, _, _⟩
    · rw [h1] at hf
      rw [defAt_no h1]
      simp -implicitDefEqProofs only [go_sem, ir_state_Def, Sh.av, Sh.sto, rwD, rwS, hf, lenA_own, lenA_nil, avM, Nat.zero_add, Int.natCast_zero, ias_own, List.getElem?_map, Option.map_some, Int.toNat_natCast, and_self, def_ids, def_rens, def_snaps, def_belows, sg_ids, sg_rens, sg_snaps, sg_belows, Int.natCast_nonneg, ro_def, ro_sg, ro_step]
      rfl
    · rw [Nat.zero_add] at h1
      have ho := fn_ownP hE d (hk d (List.mem_of_getElem? h2)).sh.2.1
      rw [h1] at hf
      rw [defAt_yes h1 h2]
      have h3 : ¬ ((i : Int) < 0) := by omega
      have h4 := (List.getElem?_eq_some_iff.1 h2).1
      simp -implicitDefEqProofs only [go_sem, ir_state_Def, Sh.av, Sh.sto, rwD, rwS, hf, h2, h3, h4, DefT.cells, ho, lenA_own, lenA_nil, avM, Nat.zero_add, Int.natCast_zero, ias_own, List.getElem?_map, Option.map_some, Int.toNat_natCast, and_self, def_ids, def_rens, def_snaps, def_belows, sg_ids, sg_rens, sg_snaps, sg_belows, Int.natCast_nonneg, ro_def, ro_sg, ro_step]
theorem fn_begin {E : Prog} (hE : Std E fns) (d : DefT) (i now : Int) (n0 : 0 ≤ now) (n1 : now ≤ 1099511627776) : callP E f_saga_Begin [dA d, vi i, vi now] = some (sA ⟨i, d.name, now, 0, 0, 0, false, now, 0⟩) := by
  have e := tickOf_id n0 n1
  rw [hE.run rfl rfl]
  simp -implicitDefEqProofs only [go_sem, ir_saga_Begin, fn_tickOf hE, e, ro_step]
section
variable {E : Prog} (hE : Std E fns) (w : Sh) (nx : Int) (v : EvT) (lim : Int) (hl : w.D.length ≤ 64) (hk : ∀ d, d ∈ w.D → DOK d)
include hE hl hk
theorem start_none (h0 : fidx (isNm v.name) w.D 0 = -1) : callL E f_state_start [.agg (w.av nx), vA v, vi lim] [] w.sto = some (.tup [.agg (w.av nx), vi 7], w.sto) := by
  have hD := fn_DefO hE w nx hl hk v.name
  rw [defAt_no h0] at hD
  obtain ⟨kd, nw, sg, nm, ⟨r1, r2, r3, r4, r5⟩, df⟩ := v
  dsimp only at *
  rw [hE.runN rfl rfl]
  cases w <;> simp only [Sh.av, Sh.sto, rwD, rwS] at hD ⊢ <;> simp -implicitDefEqProofs only [go_sem, ir_state_start, hD, lenA_own, lenA_nil, avM, Nat.zero_add, Int.natCast_zero, ias_own, List.getElem?_map, Option.map_some, Int.toNat_natCast, and_self, def_ids, def_rens, def_snaps, def_belows, sg_ids, sg_rens, sg_snaps, sg_belows, Int.natCast_nonneg, ro_def, ro_sg, ro_step]
theorem start_arg (j : Nat) (d : DefT) (h0 : fidx (isNm v.name) w.D 0 = (j : Int)) (hj : w.D[j]? = some d) (h4 : ¬ v.saga = nx) : callL E f_state_start [.agg (w.av nx), vA v, vi lim] [] w.sto = some (.tup [.agg (w.av nx), vi 1], w.sto) := by
  have hD := fn_DefO hE w nx hl hk v.name
  rw [defAt_yes h0 hj] at hD
  obtain ⟨kd, nw, sg, nm, ⟨r1, r2, r3, r4, r5⟩, df⟩ := v
  dsimp only at *
  rw [hE.runN rfl rfl]
  cases w with
  | a => cases hj
  | b g D =>
    simp only [Sh.av, Sh.sto, rwD, rwS] at hD ⊢
    simp -implicitDefEqProofs only [go_sem, ir_state_start, hD, h4, lenA_own, lenA_nil, avM, Nat.zero_add, Int.natCast_zero, ias_own, List.getElem?_map, Option.map_some, Int.toNat_natCast, and_self, def_ids, def_rens, def_snaps, def_belows, sg_ids, sg_rens, sg_snaps, sg_belows, Int.natCast_nonneg, ro_def, ro_sg, ro_step]
  | c g h D S =>
    simp only [Sh.av, Sh.sto, rwD, rwS] at hD ⊢
    simp -implicitDefEqProofs only [go_sem, ir_state_start, hD, h4, lenA_own, lenA_nil, avM, Nat.zero_add, Int.natCast_zero, ias_own, List.getElem?_map, Option.map_some, Int.toNat_natCast, and_self, def_ids, def_rens, def_snaps, def_belows, sg_ids, sg_rens, sg_snaps, sg_belows, Int.natCast_nonneg, ro_def, ro_sg, ro_step]
theorem start_room (j : Nat) (d : DefT) (h0 : fidx (isNm v.name) w.D 0 = (j : Int)) (hj : w.D[j]? = some d) (h4 : v.saga = nx) (h5 : lim ≤ (w.S.length : Int) ∨ 1048576 ≤ (w.S.length : Int) ∨ 1125899906842624 ≤ nx) :
    callL E f_state_start [.agg (w.av nx), vA v, vi lim] [] w.sto = some (.tup [.agg (w.av nx), vi 8], w.sto) := by
  have hD := fn_DefO hE w nx hl hk v.name
  rw [defAt_yes h0 hj] at hD
  obtain ⟨kd, nw, sg, nm, ⟨r1, r2, r3, r4, r5⟩, df⟩ := v
  dsimp only at *
  subst h4
  rw [hE.runN rfl rfl]
  cases w with
  | a => cases hj
  | b g D =>
    have h6 : lim ≤ 0 ∨ 1125899906842624 ≤ sg := by simp only [Sh.S, List.length_nil] at h5; omega
    simp only [Sh.av, Sh.sto, rwD, rwS] at hD ⊢
    simp -implicitDefEqProofs only [go_sem, ir_state_start, hD, gor_b, Bool.or_eq_true, or_assoc, h6, lenA_own, lenA_nil, avM, Nat.zero_add, Int.natCast_zero, ias_own, List.getElem?_map, Option.map_some, Int.toNat_natCast, and_self, def_ids, def_rens, def_snaps, def_belows, sg_ids, sg_rens, sg_snaps, sg_belows, Int.natCast_nonneg, ro_def, ro_sg, ro_step]
  | c g h D S =>
    simp only [Sh.S] at h5
    simp only [Sh.av, Sh.sto, rwD, rwS] at hD ⊢
    simp -implicitDefEqProofs only [go_sem, ir_state_start, hD, gor_b, Bool.or_eq_true, or_assoc, h5, lenA_own, lenA_nil, avM, Nat.zero_add, Int.natCast_zero, ias_own, List.getElem?_map, Option.map_some, Int.toNat_natCast, and_self, def_ids, def_rens, def_snaps, def_belows, sg_ids, sg_rens, sg_snaps, sg_belows, Int.natCast_nonneg, ro_def, ro_sg, ro_step]
theorem start_ok (n0 : 0 ≤ v.now) (n1 : v.now ≤ 1099511627776) (j : Nat) (d : DefT) (h0 : fidx (isNm v.name) w.D 0 = (j : Int)) (hj : w.D[j]? = some d) (hd : d.name = v.name) (h4 : v.saga = nx) (x0 : 0 ≤ nx)
    (h5 : ¬ (lim ≤ (w.S.length : Int) ∨ 1048576 ≤ (w.S.length : Int) ∨ 1125899906842624 ≤ nx)) :
    ∃ w' : Sh, callL E f_state_start [.agg (w.av nx), vA v, vi lim] [] w.sto = some (.tup [.agg (w'.av (nx + 1)), vi 0], w'.sto) ∧ w'.D = w.D ∧ w'.S = w.S ++ [begS v] := by
  have hD := fn_DefO hE w nx hl hk v.name
  rw [defAt_yes h0 hj] at hD
  have hb := fn_begin hE d v.saga v.now n0 n1
  have e : (⟨v.saga, d.name, v.now, 0, 0, 0, false, v.now, 0⟩ : SgT) = begS v := by rw [hd]; rfl
  rw [e] at hb
  have h6 : w.S.length < 1048576 := by omega
  generalize begS v = s at *
  have hw : IntKind.i64.wrap (nx + 1) = nx + 1 := IntWalk.i64_in _ (by omega)
  obtain ⟨kd, nw, sg, nm, ⟨r1, r2, r3, r4, r5⟩, df⟩ := v
  dsimp only at *
  subst h4
  clear hk h0 hd e
  rw [hE.runN rfl rfl]
  cases w with
  | a => cases hj
  | b g D =>
    refine ⟨.c g 0 D [s], ?_, rfl, rfl⟩
    have h7 : ¬ (lim ≤ 0 ∨ 1125899906842624 ≤ sg) := by simp only [Sh.S, List.length_nil] at h5; omega
    simp only [Sh.av, Sh.sto, rwD, rwS] at hD ⊢
    simp -implicitDefEqProofs only [go_sem, ir_state_start, hD, hb, hw, gor_b, Bool.or_eq_true, or_assoc, h7, List.length_cons, List.length_nil, List.map_cons, List.map_nil, SgT.cells, lenA_own, lenA_nil, avM, Nat.zero_add, Int.natCast_zero, ias_own, List.getElem?_map, Option.map_some, Int.toNat_natCast, and_self, def_ids, def_rens, def_snaps, def_belows, sg_ids, sg_rens, sg_snaps, sg_belows, Int.natCast_nonneg, ro_def, ro_sg, ro_step]
  | c g h D S =>
    simp only [Sh.S] at h5 h6
    refine ⟨.c g (h + 1) D (S ++ [s]), ?_, rfl, rfl⟩
    have a1 : (S.length + 1) * 80 ≤ 140737488355328 := by omega
    have b1 : (S ++ [s]).length = S.length + 1 := by simp
    have b2 : (S ++ [s]).map SgT.cells = S.map SgT.cells ++ [s.cells] := by simp
    have b3 : ∀ c, (S.map SgT.cells ++ [c]).take (S.length + 1) = S.map SgT.cells ++ [c] := fun c => List.take_of_length_le (by simp)
    have b4 : (S.map SgT.cells).take S.length = S.map SgT.cells := List.take_of_length_le (by simp)
    simp only [Sh.av, Sh.sto, rwD, rwS, b1, b2] at hD ⊢
    simp -implicitDefEqProofs only [go_sem, ir_state_start, hD, hb, hw, gor_b, Bool.or_eq_true, or_assoc, h5, a1, b3, b4, SgT.cells, lenA_own, lenA_nil, avM, Nat.zero_add, Int.natCast_zero, ias_own, List.getElem?_map, Option.map_some, Int.toNat_natCast, and_self, def_ids, def_rens, def_snaps, def_belows, sg_ids, sg_rens, sg_snaps, sg_belows, Int.natCast_nonneg, ro_def, ro_sg, ro_step]
end
theorem fn_delS {E : Prog} (hd : DSK E) (g n : Nat) (l : List SgT) (h : n < l.length) (h2 : l.length ≤ 1048576) :
    callL E f_slices_Delete_api_Saga_api_Saga [.own 0 g 0 l.length, vi n, vi ((n + 1 : Nat) : Int)] [] [.row 9 g (l.map SgT.cells) false] =
      some (.own 0 (g + 1) 0 (l.take n ++ l.drop (n + 1)).length, [.row 9 (g + 1) ((l.take n ++ l.drop (n + 1)).map SgT.cells) false]) := by
  rw [call_prim hd]
  have h3 : (l.take n ++ l.drop (n + 1)).length = n + (l.length - (n + 1)) := by rw [List.length_append, List.length_take, List.length_drop]; omega
  have h4 : (l.map SgT.cells).take l.length = l.map SgT.cells := List.take_of_length_le (by simp)
  simp only [pDelete, List.getElem?_cons_zero, List.drop_zero, h4, Int.toNat_natCast, Nat.zero_add, List.set_cons_zero, h3]
  rw [if_pos ⟨trivial, trivial, by simp, trivial, by omega, by omega, by omega, by omega⟩, List.map_append, List.map_take, List.map_drop]
section
variable {E : Prog} (hE : Std E fns) (w : Sh) (nx : Int) (v : EvT) (hs : w.S.length ≤ 1048576)
include hE hs
theorem step_gone (h0 : fidx (isId v.saga) w.S 0 = -1) : callL E f_state_step [.agg (w.av nx), vA v] [] w.sto = some (.tup [.agg (w.av nx), cA cm0, vi 7], w.sto) := by
  obtain ⟨kd, nw, sg, nm, ⟨r1, r2, r3, r4, r5⟩, df⟩ := v
  dsimp only at *
  rw [cm0_c, hE.runN rfl rfl]
  cases w with
  | a =>
    have hf := fn_findS hE sg .nil (by simp [Sl.list])
    simp only [Sl.av, Sl.list] at hf
    simp only [Sh.S] at h0
    rw [h0] at hf
    simp -implicitDefEqProofs only [go_sem, ir_state_step, Sh.av, Sh.sto, rwD, rwS, hf, lenA_own, lenA_nil, avM, Nat.zero_add, Int.natCast_zero, ias_own, List.getElem?_map, Option.map_some, Int.toNat_natCast, and_self, def_ids, def_rens, def_snaps, def_belows, sg_ids, sg_rens, sg_snaps, sg_belows, Int.natCast_nonneg, ro_def, ro_sg, ro_step]
  | b g D =>
    have hf := fn_findS hE sg .nil (by simp [Sl.list])
    simp only [Sl.av, Sl.list] at hf
    simp only [Sh.S] at h0
    rw [h0] at hf
    simp -implicitDefEqProofs only [go_sem, ir_state_step, Sh.av, Sh.sto, rwD, rwS, hf, lenA_own, lenA_nil, avM, Nat.zero_add, Int.natCast_zero, ias_own, List.getElem?_map, Option.map_some, Int.toNat_natCast, and_self, def_ids, def_rens, def_snaps, def_belows, sg_ids, sg_rens, sg_snaps, sg_belows, Int.natCast_nonneg, ro_def, ro_sg, ro_step]
  | c g h D S =>
    simp only [Sh.S] at h0 hs
    have hf := fn_findS hE sg (.mk S) (by simp only [Sl.list]; omega)
    simp only [avM, Sl.list] at hf
    rw [h0] at hf
    simp -implicitDefEqProofs only [go_sem, ir_state_step, Sh.av, Sh.sto, rwD, rwS, hf, lenA_own, lenA_nil, avM, Nat.zero_add, Int.natCast_zero, ias_own, List.getElem?_map, Option.map_some, Int.toNat_natCast, and_self, def_ids, def_rens, def_snaps, def_belows, sg_ids, sg_rens, sg_snaps, sg_belows, Int.natCast_nonneg, ro_def, ro_sg, ro_step]
theorem step_stay (k : Nat) (s : SgT) (h0 : fidx (isId v.saga) w.S 0 = (k : Int)) (h1 : w.S[k]? = some s) (hk : v.kind = 10) (ho : overS s = false) :
    callL E f_state_step [.agg (w.av nx), vA v] [] w.sto = some (.tup [.agg (w.av nx), cA cm0, vi 9], w.sto) := by
  have hr := fn_over hE s
  rw [ho] at hr
  obtain ⟨kd, nw, sg, nm, ⟨r1, r2, r3, r4, r5⟩, df⟩ := v
  dsimp only at *
  subst hk
  rw [cm0_c, hE.runN rfl rfl]
  cases w with
  | a => cases h1
  | b g D => cases h1
  | c g h D S =>
    simp only [Sh.S] at h0 h1 hs
    have hf := fn_findS hE sg (.mk S) (by simp only [Sl.list]; omega)
    simp only [avM, Sl.list] at hf
    rw [h0] at hf
    have q1 : ¬ ((k : Int) < 0) := by omega
    have h4 := (List.getElem?_eq_some_iff.1 h1).1
    simp -implicitDefEqProofs only [go_sem, ir_state_step, Sh.av, Sh.sto, rwD, rwS, hf, q1, h1, h4, hr, SgT.cells, lenA_own, lenA_nil, avM, Nat.zero_add, Int.natCast_zero, ias_own, List.getElem?_map, Option.map_some, Int.toNat_natCast, and_self, def_ids, def_rens, def_snaps, def_belows, sg_ids, sg_rens, sg_snaps, sg_belows, Int.natCast_nonneg, ro_def, ro_sg, ro_step]
theorem step_forget (hdl : DSK E) (k : Nat) (s : SgT) (h0 : fidx (isId v.saga) w.S 0 = (k : Int)) (h1 : w.S[k]? = some s) (hk : v.kind = 10) (ho : overS s = true) :
    ∃ w' : Sh, callL E f_state_step [.agg (w.av nx), vA v] [] w.sto = some (.tup [.agg (w'.av nx), cA cm0, vi 0], w'.sto) ∧ w'.D = w.D ∧ w'.S = w.S.take k ++ w.S.drop (k + 1) := by
  have hr := fn_over hE s
  rw [ho] at hr
  obtain ⟨kd, nw, sg, nm, ⟨r1, r2, r3, r4, r5⟩, df⟩ := v
  dsimp only at *
  subst hk
  rw [cm0_c, hE.runN rfl rfl]
  cases w with
  | a => cases h1
  | b g D => cases h1
  | c g h D S =>
    simp only [Sh.S] at h0 h1 hs
    refine ⟨.c g (h + 1) D (S.take k ++ S.drop (k + 1)), ?_, rfl, rfl⟩
    have hf := fn_findS hE sg (.mk S) (by simp only [Sl.list]; omega)
    simp only [avM, Sl.list] at hf
    rw [h0] at hf
    have q1 : ¬ ((k : Int) < 0) := by omega
    have h4 := (List.getElem?_eq_some_iff.1 h1).1
    have h6 := wrap_succ (i := k) (by omega)
    have hq := fn_delS hdl h k S h4 hs
    generalize S.take k ++ S.drop (k + 1) = S' at *
    simp -implicitDefEqProofs only [go_sem, ir_state_step, Sh.av, Sh.sto, rwD, rwS, hf, q1, h1, h4, h6, hr, hq, SgT.cells, lenA_own, lenA_nil, avM, Nat.zero_add, Int.natCast_zero, ias_own, List.getElem?_map, Option.map_some, Int.toNat_natCast, and_self, def_ids, def_rens, def_snaps, def_belows, sg_ids, sg_rens, sg_snaps, sg_belows, Int.natCast_nonneg, ro_def, ro_sg, ro_step]
theorem step_call (hv : VO E) (hi : IOK E) (hl : w.D.length ≤ 64) (hdk : ∀ d, d ∈ w.D → DOK d) (k j : Nat) (s : SgT) (d : DefT) (t : StepT) (h0 : fidx (isId v.saga) w.S 0 = (k : Int)) (h1 : w.S[k]? = some s) (k0 : 2 ≤ v.kind) (k1 : v.kind ≤ 9)
    (hj : fidx (isNm s.df) w.D 0 = (j : Int)) (dj : w.D[j]? = some d) (so : SOK d s t) (hid : s.id ≤ 9223372036854775807) (n0 : 0 ≤ v.now) (n1 : v.now ≤ 1099511627776) :
    ∃ w' : Sh, callL E f_state_step [.agg (w.av nx), vA v] [] w.sto = some (.tup [.agg (w'.av nx), cA (callS d t s v).2.1, vi (callS d t s v).2.2], w'.sto) ∧ w'.D = w.D ∧ w'.S = w.S.set k (callS d t s v).1 := by
  have hc := fn_call hE hv hi d (hdk d (List.mem_of_getElem? dj)) s t so hid v n0 n1 k0 k1
  have hD := fn_DefO hE w nx hl hdk s.df
  rw [defAt_yes hj dj] at hD
  have c10 : ¬ v.kind = 10 := by omega
  generalize callS d t s v = r at *
  clear so
  obtain ⟨⟨i', df', b', ph', sp', tr', o', du', sk'⟩, ⟨q1, q2, q3, q4, q5, q6⟩, e'⟩ := r
  obtain ⟨kd, nw, sg, nm, ⟨r1, r2, r3, r4, r5⟩, df⟩ := v
  obtain ⟨i, sdf, b, ph, sp, tr, o, du, sk⟩ := s
  dsimp only at *
  rw [hE.runN rfl rfl]
  cases w with
  | a => cases h1
  | b g D => cases h1
  | c g h D S =>
    simp only [Sh.S] at h0 h1 hs
    refine ⟨.c g h D (S.set k ⟨i', df', b', ph', sp', tr', o', du', sk'⟩), ?_, rfl, rfl⟩
    have hf := fn_findS hE sg (.mk S) (by simp only [Sl.list]; omega)
    simp only [avM, Sl.list] at hf
    rw [h0] at hf
    have z1 : ¬ ((k : Int) < 0) := by omega
    have h4 := (List.getElem?_eq_some_iff.1 h1).1
    have e2 : (S.map SgT.cells).set k [vi i', vs df', vi b', vi ph', vi sp', vi tr', vb o', vi du', vi sk'] = (S.set k ⟨i', df', b', ph', sp', tr', o', du', sk'⟩).map SgT.cells := by
      rw [List.map_set]; rfl
    have e3 : (S.set k ⟨i', df', b', ph', sp', tr', o', du', sk'⟩).length = S.length := List.length_set
    simp only [Sh.av, Sh.sto, rwD, rwS] at hD ⊢
    rw [e3]
    simp -implicitDefEqProofs only [go_sem, ir_state_step, hf, z1, h1, h4, hD, hc, c10, e2, SgT.cells, lenA_own, lenA_nil, avM, Nat.zero_add, Int.natCast_zero, ias_own, List.getElem?_map, Option.map_some, Int.toNat_natCast, and_self, def_ids, def_rens, def_snaps, def_belows, sg_ids, sg_rens, sg_snaps, sg_belows, Int.natCast_nonneg, ro_def, ro_sg, ro_step]
end
def Sh.st : Sh → Int → StT
  | .a, n => ⟨.nil, .nil, n⟩
  | .b _ D, n => ⟨.mk D, .nil, n⟩
  | .c _ _ D S, n => ⟨.mk D, .mk S, n⟩
theorem Sh.st_D (w : Sh) (n : Int) : (w.st n).defs.list = w.D := by cases w <;> rfl
theorem Sh.st_S (w : Sh) (n : Int) : (w.st n).sagas.list = w.S := by cases w <;> rfl
theorem Sh.st_n (w : Sh) (n : Int) : (w.st n).next = n := by cases w <;> rfl
theorem tk0 {α : Type} (f : α → List AV) (xs : List α) : (xs.map f).take xs.length = xs.map f := List.take_of_length_le (by simp)
section
variable {E : Prog} (hE : Std E fns) (hv : VO E) (x : StT) (v : EvT) (hn : v.name.size ≤ 200) (hd : shortD v.df) (lim : Int) (w : Sh) (ho : callL E f_state_own [stA x] [] [] = some (.agg (w.av x.next), w.sto))
include hE hv hn hd ho
theorem do_bad (hg : evGood v = false) : callP E f_state_Do [stA x, vA v, vi lim] = some (ansA (w.st x.next) cm0 3) := by
  have h1 := fn_evgood hE hv v hn hd
  rw [hg] at h1
  obtain ⟨kd, nw, sg, nm, ⟨r1, r2, r3, r4, r5⟩, df⟩ := v
  dsimp only at *
  rw [hE.run rfl rfl]
  cases w <;> simp only [Sh.av, Sh.sto, rwD, rwS] at ho <;> simp -implicitDefEqProofs only [go_sem, ir_state_Do, ho, h1, ro_def, ro_sg, ro_step, def_ids, def_rens, def_snaps, def_belows, sg_ids, sg_rens, sg_snaps, sg_belows, tk0, avM, Nat.zero_add] <;> rfl
set_option maxHeartbeats 4000000 in
theorem do_define (h : XOK x) (hg : evGood v = true) (hk : v.kind = 0) (w' : Sh) (e : Int) (hr : callL E f_state_define [.agg (w.av x.next), dA v.df] [] w.sto = some (.tup [.agg (w'.av x.next), vi e], w'.sto)) :
    callP E f_state_Do [stA x, vA v, vi lim] = some (ansA (w'.st x.next) cm0 e) := by
  have h1 := fn_evgood hE hv v hn hd
  have h2 := fn_stgood hE hv x h
  rw [hg] at h1
  obtain ⟨kd, nw, sg, nm, ⟨r1, r2, r3, r4, r5⟩, df⟩ := v
  dsimp only at *
  subst hk
  rw [hE.run rfl rfl]
  cases w <;> cases w' <;> simp only [Sh.av, Sh.sto, rwD, rwS] at ho hr <;> simp -implicitDefEqProofs only [go_sem, ir_state_Do, ho, h1, h2, hr, ro_def, ro_sg, ro_step, def_ids, def_rens, def_snaps, def_belows, sg_ids, sg_rens, sg_snaps, sg_belows, tk0, avM, Nat.zero_add] <;> rfl
set_option maxHeartbeats 4000000 in
theorem do_start (h : XOK x) (hg : evGood v = true) (hk : v.kind = 1) (w' : Sh) (nx e : Int) (hr : callL E f_state_start [.agg (w.av x.next), vA v, vi lim] [] w.sto = some (.tup [.agg (w'.av nx), vi e], w'.sto)) :
    callP E f_state_Do [stA x, vA v, vi lim] = some (ansA (w'.st nx) cm0 e) := by
  have h1 := fn_evgood hE hv v hn hd
  have h2 := fn_stgood hE hv x h
  rw [hg] at h1
  obtain ⟨kd, nw, sg, nm, ⟨r1, r2, r3, r4, r5⟩, df⟩ := v
  dsimp only at *
  subst hk
  rw [hE.run rfl rfl]
  cases w <;> cases w' <;> simp only [Sh.av, Sh.sto, rwD, rwS] at ho hr <;> simp -implicitDefEqProofs only [go_sem, ir_state_Do, ho, h1, h2, hr, ro_def, ro_sg, ro_step, def_ids, def_rens, def_snaps, def_belows, sg_ids, sg_rens, sg_snaps, sg_belows, tk0, avM, Nat.zero_add] <;> rfl
set_option maxHeartbeats 4000000 in
theorem do_step (h : XOK x) (hg : evGood v = true) (k0 : ¬ v.kind = 0) (k1 : ¬ v.kind = 1) (w' : Sh) (c : CmT) (e : Int) (hr : callL E f_state_step [.agg (w.av x.next), vA v] [] w.sto = some (.tup [.agg (w'.av x.next), cA c, vi e], w'.sto)) :
    callP E f_state_Do [stA x, vA v, vi lim] = some (ansA (w'.st x.next) c e) := by
  have h1 := fn_evgood hE hv v hn hd
  have h2 := fn_stgood hE hv x h
  rw [hg] at h1
  obtain ⟨kd, nw, sg, nm, ⟨r1, r2, r3, r4, r5⟩, df⟩ := v
  obtain ⟨q1, q2, q3, q4, q5, q6⟩ := c
  dsimp only at *
  rw [hE.run rfl rfl]
  cases w <;> cases w' <;> simp only [Sh.av, Sh.sto, rwD, rwS] at ho hr <;> simp -implicitDefEqProofs only [go_sem, ir_state_Do, ho, h1, h2, hr, k0, k1, ro_def, ro_sg, ro_step, def_ids, def_rens, def_snaps, def_belows, sg_ids, sg_rens, sg_snaps, sg_belows, tk0, avM, Nat.zero_add] <;> rfl
end
structure WOK (d : DefT) (s : SgT) : Prop where
  nm : s.df = d.name
  id0 : 0 ≤ s.id
  s0 : 0 ≤ s.step
  s1 : s.step < d.steps.list.length
  b0 : 0 ≤ s.start
  b1 : s.start ≤ 1099511627776
  a0 : 0 ≤ s.due
  a1 : s.due ≤ 1099511627776
  k0 : 0 ≤ s.skips
  k1 : s.skips ≤ 32
  t0 : 0 ≤ s.tries
  t1 : s.tries ≤ 1001
theorem SOK.w {d : DefT} {s : SgT} {t : StepT} (h : SOK d s t) : WOK d s := ⟨h.nm, h.id0, h.s0, h.lt, h.b0, h.b1, h.a0, h.a1, h.k0, h.k1, h.t0, h.t1⟩
theorem step_at {d : DefT} {i : Int} (h0 : 0 ≤ i) (h1 : i < d.steps.list.length) : ∃ t, d.steps.list[i.toNat]? = some t :=
  ⟨d.steps.list[i.toNat]'(by omega), List.getElem?_eq_getElem _⟩
theorem ret_in {d : DefT} (hd : DOK d) {s : SgT} {t : StepT} (h : d.steps.list[s.step.toNat]? = some t) : 0 ≤ (planT t s).ret ∧ (planT t s).ret ≤ 1000 :=
  ⟨(plan_ok (plan_good hd h)).r0, (plan_ok (plan_good hd h)).r1⟩
theorem sok_put {d : DefT} (hd : DOK d) {s : SgT} (w : WOK d s) (ph sp now : Int) (hp : ph = 0 ∨ ph = 1) (h0 : 0 ≤ sp) (h1 : sp < d.steps.list.length) (n0 : 0 ≤ now) (n1 : now ≤ 1099511627776) :
    ∃ t', SOK d (putS s ph sp now) t' := by
  obtain ⟨t', ht⟩ := step_at h0 h1
  have r := ret_in hd (s := putS s ph sp now) ht
  refine ⟨t', ⟨w.nm, w.id0, ?_, ?_, h0, ht, w.b0, w.b1, n0, n1, w.k0, w.k1, ?_, ?_, fun _ => ?_, fun h => ?_, fun h => ?_⟩⟩
  · show 0 ≤ ph; omega
  · show ph ≤ 5; omega
  · show (0 : Int) ≤ 0; omega
  · show (0 : Int) ≤ 1001; omega
  · show (0 : Int) ≤ _ + 1; omega
  · cases h
  · exact absurd h (show ¬ ph = 2 by omega)
theorem sok_send {d : DefT} {s : SgT} (w : WOK d s) (ph : Int) (hp : ph = 3 ∨ ph = 4 ∨ ph = 5) : ∃ t', SOK d (sendS s ph) t' := by
  obtain ⟨t', ht⟩ := step_at w.s0 w.s1
  refine ⟨t', ⟨w.nm, w.id0, ?_, ?_, w.s0, ht, w.b0, w.b1, w.a0, w.a1, w.k0, w.k1, w.t0, w.t1, fun h => ?_, fun h => ?_, fun h => ?_⟩⟩
  · show 0 ≤ ph; omega
  · show ph ≤ 5; omega
  · exfalso
    have : overS (sendS s ph) = true := by rcases hp with rfl | rfl | rfl <;> rfl
    rw [this] at h; cases h
  · cases h
  · exact absurd h (show ¬ ph = 2 by omega)
theorem sok_back {d : DefT} (hd : DOK d) {s : SgT} (w : WOK d s) {now : Int} (n0 : 0 ≤ now) (n1 : now ≤ 1099511627776) : ∃ t', SOK d (backS s now) t' := by
  unfold backS
  have h0 := w.s0; have h1 := w.s1
  split
  · exact sok_put hd w 1 _ now (.inr rfl) (by omega) (by omega) n0 n1
  · exact sok_send w 4 (by omega)
theorem sok_done {d : DefT} (hd : DOK d) {s : SgT} (w : WOK d s) {now : Int} (n0 : 0 ≤ now) (n1 : now ≤ 1099511627776) : ∃ t', SOK d (doneS d s now) t' := by
  unfold doneS
  have h0 := w.s0; have h1 := w.s1
  split
  · split
    · exact sok_put hd w 0 _ now (.inl rfl) (by omega) (by omega) n0 n1
    · exact sok_send w 3 (by omega)
  · split
    · exact sok_put hd w 1 _ now (.inr rfl) (by omega) (by omega) n0 n1
    · split
      · exact sok_send w 5 (by omega)
      · exact sok_send w 4 (by omega)
theorem sok_fails {d : DefT} (hd : DOK d) {s : SgT} {t : StepT} (h : SOK d s t) (ho : overS s = false) {now : Int} (n0 : 0 ≤ now) (n1 : now ≤ 1099511627776) : ∃ t', SOK d (failsS t s now) t' := by
  unfold failsS
  have hm := h.mo ho
  split
  · rename_i c
    refine ⟨t, ⟨h.nm, h.id0, h.p0, h.p5, h.s0, h.st, h.b0, h.b1, (tickOf_in _).1, (tickOf_in _).2, h.k0, h.k1, h.t0, h.t1, fun _ => hm, fun h => ?_, fun hp => ?_⟩⟩
    · cases h
    · have := h.pk hp
      exact this
  · rename_i c
    split
    · exact sok_back hd h.w n0 n1
    · rename_i c2
      have e : ∀ x : SgT, x.phase = 2 → planT t x = planT t s := fun x hx => by unfold planT; rw [if_neg (by omega), if_neg c2]
      have e1 := e ⟨s.id, s.df, s.start, 2, s.step, s.tries, false, s.due, s.skips⟩ rfl
      refine ⟨t, ⟨h.nm, h.id0, by show (0 : Int) ≤ 2; omega, by show (2 : Int) ≤ 5; omega, h.s0, h.st, h.b0, h.b1, h.a0, h.a1, h.k0, h.k1, h.t0, h.t1, fun _ => ?_, fun h => ?_, fun hp => ?_⟩⟩
      · rw [e1]; exact hm
      · cases h
      · rw [e1]
        show s.tries = _
        omega
theorem fails_id (t : StepT) (s : SgT) (now : Int) : (failsS t s now).id = s.id := by
  unfold failsS backS putS sendS
  repeat' split
  all_goals rfl
theorem done_id (d : DefT) (s : SgT) (now : Int) : (doneS d s now).id = s.id := by
  unfold doneS putS sendS
  repeat' split
  all_goals rfl
theorem back_id (s : SgT) (now : Int) : (backS s now).id = s.id := by
  unfold backS putS sendS
  repeat' split
  all_goals rfl
theorem sok_call {d : DefT} (hd : DOK d) {s : SgT} {t : StepT} (h : SOK d s t) (v : EvT) (n0 : 0 ≤ v.now) (n1 : v.now ≤ 1099511627776) :
    (∃ t', SOK d (callS d t s v).1 t') ∧ (callS d t s v).1.id = s.id ∧ ((callS d t s v).2.2 ≠ 0 → (callS d t s v).1 = s) := by
  have stay : (∃ t', SOK d s t') ∧ s.id = s.id ∧ ∀ e : Int, e ≠ 0 → s = s := ⟨⟨t, h⟩, rfl, fun _ _ => rfl⟩
  unfold callS
  split
  · unfold emS
    split
    · exact ⟨⟨t, h⟩, rfl, fun _ => rfl⟩
    · rename_i ho
      have ho' : overS s = false := by simpa using ho
      split
      · rename_i hm
        refine ⟨⟨t, ?_⟩, rfl, fun h => absurd rfl h⟩
        simp only [smayS, Bool.and_eq_true, Bool.not_eq_true', decide_eq_true_eq, decide_eq_false_iff_not] at hm
        obtain ⟨m1, m2, m3, m4, m5⟩ := hm
        have := h.t0; have r := ret_in hd h.st; have p0 := h.p0; have p5 := h.p5
        have ph := not_over p0 p5 ho'
        exact ⟨h.nm, h.id0, h.p0, h.p5, h.s0, h.st, h.b0, h.b1, (tickOf_in _).1, (tickOf_in _).2, h.k0, h.k1, by show 0 ≤ s.tries + 1; omega, by show s.tries + 1 ≤ 1001; omega,
          fun _ => by show s.tries + 1 ≤ (planT t s).ret + 1; omega, fun _ => ⟨by show 1 ≤ s.tries + 1; omega, by show s.phase ≤ 1; omega⟩, fun hp => absurd hp m1⟩
      · exact ⟨⟨t, h⟩, rfl, fun _ => rfl⟩
  · split
    · unfold replyS
      split
      · exact ⟨⟨t, h⟩, rfl, fun _ => rfl⟩
      · rename_i ho
        have ho' : overS s = false := by simpa using ho
        split
        · exact ⟨⟨t, h⟩, rfl, fun _ => rfl⟩
        · split
          · exact ⟨⟨t, h⟩, rfl, fun _ => rfl⟩
          · split
            · exact ⟨sok_done hd h.w n0 n1, done_id d s _, fun h => absurd rfl h⟩
            · exact ⟨sok_fails hd h ho' n0 n1, fails_id t s _, fun h => absurd rfl h⟩
    · unfold actS
      split
      · exact ⟨⟨t, h⟩, rfl, fun _ => rfl⟩
      · rename_i ho
        have ho' : overS s = false := by simpa using ho
        unfold actN
        split <;> split
        · exact ⟨sok_fails hd h ho' n0 n1, fails_id t s _, fun h => absurd rfl h⟩
        · exact ⟨⟨t, h⟩, rfl, fun _ => rfl⟩
        · exact ⟨sok_back hd h.w n0 n1, back_id s _, fun h => absurd rfl h⟩
        · exact ⟨⟨t, h⟩, rfl, fun _ => rfl⟩
        · exact ⟨sok_back hd h.w n0 n1, back_id s _, fun h => absurd rfl h⟩
        · exact ⟨⟨t, h⟩, rfl, fun _ => rfl⟩
        · exact ⟨sok_put hd h.w 1 _ _ (.inr rfl) h.s0 h.lt n0 n1, rfl, fun h => absurd rfl h⟩
        · exact ⟨⟨t, h⟩, rfl, fun _ => rfl⟩
        · have k0 := h.k0; have k1 := h.k1
          have hw : WOK d ⟨s.id, s.df, s.start, s.phase, s.step, s.tries, s.out, s.due, if s.skips < 32 then s.skips + 1 else s.skips⟩ :=
            ⟨h.nm, h.id0, h.s0, h.lt, h.b0, h.b1, h.a0, h.a1, by show 0 ≤ (if s.skips < 32 then s.skips + 1 else s.skips); split <;> omega, by show (if s.skips < 32 then s.skips + 1 else s.skips) ≤ 32; split <;> omega, h.t0, h.t1⟩
          exact ⟨sok_done hd hw n0 n1, done_id d _ _, fun h => absurd rfl h⟩
        · exact ⟨⟨t, h⟩, rfl, fun _ => rfl⟩
        · exact ⟨sok_send h.w 5 (by omega), rfl, fun h => absurd rfl h⟩
        · exact ⟨⟨t, h⟩, rfl, fun _ => rfl⟩
theorem lb_lt (k : ByteArray) : ∀ (D : List DefT) (x : DefT), x ∈ D.take (lbD k D) → kyB x.name < kyB k
  | [], x, h => by simp [lbD] at h
  | d :: r, x, h => by
    unfold lbD at h
    split at h
    · rename_i c
      rw [List.take_succ_cons] at h
      rcases List.mem_cons.1 h with rfl | h
      · exact c
      · exact lb_lt k r x h
    · simp at h
theorem lb_gt (k : ByteArray) : ∀ (D : List DefT) (x : DefT), D.Pairwise ltN → (∀ y, y ∈ D → y.name ≠ k) → x ∈ D.drop (lbD k D) → kyB k < kyB x.name
  | [], x, _, _, h => by simp at h
  | d :: r, x, hs, hn, h => by
    unfold lbD at h
    split at h
    · rw [List.drop_succ_cons] at h
      exact lb_gt k r x (List.pairwise_cons.1 hs).2 (fun y hy => hn y (List.mem_cons_of_mem _ hy)) h
    · rename_i c
      have hd : kyB k < kyB d.name := by
        rcases Classical.em (kyB k < kyB d.name) with h | h
        · exact h
        · exact absurd (kyB_inj (List.le_antisymm (List.not_lt.1 h) (List.not_lt.1 c))) (hn d List.mem_cons_self)
      rw [List.drop_zero] at h
      rcases List.mem_cons.1 h with rfl | h
      · exact hd
      · exact List.lt_trans hd ((List.pairwise_cons.1 hs).1 x h)
theorem ins_mem {D : List DefT} {d x : DefT} : x ∈ insD D d ↔ x = d ∨ x ∈ D := by
  unfold insD
  rw [List.mem_append, List.mem_cons]
  constructor
  · rintro (h | h | h)
    · exact .inr (List.mem_of_mem_take h)
    · exact .inl h
    · exact .inr (List.mem_of_mem_drop h)
  · rintro (h | h)
    · exact .inr (.inl h)
    · rw [← List.take_append_drop (lbD d.name D) D] at h
      rcases List.mem_append.1 h with h | h
      · exact .inl h
      · exact .inr (.inr h)
theorem gok_ins {D : List DefT} {S : List SgT} {nx : Int} (h : GOK D S nx) {d : DefT} (hd : DOK d) (hl : D.length < 64) (hn : ∀ y, y ∈ D → y.name ≠ d.name) : GOK (insD D d) S nx := by
  refine ⟨?_, ?_, ?_, h.ss, h.sl, ?_, h.n0, h.n1⟩
  · have := lbD_le d.name D
    simp only [insD, List.length_append, List.length_cons, List.length_take, List.length_drop]; omega
  · intro x hx
    rcases ins_mem.1 hx with rfl | hx
    · exact hd
    · exact h.dk x hx
  · unfold insD
    rw [List.pairwise_append, List.pairwise_cons]
    refine ⟨h.ds.sublist (List.take_sublist _ _), ⟨fun x hx => lb_gt d.name D x h.ds hn hx, h.ds.sublist (List.drop_sublist _ _)⟩, fun a ha b hb => ?_⟩
    have h1 := lb_lt d.name D a ha
    rcases List.mem_cons.1 hb with rfl | hb
    · exact h1
    · exact List.lt_trans h1 (lb_gt d.name D b h.ds hn hb)
  · intro s hs
    obtain ⟨h1, e, t, h2, h3⟩ := h.sk s hs
    exact ⟨h1, e, t, ins_mem.2 (.inr h2), h3⟩
theorem gok_start {D : List DefT} {S : List SgT} {nx : Int} (h : GOK D S nx) {d : DefT} (hd : d ∈ D) (v : EvT) (n0 : 0 ≤ v.now) (n1 : v.now ≤ 1099511627776) (hn : d.name = v.name) (hs : v.saga = nx) (hl : S.length < 1048576) (hx : nx < 1125899906842624) :
    GOK D (S ++ [begS v]) (nx + 1) := by
  have hdk := h.dk d hd
  have h0 := h.n0
  refine ⟨h.dl, h.dk, h.ds, ?_, by simp; omega, ?_, by omega, by omega⟩
  · rw [List.pairwise_append]
    refine ⟨h.ss, List.pairwise_singleton _ _, fun a ha b hb => ?_⟩
    simp only [List.mem_singleton] at hb
    subst hb
    have := (h.sk a ha).1
    show a.id < v.saga
    omega
  · intro s hs'
    rcases List.mem_append.1 hs' with hs' | hs'
    · obtain ⟨h1, r⟩ := h.sk s hs'
      exact ⟨by omega, r⟩
    · simp only [List.mem_singleton] at hs'
      subst hs'
      have hp := hdk.f.2.1
      obtain ⟨t, ht⟩ := step_at (d := d) (i := 0) (by omega) (by omega)
      have r := ret_in hdk (s := begS v) ht
      refine ⟨by show v.saga < nx + 1; omega, d, t, hd, ⟨hn.symm, by show 0 ≤ v.saga; omega, by show (0 : Int) ≤ 0; omega, by show (0 : Int) ≤ 5; omega, by show (0 : Int) ≤ 0; omega, ht, n0, n1, n0, n1, by show (0 : Int) ≤ 0; omega, by show (0 : Int) ≤ 32; omega, by show (0 : Int) ≤ 0; omega, by show (0 : Int) ≤ 1001; omega, fun _ => (by show (0 : Int) ≤ _ + 1; omega), fun h => (by cases h), fun h => (by cases h)⟩⟩
theorem gok_sub {D : List DefT} {S S' : List SgT} {nx : Int} (h : GOK D S nx) (hs : S'.Sublist S) : GOK D S' nx :=
  ⟨h.dl, h.dk, h.ds, h.ss.sublist hs, by have := hs.length_le; have := h.sl; omega, fun s hm => h.sk s (hs.mem hm), h.n0, h.n1⟩
theorem cut_sub {α : Type} (l : List α) (k : Nat) : (l.take k ++ l.drop (k + 1)).Sublist l := by
  rw [← List.eraseIdx_eq_take_drop_succ]; exact List.eraseIdx_sublist l k
theorem gok_set {D : List DefT} {S : List SgT} {nx : Int} (h : GOK D S nx) {k : Nat} {s s' : SgT} (hk : S[k]? = some s) (hi : s'.id = s.id) {d : DefT} {t : StepT} (hd : d ∈ D) (ho : SOK d s' t) : GOK D (S.set k s') nx := by
  refine ⟨h.dl, h.dk, h.ds, ?_, by rw [List.length_set]; exact h.sl, fun x hx => ?_, h.n0, h.n1⟩
  · have h1 : (S.map (·.id)).Pairwise (· < ·) := List.pairwise_map.2 h.ss
    have h2 : (S.set k s').map (·.id) = S.map (·.id) := by
      rw [List.map_set, hi]
      apply List.ext_getElem?
      intro i
      rw [List.getElem?_set]
      split
      · rename_i c
        subst c
        rw [List.getElem?_map, hk]
        have := (List.getElem?_eq_some_iff.1 hk).1
        simp [this]
      · rfl
    rw [← h2] at h1
    have h3 := List.pairwise_map.1 h1
    exact h3
  · rcases List.mem_or_eq_of_mem_set hx with hx | rfl
    · exact h.sk x hx
    · exact ⟨by rw [hi]; exact (h.sk s (List.mem_of_getElem? hk)).1, d, t, hd, ho⟩
theorem set_same {α : Type} {l : List α} {k : Nat} {x : α} (h : l[k]? = some x) : l.set k x = l := by
  apply List.ext_getElem?
  intro i
  rw [List.getElem?_set]
  split
  · rename_i c; subst c
    obtain ⟨h1, h2⟩ := List.getElem?_eq_some_iff.1 h
    simp [h1, h2]
  · rfl
structure Eqv (x y : StT) : Prop where
  d : x.defs.list = y.defs.list
  s : x.sagas.list = y.sagas.list
  n : x.next = y.next
theorem Eqv.ok {x y : StT} (q : Eqv x y) (h : XOK x) : XOK y := by
  show GOK _ _ _
  rw [← q.d, ← q.s, ← q.n]; exact h
def Acted (x : StT) (D : List DefT) (S : List SgT) (v : EvT) : Prop := ∃ k j s d t, Hit x v k j s d t ∧ D = x.defs.list ∧
  ((v.kind ≤ 9 ∧ S = x.sagas.list.set k (callS d t s v).1 ∧ (callS d t s v).2.2 = 0) ∨ (v.kind = 10 ∧ S = x.sagas.list.take k ++ x.sagas.list.drop (k + 1)))
structure Grow (x x' : StT) (v : EvT) (e : Int) : Prop where
  n : (e = 0 ∧ v.kind = 1 ∧ x'.next = x.next + 1) ∨ (¬ (e = 0 ∧ v.kind = 1) ∧ x'.next = x.next)
  l : x.defs.list.length ≤ x'.defs.list.length
  d : ∀ d, d ∈ x.defs.list → d ∈ x'.defs.list
  s : ∀ s, s ∈ x.sagas.list → s.id ≠ v.saga → s ∈ x'.sagas.list
  t : ∀ s, s ∈ x'.sagas.list → s.id ≠ v.saga → s ∈ x.sagas.list
  z : v.kind = 0 → x'.sagas.list = x.sagas.list
  a : e = 0 → 2 ≤ v.kind → Acted x x'.defs.list x'.sagas.list v
  b : e = 0 → evGood v = true ∧ (v.kind = 1 → v.saga = x.next)
def NN (x : StT) : Prop := x.defs.list = [] → x.sagas = .nil
theorem ev_def {v : EvT} (h : evGood v = true) (hk : v.kind = 0) : (checkS v.df).2 = 0 := by
  unfold evGood at h
  split at h
  · cases h
  · split at h
    · cases h
    · rw [Bool.and_eq_true, decide_eq_true_eq] at h
      exact h.1
def Both (E : Prog) (x y : StT) (v : EvT) (lim : Int) : Prop := ∃ (x' y' : StT) (c : CmT) (e : Int),
  callP E f_state_Do [stA x, vA v, vi lim] = some (ansA x' c e) ∧ callP E f_usufructref16_Do [stA y, vA v, vi lim] = some (ansA y' c e) ∧
  Eqv x' y' ∧ XOK x' ∧ NN x' ∧ Grow x x' v e ∧ ((x.sagas.list.length : Int) ≤ max lim 0 → (x'.sagas.list.length : Int) ≤ max lim 0)
theorem both_of {E : Prog} {x y : StT} {v : EvT} {lim : Int} (w' : Sh) (n' : Int) (y' : StT) (c : CmT) (e : Int)
    (h1 : callP E f_state_Do [stA x, vA v, vi lim] = some (ansA (w'.st n') c e)) (h2 : callP E f_usufructref16_Do [stA y, vA v, vi lim] = some (ansA y' c e))
    (hd : w'.D = y'.defs.list) (hs : w'.S = y'.sagas.list) (hn : n' = y'.next) (ok : GOK w'.D w'.S n') (nn : w'.D = [] → w' = .a)
    (g1 : (e = 0 ∧ v.kind = 1 ∧ n' = x.next + 1) ∨ (¬ (e = 0 ∧ v.kind = 1) ∧ n' = x.next)) (g2 : x.defs.list.length ≤ w'.D.length) (g3 : ∀ d, d ∈ x.defs.list → d ∈ w'.D) (g4 : ∀ s, s ∈ x.sagas.list → s.id ≠ v.saga → s ∈ w'.S) (g5 : ∀ s, s ∈ w'.S → s.id ≠ v.saga → s ∈ x.sagas.list) (g6 : v.kind = 0 → w'.S = x.sagas.list) (g7 : e = 0 → 2 ≤ v.kind → Acted x w'.D w'.S v) (g8 : e = 0 → evGood v = true ∧ (v.kind = 1 → v.saga = x.next))
    (hl : (x.sagas.list.length : Int) ≤ max lim 0 → (w'.S.length : Int) ≤ max lim 0) : Both E x y v lim := by
  refine ⟨w'.st n', y', c, e, h1, h2, ⟨by rw [Sh.st_D, hd], by rw [Sh.st_S, hs], by rw [Sh.st_n, hn]⟩, ?_, fun h => ?_, ⟨by rw [Sh.st_n]; exact g1, by rw [Sh.st_D]; exact g2, by rw [Sh.st_D]; exact g3, by rw [Sh.st_S]; exact g4, by rw [Sh.st_S]; exact g5, by rw [Sh.st_S]; exact g6, by rw [Sh.st_D, Sh.st_S]; exact g7, g8⟩, by rw [Sh.st_S]; exact hl⟩
  · show GOK _ _ _
    rw [Sh.st_D, Sh.st_S, Sh.st_n]; exact ok
  · rw [Sh.st_D] at h; rw [nn h]; rfl
theorem do_both {E : Prog} (hE : Std E fns) (hv : VO E) (hi : IOK E) (hin : IDK E) (hdl : DSK E) (x y : StT) (h : XOK x) (hnn : NN x) (q : Eqv x y) (v : EvT) (hn : v.name.size ≤ 200) (hd : shortD v.df) (lim : Int) : Both E x y v lim := by
  obtain ⟨w, ho, wd, ws, wn⟩ := fn_stOwn hE x h hnn
  have hy := q.ok h
  have stay : ∀ (c : CmT) (e : Int), e ≠ 0 → callP E f_state_Do [stA x, vA v, vi lim] = some (ansA (w.st x.next) c e) → callP E f_usufructref16_Do [stA y, vA v, vi lim] = some (ansA y c e) → Both E x y v lim := fun c e he h1 h2 =>
    both_of w x.next y c e h1 h2 (by rw [wd, q.d]) (by rw [ws, q.s]) q.n (by rw [wd, ws]; exact h) wn (.inr ⟨fun hh => he hh.1, rfl⟩) (by rw [wd]; exact Nat.le_refl _) (by rw [wd]; exact fun d h => h) (by rw [ws]; exact fun s h _ => h) (by rw [ws]; exact fun s h _ => h) (fun _ => ws) (fun h0 => absurd h0 he) (fun h0 => absurd h0 he) (by rw [ws]; exact id)
  cases hg : evGood v with
  | false => exact stay _ _ (by decide) (do_bad hE hv x v hn hd lim w ho hg) (ref_bad hE y v hn hd lim hg)
  | true =>
    obtain ⟨k0, k10, n0, n1, s0⟩ := ev_in hg
    by_cases c0 : v.kind = 0
    · have hdk : DOK v.df := ⟨hd, ev_def hg c0⟩
      by_cases cf : 0 ≤ fidx (isNm v.df.name) x.defs.list 0
      · exact stay _ _ (by decide) (do_define hE hv x v hn hd lim w ho h hg c0 w 6 (define_there hE w x.next v.df (by rw [wd]; exact h.dl) (by rw [wd]; exact cf))) (ref_there hE y hy v hn hd lim hg c0 (by rw [← q.d]; exact cf))
      · by_cases cl : 64 ≤ x.defs.list.length
        · exact stay _ _ (by decide) (do_define hE hv x v hn hd lim w ho h hg c0 w 8 (define_full hE w x.next v.df (by rw [wd]; have := h.dl; omega) (by rw [wd]; exact cf))) (ref_full hE y hy v hn hd lim hg c0 (by rw [← q.d]; exact cf) (by rw [← q.d]; exact cl))
        · have hno : ∀ o, o ∈ x.defs.list → o.name ≠ v.df.name := by
            intro o ho2 he
            rcases fidx_cases (isNm v.df.name) x.defs.list 0 with ⟨_, h2⟩ | ⟨k, z, h1, _, _, _⟩
            · have := h2 o ho2
              rw [decide_eq_false_iff_not] at this
              exact this he
            · omega
          obtain ⟨w', hr, wd', ws'⟩ := define_ok hE hin w x.next v.df (by rw [wd]; omega) (by rw [wd]; exact h.ds) (by rw [wd]; exact hno) hd.2.1
          rw [wd] at wd'
          rw [ws] at ws'
          have gi := gok_ins h hdk (by omega) hno
          have il : x.defs.list.length + 1 = (insD x.defs.list v.df).length := by
            have := lbD_le v.df.name x.defs.list
            simp only [insD, List.length_append, List.length_cons, List.length_take, List.length_drop]; omega
          refine both_of w' x.next _ cm0 0 (do_define hE hv x v hn hd lim w ho h hg c0 w' 0 hr) (ref_define hE y hy v hn hd lim hg c0 (by rw [← q.d]; exact cf) (by rw [← q.d]; omega)) (by rw [wd', q.d]; rfl) (by rw [ws', q.s]) q.n
            (by rw [wd', ws']; exact gi) (fun hh => ?_) (.inr ⟨fun hh => by omega, rfl⟩) (by rw [wd']; omega) (by rw [wd']; exact fun d hd => ins_mem.2 (.inr hd)) (by rw [ws']; exact fun s h _ => h) (by rw [ws']; exact fun s h _ => h) (fun _ => ws') (fun _ h2 => absurd h2 (by omega)) (fun _ => ⟨hg, fun h1 => absurd h1 (by omega)⟩) (by rw [ws']; exact id)
          rw [wd'] at hh
          rw [hh] at il
          simp at il
    · by_cases c1 : v.kind = 1
      · rcases fidx_cases (isNm v.name) x.defs.list 0 with ⟨h1, _⟩ | ⟨j, d, h1, h2, h3, _⟩
        · exact stay _ _ (by decide) (do_start hE hv x v hn hd lim w ho h hg c1 w x.next 7 (start_none hE w x.next v lim (by rw [wd]; exact h.dl) (by rw [wd]; exact h.dk) (by rw [wd]; exact h1))) (ref_none hE y hy v hn hd lim hg c1 (by rw [← q.d, h1]; decide))
        · rw [Nat.zero_add] at h1
          have hdn : d.name = v.name := of_decide_eq_true h3
          have hyf : ¬ fidx (isNm v.name) y.defs.list 0 < 0 := by rw [← q.d, h1]; omega
          by_cases c4 : v.saga = x.next
          · by_cases c5 : lim ≤ (x.sagas.list.length : Int) ∨ (1048576 : Int) ≤ (x.sagas.list.length : Int) ∨ 1125899906842624 ≤ x.next
            · exact stay _ _ (by decide) (do_start hE hv x v hn hd lim w ho h hg c1 w x.next 8 (start_room hE w x.next v lim (by rw [wd]; exact h.dl) (by rw [wd]; exact h.dk) j d (by rw [wd]; exact h1) (by rw [wd]; exact h2) c4 (by rw [ws]; exact c5))) (ref_room hE y hy v hn hd lim hg c1 hyf (by rw [← q.n]; exact c4) (by rw [← q.s, ← q.n]; exact c5))
            · obtain ⟨w', hr, wd', ws'⟩ := start_ok hE w x.next v lim (by rw [wd]; exact h.dl) (by rw [wd]; exact h.dk) n0 n1 j d (by rw [wd]; exact h1) (by rw [wd]; exact h2) hdn c4 h.n0 (by rw [ws]; exact c5)
              rw [wd] at wd'
              rw [ws] at ws'
              have gs := gok_start h (List.mem_of_getElem? h2) v n0 n1 hdn c4 (by omega) (by omega)
              refine both_of w' (x.next + 1) _ cm0 0 (do_start hE hv x v hn hd lim w ho h hg c1 w' (x.next + 1) 0 hr) (ref_start hE y hy v hn hd lim hg c1 hyf (by rw [← q.n]; exact c4) (by rw [← q.s, ← q.n]; exact c5)) (by rw [wd', q.d]) (by rw [ws', q.s]; rfl) (by rw [q.n])
                (by rw [wd', ws']; exact gs) (fun hh => ?_) (.inl ⟨rfl, c1, rfl⟩) (by rw [wd']; exact Nat.le_refl _) (by rw [wd']; exact fun d h => h) (by rw [ws']; exact fun s h _ => List.mem_append.2 (.inl h)) (by rw [ws']; exact fun s h hne => (List.mem_append.1 h).elim id fun h => absurd (by rw [List.mem_singleton.1 h]; rfl) hne) (fun hh => absurd hh c0) (fun _ h2 => absurd h2 (by omega)) (fun _ => ⟨hg, fun _ => c4⟩) (fun _ => by rw [ws']; simp only [List.length_append, List.length_cons, List.length_nil]; omega)
              rw [wd'] at hh
              rw [hh] at h2
              cases h2
          · exact stay _ _ (by decide) (do_start hE hv x v hn hd lim w ho h hg c1 w x.next 1 (start_arg hE w x.next v lim (by rw [wd]; exact h.dl) (by rw [wd]; exact h.dk) j d (by rw [wd]; exact h1) (by rw [wd]; exact h2) c4)) (ref_arg hE y hy v hn hd lim hg c1 hyf (by rw [← q.n]; exact c4))
      · by_cases cf : 0 ≤ fidx (isId v.saga) x.sagas.list 0
        · obtain ⟨k, j, s, d, t, ht⟩ := hit_of h v cf
          have hty : Hit y v k j s d t := ⟨by rw [← q.s]; exact ht.fk, by rw [← q.s]; exact ht.sk, by rw [← q.d]; exact ht.fj, by rw [← q.d]; exact ht.dj, ht.dk, ht.so, ht.iv, by rw [← q.n]; exact ht.i1⟩
          have hwS : w.S.length ≤ 1048576 := by rw [ws]; exact h.sl
          have hdne : ∀ D : List DefT, D = x.defs.list → D ≠ [] := fun D e he => by have := ht.dj; rw [← e, he] at this; cases this
          by_cases c10 : v.kind = 10
          · cases hov : overS s with
            | false => exact stay _ _ (by decide) (do_step hE hv x v hn hd lim w ho h hg c0 c1 w cm0 9 (step_stay hE w x.next v hwS k s (by rw [ws]; exact ht.fk) (by rw [ws]; exact ht.sk) c10 hov)) (ref_stay hE y hy v hn hd lim hg k j s d t hty c10 hov)
            | true =>
              obtain ⟨w', hr, wd', ws'⟩ := step_forget hE w x.next v hwS hdl k s (by rw [ws]; exact ht.fk) (by rw [ws]; exact ht.sk) c10 hov
              rw [wd] at wd'
              rw [ws] at ws'
              have hsub := cut_sub x.sagas.list k
              refine both_of w' x.next _ cm0 0 (do_step hE hv x v hn hd lim w ho h hg c0 c1 w' cm0 0 hr) (ref_forget hE y hy v hn hd lim hg k j s d t hty c10 hov) (by rw [wd', q.d]) (by rw [ws', q.s]; rfl) q.n
                (by rw [wd', ws']; exact gok_sub h hsub) (fun hh => absurd hh (hdne _ wd')) (.inr ⟨fun hh => c1 hh.2, rfl⟩) (by rw [wd']; exact Nat.le_refl _) (by rw [wd']; exact fun d h => h) (fun a ha hne => ?_) (by rw [ws']; exact fun s h _ => hsub.mem h) (fun hh => absurd hh c0) (fun _ _ => ⟨k, j, s, d, t, ht, wd', .inr ⟨c10, ws'⟩⟩) (fun _ => ⟨hg, fun h1 => absurd h1 c1⟩) (fun hle => by rw [ws']; have := hsub.length_le; omega)
              rw [ws', ← List.eraseIdx_eq_take_drop_succ]
              obtain ⟨i, hi2⟩ := List.getElem?_of_mem ha
              refine List.mem_eraseIdx_iff_getElem?.2 ⟨i, fun e => ?_, hi2⟩
              subst e
              rw [ht.sk] at hi2
              cases hi2
              exact hne ht.iv
          · have k2 : 2 ≤ v.kind := by omega
            have k9 : v.kind ≤ 9 := by omega
            obtain ⟨w', hr, wd', ws'⟩ := step_call hE w x.next v hwS hv hi (by rw [wd]; exact h.dl) (by rw [wd]; exact h.dk) k j s d t (by rw [ws]; exact ht.fk) (by rw [ws]; exact ht.sk) k2 k9 (by rw [wd]; exact ht.fj) (by rw [wd]; exact ht.dj) ht.so (by have := ht.i1; have := h.n1; omega) n0 n1
            rw [wd] at wd'
            rw [ws] at ws'
            obtain ⟨⟨t', so'⟩, hid, hst⟩ := sok_call ht.dk ht.so v n0 n1
            have hdo := do_step hE hv x v hn hd lim w ho h hg c0 c1 w' _ _ hr
            have hrf : callP E f_usufructref16_Do [stA y, vA v, vi lim] = some (ansA (if (callS d t s v).2.2 = 0 then ⟨y.defs, .mk (y.sagas.list.set k (callS d t s v).1), y.next⟩ else y) (callS d t s v).2.1 (callS d t s v).2.2) := by
              by_cases c2 : v.kind = 2
              · rw [callS_2 d t s v c2]
                exact ref_emit hE y hy v hn hd lim hg k j s d t hty c2
              · by_cases c3 : v.kind = 3
                · rw [callS_3 d t s v c3]
                  exact ref_reply hE y hy v hn hd lim hg k j s d t hty c3
                · obtain ⟨m, hm⟩ : ∃ m : Nat, v.kind = (m : Int) + 4 := ⟨(v.kind - 4).toNat, by omega⟩
                  rw [callS_n d t s v m hm]
                  exact ref_act hE y hy v hn hd lim hg k j s d t hty m (by omega) hm
            have hact : (callS d t s v).2.2 = 0 → Acted x w'.D w'.S v := fun h0 => ⟨k, j, s, d, t, ht, wd', .inl ⟨k9, ws', h0⟩⟩
            generalize callS d t s v = r at *
            have hset : w'.S = (if r.2.2 = 0 then (⟨y.defs, .mk (y.sagas.list.set k r.1), y.next⟩ : StT) else y).sagas.list := by
              rw [ws']
              split
              · rw [q.s]; rfl
              · rename_i ce
                rw [hst ce, set_same ht.sk, q.s]
            refine both_of w' x.next _ r.2.1 r.2.2 hdo hrf (by rw [wd', q.d]; split <;> rfl) hset (by rw [q.n]; split <;> rfl)
              (by rw [wd', ws']; exact gok_set h ht.sk hid (List.mem_of_getElem? ht.dj) so') (fun hh => absurd hh (hdne _ wd')) (.inr ⟨fun hh => c1 hh.2, rfl⟩) (by rw [wd']; exact Nat.le_refl _) (by rw [wd']; exact fun d h => h) (fun a ha hne => ?_) (by rw [ws']; exact fun u h hne => (List.mem_or_eq_of_mem_set h).elim id fun h => absurd (by rw [h, hid]; exact ht.iv) hne) (fun hh => absurd hh c0) (fun h0 _ => hact h0) (fun _ => ⟨hg, fun h1 => absurd h1 c1⟩) (fun hle => by rw [ws', List.length_set]; exact hle)
            rw [ws']
            obtain ⟨i, hi2⟩ := List.getElem?_of_mem ha
            have hik : k ≠ i := fun e => by
              subst e
              rw [ht.sk] at hi2
              cases hi2
              exact hne ht.iv
            exact List.mem_of_getElem? (i := i) (by rw [List.getElem?_set_ne hik]; exact hi2)
        · have hy0 : ¬ 0 ≤ fidx (isId v.saga) y.sagas.list 0 := by rw [← q.s]; exact cf
          have hw0 : fidx (isId v.saga) w.S 0 = -1 := fidx_neg _ _ _ (by rw [ws]; exact cf)
          exact stay _ _ (by decide) (do_step hE hv x v hn hd lim w ho h hg c0 c1 w cm0 7 (step_gone hE w x.next v (by rw [ws]; exact h.sl) hw0)) (ref_gone hE y hy v hn hd lim hg c0 c1 hy0)
theorem ro_ev : Ro EvT.cells := fun v => by
  have := ids_avR (k := 12) (s := v.df.steps) ro_step
  simp only [EvT.cells, idss, AV.ids, this, List.append_nil]
abbrev lv (l : Sl EvT) : AV := l.av 12 EvT.cells
def shortS (v : EvT) : Int := if 200 < v.name.size then 1 else smallS v.df
theorem fn_short {E : Prog} (hE : Std E fns) (v : EvT) : callP E f_usufructlaw16_Short [vA v] = some (vi (shortS v)) := by
  have h1 := fn_small hE v.df
  unfold shortS
  obtain ⟨kd, nw, sg, nm, ⟨r1, r2, r3, r4, r5⟩, df⟩ := v
  dsimp only at *
  simp only [DefT.cells] at h1
  rw [hE.run rfl rfl]
  by_cases c : 200 < nm.size
  · have c' : (200 : Int) < (nm.size : Int) := by omega
    rw [if_pos c]
    simp -implicitDefEqProofs only [go_sem, ir_usufructlaw16_Short, c', ro_step]
  · have c' : ¬ (200 : Int) < (nm.size : Int) := by omega
    rw [if_neg c]
    simp -implicitDefEqProofs only [go_sem, ir_usufructlaw16_Short, c', h1, ro_step]
theorem short_ev {v : EvT} (h : shortS v = 0) : v.name.size ≤ 200 ∧ shortD v.df := by
  unfold shortS at h
  split at h
  · cases h
  · exact ⟨by omega, short_of h⟩
structure LOK (E : Prog) : Prop where
  hE : Std E fns
  hv : VO E
  hi : IOK E
  hin : IDK E
  hdl : DSK E
theorem gok0 : GOK [] [] 0 := ⟨by simp, by simp, .nil, .nil, by simp, by simp, by omega, by omega⟩
end Go.Proofs.YtoobogpbejdocaaGreatDoor.Ev
