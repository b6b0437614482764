import Derived.Test.YtoobogpbejdocaaGreatDoorEvSa
import Derived.Test.YtoobogpbejdocaaGreatDoorEvSg9
set_option linter.unusedVariables false
set_option linter.unusedSectionVars false
set_option linter.unusedSimpArgs false
namespace Go.Proofs.YtoobogpbejdocaaGreatDoor.Ev
attribute [local congr] bind_congr_head
attribute [local go_sem] AV.cells AV.tuple callN_any compact_same compact_new aggOf
theorem elems_sl (st : Store) (k : Nat) (xs : List (List AV)) : elems st (.sl k xs) = some xs := rfl
theorem avM {α : Type} (k : Nat) (f : α → List AV) (xs : List α) : (Sl.mk xs).av k f = .sl k (xs.map f) := rfl
theorem all_def (xs : List DefT) : ((xs.map DefT.cells).all fun c => c.length == 3) = true := by
  simp only [List.all_map, List.all_eq_true]
  intro x _
  rfl
theorem all_sg (xs : List SgT) : ((xs.map SgT.cells).all fun c => c.length == 9) = true := by
  simp only [List.all_map, List.all_eq_true]
  intro x _
  rfl
theorem tk1 {α : Type} (f : α → List AV) (T : List α) (c : List AV) : (T.map f ++ [c]).take (T.length + 1) = T.map f ++ [c] := List.take_of_length_le (by simp)
theorem tk2 {α : Type} (f : α → List AV) (T D : List α) (c : List AV) : (T.map f ++ c :: D.map f).take (T.length + (D.length + 1)) = T.map f ++ c :: D.map f := List.take_of_length_le (by simp)
theorem tk3 {α : Type} (f : α → List AV) (T D : List α) : (T.map f ++ D.map f).take (T.length + D.length) = T.map f ++ D.map f := List.take_of_length_le (by simp)
theorem ias_own (st : Store) (k : Nat) (j : Int) (id gen off ln : Nat) : iasF st k j (.own id gen off ln) = if 0 ≤ j then (match st[id]? with
      | some (.row k' g xs _) => if k' = k ∧ g = gen ∧ j.toNat < ln then some (.ref id gen (off + j.toNat) 0) else none
      | _ => none) else none := rfl
def lbD (k : ByteArray) : List DefT → Nat
  | [] => 0
  | d :: r => if kyB d.name < kyB k then lbD k r + 1 else 0
theorem lbD_le (k : ByteArray) : ∀ D, lbD k D ≤ D.length
  | [] => Nat.le_refl _
  | d :: r => by unfold lbD; split; exact Nat.succ_le_succ (lbD_le k r); exact Nat.zero_le _
def insD (D : List DefT) (d : DefT) : List DefT := D.take (lbD d.name D) ++ d :: D.drop (lbD d.name D)
def begS (v : EvT) : SgT := ⟨v.saga, v.name, v.now, 0, 0, 0, false, v.now, 0⟩
def callS (d : DefT) (t : StepT) (s : SgT) (v : EvT) : SgT × CmT × Int :=
  if v.kind = 2 then emS d t s v.now else if v.kind = 3 then ((replyS d t s v.rep v.now).1, cm0, (replyS d t s v.rep v.now).2)
  else ((actS d t s v.now (v.kind - 4).toNat).1, cm0, (actS d t s v.now (v.kind - 4).toNat).2)
theorem fn_with {E : Prog} (hE : Std E fns) (S : Sl SgT) (k : Nat) (hk : k < S.list.length) (hl : S.list.length ≤ 1048576) (s : SgT) :
    callP E f_usufructref16_with [S.av 9 SgT.cells, vi k, sA s] = some ((Sl.mk (S.list.set k s)).av 9 SgT.cells) := by
  have a1 : S.list.length * 80 ≤ 140737488355328 := by omega
  have c1 : (k : Int) < (S.list.length : Int) := by omega
  have e1 : (S.list.map SgT.cells)[k]? = some (S.list[k].cells) := by rw [List.getElem?_map, List.getElem?_eq_getElem hk]; rfl
  have e2 : (S.list.map SgT.cells).set k [vi s.id, vs s.df, vi s.start, vi s.phase, vi s.step, vi s.tries, vb s.out, vi s.due, vi s.skips] = (S.list.set k s).map SgT.cells := by
    rw [List.map_set]; rfl
  have e3 : ((S.list.set k s).map SgT.cells).take S.list.length = (S.list.set k s).map SgT.cells := List.take_of_length_le (by simp)
  rw [hE.run rfl rfl]
  simp -implicitDefEqProofs only [go_sem, ir_usufructref16_with, e3, ro_sg, a1, hk, c1, ias_own, List.getElem_map, all_sg, elems_av, e1, e2, avM, Int.natCast_nonneg, boxQ_av, boxQ_ref, SgT.cells, List.length_set]
abbrev vC (v : EvT) : List AV := [vi v.kind, vi v.now, vi v.saga, vs v.name, vi v.rep.saga, vi v.rep.step, vb v.rep.undo, vi v.rep.try_, vb v.rep.good, vs v.df.name, vi v.df.deadline, v.df.steps.av 12 StepT.cells]
abbrev xC (x : StT) : List AV := [x.defs.av 3 DefT.cells, x.sagas.av 9 SgT.cells, vi x.next]
abbrev stDo (x : StT) (v : EvT) : Store := [.box (xC x), .box (vC v), .box [.v (.slice none 0 0), .v (.slice none 0 0), .v (.int .i64 0)],
  .box [.v (.int .i64 0), .v (.int .i64 0), .v (.bool false), .v (.int .i64 0), .v (.string ⟨#[]⟩), .v (.string ⟨#[]⟩)], .box [.v (.int .i64 0), .v (.int .i64 0), .v (.bool false), .v (.int .i64 0), .v (.string ⟨#[]⟩), .v (.string ⟨#[]⟩)]]
theorem doK_loop {E : Prog} (hE : Std E fns) (x : StT) (v : EvT) (hl : x.defs.list.length ≤ 64) {L : Env × Store → Option (Sig × Env × Store)}
    (hL : ∀ e st, L (e, st) = (IR.runL E.glob (callL E) [] ir_usufructref16_Do_L0 e st).bind (seqK fun e st => L (compact [] 5 [3, 4, 6, 7, 9, 10] e st))) :
    ∀ (rest : List DefT) (i : Nat), x.defs.list.drop i = rest → i ≤ x.defs.list.length →
    L ([(3, .ref 0 0 0 0), (4, .ref 1 0 0 0), (6, .ref 2 0 0 0), (7, .ref 3 0 0 0), (9, .ref 4 0 0 0), (10, vi i)], stDo x v) =
      some (.exit 0, [(3, .ref 0 0 0 0), (4, .ref 1 0 0 0), (6, .ref 2 0 0 0), (7, .ref 3 0 0 0), (9, .ref 4 0 0 0), (10, vi ((i + lbD v.df.name rest : Nat) : Int))], stDo x v)
  | [], i, h0, hi => by
    have h1 := drop_nil' h0 hi
    rw [hL]
    simp -implicitDefEqProofs only [go_sem, ir_usufructref16_Do_L0, h1, lbD]
  | d :: rest, i, h0, hi => by
    obtain ⟨h1, h2, h3, h4, h5⟩ := drop_cons h0
    have h6 := wrap_succ (i := i) (by omega)
    have ih := doK_loop hE x v hl hL rest (i + 1) h2 h4
    rw [hL]
    unfold lbD
    by_cases c : kyB d.name < kyB v.df.name
    · have hb : Op.bytesLess d.name.toList v.df.name.toList = true := by rw [bLess]; exact decide_eq_true c
      have e : i + (lbD v.df.name rest + 1) = i + 1 + lbD v.df.name rest := by omega
      simp -implicitDefEqProofs only [go_sem, ir_usufructref16_Do_L0, h1, h3, DefT.cells, h6, hb, c, e, ih, ro_def, Int.natCast_nonneg]
    · have hb : Op.bytesLess d.name.toList v.df.name.toList = false := by rw [bLess]; exact decide_eq_false c
      simp -implicitDefEqProofs only [go_sem, ir_usufructref16_Do_L0, h1, h3, DefT.cells, hb, c, ro_def, Int.natCast_nonneg]
def ansA (x : StT) (c : CmT) (e : Int) : AV := .tup [stA x, cA c, vi e]
theorem ref_bad {E : Prog} (hE : Std E fns) (x : StT) (v : EvT) (hn : v.name.size ≤ 200) (hd : shortD v.df) (lim : Int) (hg : evGood v = false) : callP E f_usufructref16_Do [stA x, vA v, vi lim] = some (ansA x cm0 3) := by
  have h1 := fn_evgoodRef hE v hn hd
  rw [hg] at h1
  rw [hE.run rfl rfl]
  simp -implicitDefEqProofs only [go_sem, ir_usufructref16_Do, h1, ro_def, ro_sg, ro_step, boxQ_av, boxQ_ref, boxQ_rop, exA_av, exA_rop]
  rfl
theorem ref_there {E : Prog} (hE : Std E fns) (x : StT) (h : XOK x) (v : EvT) (hn : v.name.size ≤ 200) (hd : shortD v.df) (lim : Int) (hg : evGood v = true) (hk : v.kind = 0) (h0 : 0 ≤ fidx (isNm v.df.name) x.defs.list 0) :
    callP E f_usufructref16_Do [stA x, vA v, vi lim] = some (ansA x cm0 6) := by
  have h1 := fn_evgoodRef hE v hn hd
  have h2 := fn_refStGood hE x h
  have h3 := fn_refDef hE x v.df.name h.dl
  obtain ⟨kd, nw, sg, nm, ⟨r1, r2, r3, r4, r5⟩, df⟩ := v
  dsimp only at *
  subst hk
  rw [hg] at h1
  rw [hE.run rfl rfl]
  simp -implicitDefEqProofs only [go_sem, ir_usufructref16_Do, h1, h2, h3, h0, ro_def, ro_sg, ro_step, boxQ_av, boxQ_ref, boxQ_rop, exA_av, exA_rop]
  rfl
theorem ref_full {E : Prog} (hE : Std E fns) (x : StT) (h : XOK x) (v : EvT) (hn : v.name.size ≤ 200) (hd : shortD v.df) (lim : Int) (hg : evGood v = true) (hk : v.kind = 0) (h0 : ¬ 0 ≤ fidx (isNm v.df.name) x.defs.list 0) (h8 : 64 ≤ x.defs.list.length) :
    callP E f_usufructref16_Do [stA x, vA v, vi lim] = some (ansA x cm0 8) := by
  have h1 := fn_evgoodRef hE v hn hd
  have h2 := fn_refStGood hE x h
  have h3 := fn_refDef hE x v.df.name h.dl
  obtain ⟨kd, nw, sg, nm, ⟨r1, r2, r3, r4, r5⟩, df⟩ := v
  dsimp only at *
  subst hk
  have c8 : (64 : Int) ≤ (x.defs.list.length : Int) := by omega
  rw [hg] at h1
  rw [hE.run rfl rfl]
  simp -implicitDefEqProofs only [go_sem, ir_usufructref16_Do, h1, h2, h3, h0, c8, ro_def, ro_sg, ro_step, boxQ_av, boxQ_ref, boxQ_rop, exA_av, exA_rop]
  rfl
theorem ref_define {E : Prog} (hE : Std E fns) (x : StT) (h : XOK x) (v : EvT) (hn : v.name.size ≤ 200) (hd : shortD v.df) (lim : Int) (hg : evGood v = true) (hk : v.kind = 0) (h0 : ¬ 0 ≤ fidx (isNm v.df.name) x.defs.list 0) (h8 : x.defs.list.length < 64) :
    callP E f_usufructref16_Do [stA x, vA v, vi lim] = some (ansA ⟨.mk (insD x.defs.list v.df), x.sagas, x.next⟩ cm0 0) := by
  have h1 := fn_evgoodRef hE v hn hd
  have h2 := fn_refStGood hE x h
  have h3 := fn_refDef hE x v.df.name h.dl
  have hl := doK_loop hE x v h.dl (loopL_eq (IR.runL E.glob (callL E) [] ir_usufructref16_Do_L0) (compact [] 5 [3, 4, 6, 7, 9, 10])) x.defs.list 0 rfl (by omega)
  have hle := lbD_le v.df.name x.defs.list
  have e1 : (x.defs.sub 0 (lbD v.df.name x.defs.list)).list = x.defs.list.take (lbD v.df.name x.defs.list) := by rw [sub_list]; simp
  have e2 : (x.defs.sub (lbD v.df.name x.defs.list) x.defs.list.length).list = x.defs.list.drop (lbD v.df.name x.defs.list) := by rw [sub_list, List.take_of_length_le (by simp)]
  have c1 : ((lbD v.df.name x.defs.list : Nat) : Int) ≤ (x.defs.list.length : Int) := by omega
  have c8 : ¬ (64 : Int) ≤ (x.defs.list.length : Int) := by omega
  have hT : (x.defs.list.take (lbD v.df.name x.defs.list)).length ≤ 64 := by rw [List.length_take]; omega
  have hD : (x.defs.list.drop (lbD v.df.name x.defs.list)).length ≤ 64 := by rw [List.length_drop]; omega
  simp only [Int.natCast_zero, Nat.zero_add] at hl
  unfold insD
  generalize x.defs.list.take (lbD v.df.name x.defs.list) = T at *
  generalize x.defs.list.drop (lbD v.df.name x.defs.list) = D at *
  have a1 : T.length * 48 ≤ 140737488355328 := by omega
  have a2 : (T.length + 1) * 48 ≤ 140737488355328 := by omega
  have a3 : (T.length + 1 + D.length) * 48 ≤ 140737488355328 := by omega
  have a4 : (T.length + (D.length + 1)) * 48 ≤ 140737488355328 := by omega
  have b3 : ∀ X : List (List AV), X = T.map DefT.cells ++ [v.df.cells] ++ D.map DefT.cells → X = (T ++ v.df :: D).map DefT.cells := fun X h => by rw [h]; simp
  have b4 : T.map DefT.cells ++ [[vs v.df.name, vi v.df.deadline, v.df.steps.av 12 StepT.cells]] ++ D.map DefT.cells = (T ++ v.df :: D).map DefT.cells := b3 _ rfl
  have b5 : T.length + 1 + D.length = (T ++ v.df :: D).length := by simp; omega
  obtain ⟨kd, nw, sg, nm, ⟨r1, r2, r3, r4, r5⟩, df⟩ := v
  dsimp only at *
  subst hk
  rw [hg] at h1
  rw [hE.run rfl rfl]
  simp -implicitDefEqProofs only [go_sem, ir_usufructref16_Do, h1, h2, h3, h0, c8, hl, e1, e2, c1, a1, a2, a3, all_def, elems_av, elems_sl, tk1, Int.le_refl, b4, b5, avM, a4, belowss, tk2, def_ids, def_rens, def_snaps, def_belows, ro_def, ro_sg, ro_step, boxQ_av, boxQ_ref, boxQ_rop, exA_av, exA_rop]
  have e6 : T.map DefT.cells ++ df.cells :: D.map DefT.cells = (T ++ df :: D).map DefT.cells := by simp
  rw [e6]
  rfl
theorem ref_none {E : Prog} (hE : Std E fns) (x : StT) (h : XOK x) (v : EvT) (hn : v.name.size ≤ 200) (hd : shortD v.df) (lim : Int) (hg : evGood v = true) (hk : v.kind = 1) (h0 : fidx (isNm v.name) x.defs.list 0 < 0) :
    callP E f_usufructref16_Do [stA x, vA v, vi lim] = some (ansA x cm0 7) := by
  have h1 := fn_evgoodRef hE v hn hd
  have h2 := fn_refStGood hE x h
  have h3 := fn_refDef hE x v.name h.dl
  obtain ⟨kd, nw, sg, nm, ⟨r1, r2, r3, r4, r5⟩, df⟩ := v
  dsimp only at *
  subst hk
  rw [hg] at h1
  rw [hE.run rfl rfl]
  simp -implicitDefEqProofs only [go_sem, ir_usufructref16_Do, h1, h2, h3, h0, ro_def, ro_sg, ro_step, boxQ_av, boxQ_ref, boxQ_rop, exA_av, exA_rop]
  rfl
theorem ref_arg {E : Prog} (hE : Std E fns) (x : StT) (h : XOK x) (v : EvT) (hn : v.name.size ≤ 200) (hd : shortD v.df) (lim : Int) (hg : evGood v = true) (hk : v.kind = 1) (h0 : ¬ fidx (isNm v.name) x.defs.list 0 < 0) (h4 : ¬ v.saga = x.next) :
    callP E f_usufructref16_Do [stA x, vA v, vi lim] = some (ansA x cm0 1) := by
  have h1 := fn_evgoodRef hE v hn hd
  have h2 := fn_refStGood hE x h
  have h3 := fn_refDef hE x v.name h.dl
  obtain ⟨kd, nw, sg, nm, ⟨r1, r2, r3, r4, r5⟩, df⟩ := v
  dsimp only at *
  subst hk
  rw [hg] at h1
  rw [hE.run rfl rfl]
  simp -implicitDefEqProofs only [go_sem, ir_usufructref16_Do, h1, h2, h3, h0, h4, ro_def, ro_sg, ro_step, boxQ_av, boxQ_ref, boxQ_rop, exA_av, exA_rop]
  rfl
theorem ref_room {E : Prog} (hE : Std E fns) (x : StT) (h : XOK x) (v : EvT) (hn : v.name.size ≤ 200) (hd : shortD v.df) (lim : Int) (hg : evGood v = true) (hk : v.kind = 1) (h0 : ¬ fidx (isNm v.name) x.defs.list 0 < 0) (h4 : v.saga = x.next) (h5 : lim ≤ (x.sagas.list.length : Int) ∨ (1048576 : Int) ≤ (x.sagas.list.length : Int) ∨ 1125899906842624 ≤ x.next) :
    callP E f_usufructref16_Do [stA x, vA v, vi lim] = some (ansA x cm0 8) := by
  have h1 := fn_evgoodRef hE v hn hd
  have h2 := fn_refStGood hE x h
  have h3 := fn_refDef hE x v.name h.dl
  obtain ⟨kd, nw, sg, nm, ⟨r1, r2, r3, r4, r5⟩, df⟩ := v
  dsimp only at *
  subst hk
  subst h4
  rw [hg] at h1
  rw [hE.run rfl rfl]
  simp -implicitDefEqProofs only [go_sem, ir_usufructref16_Do, h1, h2, h3, h0, gor_b, Bool.or_eq_true, or_assoc, h5, ro_def, ro_sg, ro_step, boxQ_av, boxQ_ref, boxQ_rop, exA_av, exA_rop]
  rfl
theorem ref_start {E : Prog} (hE : Std E fns) (x : StT) (h : XOK x) (v : EvT) (hn : v.name.size ≤ 200) (hd : shortD v.df) (lim : Int) (hg : evGood v = true) (hk : v.kind = 1) (h0 : ¬ fidx (isNm v.name) x.defs.list 0 < 0) (h4 : v.saga = x.next) (h5 : ¬ (lim ≤ (x.sagas.list.length : Int) ∨ (1048576 : Int) ≤ (x.sagas.list.length : Int) ∨ 1125899906842624 ≤ x.next)) :
    callP E f_usufructref16_Do [stA x, vA v, vi lim] = some (ansA ⟨x.defs, .mk (x.sagas.list ++ [begS v]), x.next + 1⟩ cm0 0) := by
  have h1 := fn_evgoodRef hE v hn hd
  have h2 := fn_refStGood hE x h
  have h3 := fn_refDef hE x v.name h.dl
  obtain ⟨kd, nw, sg, nm, ⟨r1, r2, r3, r4, r5⟩, df⟩ := v
  dsimp only at *
  subst hk
  subst h4
  have hw : IntKind.i64.wrap (x.next + 1) = x.next + 1 := IntWalk.i64_in _ (by have := h.n0; omega)
  have a1 : x.sagas.list.length * 80 ≤ 140737488355328 := by have := h.sl; omega
  have a2 : (x.sagas.list.length + 1) * 80 ≤ 140737488355328 := by have := h.sl; omega
  have b4 : x.sagas.list.map SgT.cells ++ [[vi x.next, vs nm, vi nw, .v (.int .i64 0), .v (.int .i64 0), .v (.int .i64 0), .v (.bool false), vi nw, .v (.int .i64 0)]] = (x.sagas.list ++ [begS ⟨1, nw, x.next, nm, ⟨r1, r2, r3, r4, r5⟩, df⟩]).map SgT.cells := by simp [begS, SgT.cells]
  have b5 : x.sagas.list.length + 1 = (x.sagas.list ++ [begS ⟨1, nw, x.next, nm, ⟨r1, r2, r3, r4, r5⟩, df⟩]).length := by simp
  rw [hg] at h1
  rw [hE.run rfl rfl]
  simp -implicitDefEqProofs only [go_sem, ir_usufructref16_Do, h1, h2, h3, h0, gor_b, Bool.or_eq_true, or_assoc, h5, hw, a1, a2, all_sg, elems_av, elems_sl, tk1, Int.le_refl, b4, avM, belowss, sg_ids, sg_rens, sg_snaps, sg_belows, ro_def, ro_sg, ro_step, boxQ_av, boxQ_ref, boxQ_rop, exA_av, exA_rop]
  have e6 : x.sagas.list.map SgT.cells ++ [(begS ⟨1, nw, x.next, nm, ⟨r1, r2, r3, r4, r5⟩, df⟩).cells] = (x.sagas.list ++ [begS ⟨1, nw, x.next, nm, ⟨r1, r2, r3, r4, r5⟩, df⟩]).map SgT.cells := by simp
  first
  | rfl
  | (rw [ansA, stA, avM, ← e6]; rfl)
theorem callS_2 (d : DefT) (t : StepT) (s : SgT) (v : EvT) (h : v.kind = 2) : callS d t s v = emS d t s v.now := by unfold callS; rw [if_pos h]
theorem callS_3 (d : DefT) (t : StepT) (s : SgT) (v : EvT) (h : v.kind = 3) : callS d t s v = ((replyS d t s v.rep v.now).1, cm0, (replyS d t s v.rep v.now).2) := by unfold callS; rw [if_neg (by omega), if_pos h]
theorem callS_n (d : DefT) (t : StepT) (s : SgT) (v : EvT) (m : Nat) (h : v.kind = (m : Int) + 4) : callS d t s v = ((actS d t s v.now m).1, cm0, (actS d t s v.now m).2) := by
  unfold callS
  rw [if_neg (by omega), if_neg (by omega), show (v.kind - 4).toNat = m by omega]
theorem cm0_c : cA cm0 = .agg [.v (.int .i64 0), .v (.int .i64 0), .v (.bool false), .v (.int .i64 0), .v (.string ⟨#[]⟩), .v (.string ⟨#[]⟩)] := rfl
section
variable {E : Prog} (hE : Std E fns) (hv : VO E) (hi : IOK E) (d : DefT) (hd : DOK d) (s : SgT) (t : StepT) (h : SOK d s t) (hid : s.id ≤ 9223372036854775807) (v : EvT) (n0 : 0 ≤ v.now) (n1 : v.now ≤ 1099511627776)
include hE hv hi hd h hid n0 n1
theorem call_2 (hk : v.kind = 2) : callP E f_state_call [dA d, sA s, vA v] = some (.tup [sA (callS d t s v).1, cA (callS d t s v).2.1, vi (callS d t s v).2.2]) := by
  have hr := fn_emit hE hv hi d hd s t h hid v.now n0 n1
  rw [callS_2 d t s v hk]
  clear h
  generalize emS d t s v.now = r at *
  obtain ⟨⟨i', df', b', ph', sp', tr', o', du', sk'⟩, ⟨q1, q2, q3, q4, q5, q6⟩, e'⟩ := r
  obtain ⟨kd, nw, sg, nm, ⟨r1, r2, r3, r4, r5⟩, df⟩ := v
  dsimp only at *
  subst hk
  rw [hE.run rfl rfl]
  simp -implicitDefEqProofs only [go_sem, ir_state_call, hr, ro_step, boxQ_av, boxQ_ref, boxQ_rop, exA_av, exA_rop, tf_b, ft_b]
theorem call_3 (hk : v.kind = 3) : callP E f_state_call [dA d, sA s, vA v] = some (.tup [sA (callS d t s v).1, cA (callS d t s v).2.1, vi (callS d t s v).2.2]) := by
  have hr := fn_sreply hE hv d hd s t h v.rep v.now n0 n1
  rw [callS_3 d t s v hk, cm0_c]
  clear h
  generalize replyS d t s v.rep v.now = r at *
  obtain ⟨⟨i', df', b', ph', sp', tr', o', du', sk'⟩, e'⟩ := r
  obtain ⟨kd, nw, sg, nm, ⟨r1, r2, r3, r4, r5⟩, df⟩ := v
  dsimp only at *
  subst hk
  rw [hE.run rfl rfl]
  simp -implicitDefEqProofs only [go_sem, ir_state_call, hr, ro_step, boxQ_av, boxQ_ref, boxQ_rop, exA_av, exA_rop, tf_b, ft_b]
theorem call_4 (hk : v.kind = 4) : callP E f_state_call [dA d, sA s, vA v] = some (.tup [sA (callS d t s v).1, cA (callS d t s v).2.1, vi (callS d t s v).2.2]) := by
  have hr := fn_late hE hv d hd s t h v.now n0 n1
  rw [callS_n d t s v 0 (by rw [hk]; rfl), cm0_c]
  clear h
  generalize actS d t s v.now 0 = r at *
  obtain ⟨⟨i', df', b', ph', sp', tr', o', du', sk'⟩, e'⟩ := r
  obtain ⟨kd, nw, sg, nm, ⟨r1, r2, r3, r4, r5⟩, df⟩ := v
  dsimp only at *
  subst hk
  rw [hE.run rfl rfl]
  simp -implicitDefEqProofs only [go_sem, ir_state_call, hr, ro_step, boxQ_av, boxQ_ref, boxQ_rop, exA_av, exA_rop, tf_b, ft_b]
theorem call_5 (hk : v.kind = 5) : callP E f_state_call [dA d, sA s, vA v] = some (.tup [sA (callS d t s v).1, cA (callS d t s v).2.1, vi (callS d t s v).2.2]) := by
  have hr := fn_expire hE hv d hd s t h v.now n0 n1
  rw [callS_n d t s v 1 (by rw [hk]; rfl), cm0_c]
  clear h
  generalize actS d t s v.now 1 = r at *
  obtain ⟨⟨i', df', b', ph', sp', tr', o', du', sk'⟩, e'⟩ := r
  obtain ⟨kd, nw, sg, nm, ⟨r1, r2, r3, r4, r5⟩, df⟩ := v
  dsimp only at *
  subst hk
  rw [hE.run rfl rfl]
  simp -implicitDefEqProofs only [go_sem, ir_state_call, hr, ro_step, boxQ_av, boxQ_ref, boxQ_rop, exA_av, exA_rop, tf_b, ft_b]
theorem call_6 (hk : v.kind = 6) : callP E f_state_call [dA d, sA s, vA v] = some (.tup [sA (callS d t s v).1, cA (callS d t s v).2.1, vi (callS d t s v).2.2]) := by
  have hr := fn_cancel hE hv d hd s t h v.now n0 n1
  rw [callS_n d t s v 2 (by rw [hk]; rfl), cm0_c]
  clear h
  generalize actS d t s v.now 2 = r at *
  obtain ⟨⟨i', df', b', ph', sp', tr', o', du', sk'⟩, e'⟩ := r
  obtain ⟨kd, nw, sg, nm, ⟨r1, r2, r3, r4, r5⟩, df⟩ := v
  dsimp only at *
  subst hk
  rw [hE.run rfl rfl]
  simp -implicitDefEqProofs only [go_sem, ir_state_call, hr, ro_step, boxQ_av, boxQ_ref, boxQ_rop, exA_av, exA_rop, tf_b, ft_b]
theorem call_7 (hk : v.kind = 7) : callP E f_state_call [dA d, sA s, vA v] = some (.tup [sA (callS d t s v).1, cA (callS d t s v).2.1, vi (callS d t s v).2.2]) := by
  have hr := fn_retry hE hv d hd s t h v.now n0 n1
  rw [callS_n d t s v 3 (by rw [hk]; rfl), cm0_c]
  clear h
  generalize actS d t s v.now 3 = r at *
  obtain ⟨⟨i', df', b', ph', sp', tr', o', du', sk'⟩, e'⟩ := r
  obtain ⟨kd, nw, sg, nm, ⟨r1, r2, r3, r4, r5⟩, df⟩ := v
  dsimp only at *
  subst hk
  rw [hE.run rfl rfl]
  simp -implicitDefEqProofs only [go_sem, ir_state_call, hr, ro_step, boxQ_av, boxQ_ref, boxQ_rop, exA_av, exA_rop, tf_b, ft_b]
theorem call_8 (hk : v.kind = 8) : callP E f_state_call [dA d, sA s, vA v] = some (.tup [sA (callS d t s v).1, cA (callS d t s v).2.1, vi (callS d t s v).2.2]) := by
  have hr := fn_skip hE hv d hd s t h v.now n0 n1
  rw [callS_n d t s v 4 (by rw [hk]; rfl), cm0_c]
  clear h
  generalize actS d t s v.now 4 = r at *
  obtain ⟨⟨i', df', b', ph', sp', tr', o', du', sk'⟩, e'⟩ := r
  obtain ⟨kd, nw, sg, nm, ⟨r1, r2, r3, r4, r5⟩, df⟩ := v
  dsimp only at *
  subst hk
  rw [hE.run rfl rfl]
  simp -implicitDefEqProofs only [go_sem, ir_state_call, hr, ro_step, boxQ_av, boxQ_ref, boxQ_rop, exA_av, exA_rop, tf_b, ft_b]
theorem call_9 (hk : v.kind = 9) : callP E f_state_call [dA d, sA s, vA v] = some (.tup [sA (callS d t s v).1, cA (callS d t s v).2.1, vi (callS d t s v).2.2]) := by
  have hr := fn_abandon hE hv d hd s t h v.now n0 n1
  rw [callS_n d t s v 5 (by rw [hk]; rfl), cm0_c]
  clear h
  generalize actS d t s v.now 5 = r at *
  obtain ⟨⟨i', df', b', ph', sp', tr', o', du', sk'⟩, e'⟩ := r
  obtain ⟨kd, nw, sg, nm, ⟨r1, r2, r3, r4, r5⟩, df⟩ := v
  dsimp only at *
  subst hk
  rw [hE.run rfl rfl]
  simp -implicitDefEqProofs only [go_sem, ir_state_call, hr, ro_step, boxQ_av, boxQ_ref, boxQ_rop, exA_av, exA_rop, tf_b, ft_b]
theorem fn_call (k0 : 2 ≤ v.kind) (k1 : v.kind ≤ 9) : callP E f_state_call [dA d, sA s, vA v] = some (.tup [sA (callS d t s v).1, cA (callS d t s v).2.1, vi (callS d t s v).2.2]) := by
  have hk : v.kind = 2 ∨ v.kind = 3 ∨ v.kind = 4 ∨ v.kind = 5 ∨ v.kind = 6 ∨ v.kind = 7 ∨ v.kind = 8 ∨ v.kind = 9 := by omega
  rcases hk with hk | hk | hk | hk | hk | hk | hk | hk
  · exact call_2 hE hv hi d hd s t h hid v n0 n1 hk
  · exact call_3 hE hv hi d hd s t h hid v n0 n1 hk
  · exact call_4 hE hv hi d hd s t h hid v n0 n1 hk
  · exact call_5 hE hv hi d hd s t h hid v n0 n1 hk
  · exact call_6 hE hv hi d hd s t h hid v n0 n1 hk
  · exact call_7 hE hv hi d hd s t h hid v n0 n1 hk
  · exact call_8 hE hv hi d hd s t h hid v n0 n1 hk
  · exact call_9 hE hv hi d hd s t h hid v n0 n1 hk
end
structure Hit (x : StT) (v : EvT) (k j : Nat) (s : SgT) (d : DefT) (t : StepT) : Prop where
  fk : fidx (isId v.saga) x.sagas.list 0 = (k : Int)
  sk : x.sagas.list[k]? = some s
  fj : fidx (isNm s.df) x.defs.list 0 = (j : Int)
  dj : x.defs.list[j]? = some d
  dk : DOK d
  so : SOK d s t
  iv : s.id = v.saga
  i1 : s.id < x.next
theorem Hit.lt {x : StT} {v : EvT} {k j : Nat} {s : SgT} {d : DefT} {t : StepT} (h : Hit x v k j s d t) : k < x.sagas.list.length := (List.getElem?_eq_some_iff.1 h.sk).1
theorem hit_of {x : StT} (h : XOK x) (v : EvT) (hf : 0 ≤ fidx (isId v.saga) x.sagas.list 0) : ∃ (k j : Nat) (s : SgT) (d : DefT) (t : StepT), Hit x v k j s d t := by
  rcases fidx_cases (isId v.saga) x.sagas.list 0 with ⟨h1, _⟩ | ⟨k, s, h1, h2, h3, _⟩
  · omega
  · rw [Nat.zero_add] at h1
    obtain ⟨h4, d, t, h5, h6⟩ := h.sk s (List.mem_of_getElem? h2)
    obtain ⟨j, h7, h8⟩ := def_found h.ds h5
    rw [← h6.nm] at h7
    exact ⟨k, j, s, d, t, h1, h2, h7, h8, h.dk d h5, h6, of_decide_eq_true h3, h4⟩
theorem ev_in {v : EvT} (h : evGood v = true) : 0 ≤ v.kind ∧ v.kind ≤ 10 ∧ 0 ≤ v.now ∧ v.now ≤ 1099511627776 ∧ 0 ≤ v.saga := by
  unfold evGood at h
  split at h
  · cases h
  · rename_i c
    have h1 : ¬ (tickGood v.now = false) := fun hh => c (.inr (.inr (.inl hh)))
    rw [tick_no] at h1
    omega
theorem ref_gone {E : Prog} (hE : Std E fns) (x : StT) (h : XOK x) (v : EvT) (hn : v.name.size ≤ 200) (hd : shortD v.df) (lim : Int) (hg : evGood v = true) (k0 : ¬ v.kind = 0) (k1 : ¬ v.kind = 1) (hf : ¬ 0 ≤ fidx (isId v.saga) x.sagas.list 0) :
    callP E f_usufructref16_Do [stA x, vA v, vi lim] = some (ansA x cm0 7) := by
  have h1 := fn_evgoodRef hE v hn hd
  have h2 := fn_refStGood hE x h
  have h3 := fn_refFind hE x v.saga h.sl
  rw [fidx_neg _ _ _ hf] at h3
  obtain ⟨kd, nw, sg, nm, ⟨r1, r2, r3, r4, r5⟩, df⟩ := v
  dsimp only at *
  rw [hg] at h1
  rw [hE.run rfl rfl]
  simp -implicitDefEqProofs only [go_sem, ir_usufructref16_Do, h1, h2, h3, k0, k1, ro_def, ro_sg, ro_step, boxQ_av, boxQ_ref, boxQ_rop, exA_av, exA_rop]
  rfl
section
variable {E : Prog} (hE : Std E fns) (x : StT) (h : XOK x) (v : EvT) (hn : v.name.size ≤ 200) (hd : shortD v.df) (lim : Int) (hg : evGood v = true) (k j : Nat) (s : SgT) (d : DefT) (t : StepT) (hh : Hit x v k j s d t)
include hE h hn hd hg hh
theorem ref_reply (hk : v.kind = 3) :
    callP E f_usufructref16_Do [stA x, vA v, vi lim] = some (ansA (if (replyS d t s v.rep v.now).2 = 0 then ⟨x.defs, .mk (x.sagas.list.set k (replyS d t s v.rep v.now).1), x.next⟩ else x) cm0 (replyS d t s v.rep v.now).2) := by
  have h1 := fn_evgoodRef hE v hn hd
  have h2 := fn_refStGood hE x h
  have h3 := fn_refFind hE x v.saga h.sl
  have h4 := fn_refDef hE x s.df h.dl
  have h5 := hh.sk
  have h6 := hh.dj
  have n0 := (ev_in hg).2.2.1
  have n1 := (ev_in hg).2.2.2.1
  have dk := hh.dk
  have so := hh.so
  have kl := hh.lt
  rw [hh.fk] at h3
  rw [hh.fj] at h4
  have q1 : ¬ ((k : Int) < 0) := by omega
  rw [hg] at h1
  have hr := fn_sreplyRef hE d dk s t so v.rep v.now n0 n1
  generalize replyS d t s v.rep v.now = r at hr ⊢
  obtain ⟨s', e'⟩ := r
  have hw := fn_with hE x.sagas k kl h.sl s'
  clear hh so dk
  obtain ⟨kd, nw, sg, nm, ⟨r1, r2, r3, r4, r5⟩, df⟩ := v
  dsimp only at *
  subst hk
  rw [hE.run rfl rfl]
  by_cases c : e' = 0
  · subst c
    simp -implicitDefEqProofs only [go_sem, ir_usufructref16_Do, h1, h2, h3, h4, h5, h6, q1, hr, hw, avM, SgT.cells, DefT.cells, Int.natCast_nonneg, ro_def, ro_sg, ro_step, boxQ_av, boxQ_ref, boxQ_rop, exA_av, exA_rop]
    rfl
  · simp -implicitDefEqProofs only [go_sem, ir_usufructref16_Do, h1, h2, h3, h4, h5, h6, q1, hr, c, SgT.cells, DefT.cells, Int.natCast_nonneg, ro_def, ro_sg, ro_step, boxQ_av, boxQ_ref, boxQ_rop, exA_av, exA_rop]
    rfl
theorem ref_act (m : Nat) (hm : m ≤ 5) (hk : v.kind = (m : Int) + 4) :
    callP E f_usufructref16_Do [stA x, vA v, vi lim] = some (ansA (if (actS d t s v.now m).2 = 0 then ⟨x.defs, .mk (x.sagas.list.set k (actS d t s v.now m).1), x.next⟩ else x) cm0 (actS d t s v.now m).2) := by
  have h1 := fn_evgoodRef hE v hn hd
  have h2 := fn_refStGood hE x h
  have h3 := fn_refFind hE x v.saga h.sl
  have h4 := fn_refDef hE x s.df h.dl
  have h5 := hh.sk
  have h6 := hh.dj
  have n0 := (ev_in hg).2.2.1
  have n1 := (ev_in hg).2.2.2.1
  have dk := hh.dk
  have so := hh.so
  have kl := hh.lt
  rw [hh.fk] at h3
  rw [hh.fj] at h4
  have q1 : ¬ ((k : Int) < 0) := by omega
  rw [hg] at h1
  have hr := fn_doRef hE d dk s t so v.now n0 n1 m hm
  generalize actS d t s v.now m = r at hr ⊢
  obtain ⟨s', e'⟩ := r
  have hw := fn_with hE x.sagas k kl h.sl s'
  have w : IntKind.i64.wrap ((m : Int) + 4 - 4) = (m : Int) := by rw [show (m : Int) + 4 - 4 = m by omega]; exact IntWalk.i64_in _ (by omega)
  have z0 : ¬ (m : Int) + 4 = 0 := by omega
  have z1 : ¬ (m : Int) + 4 = 1 := by omega
  have z2 : ¬ (m : Int) + 4 = 2 := by omega
  have z3 : ¬ (m : Int) + 4 = 3 := by omega
  have z10 : ¬ (m : Int) + 4 = 10 := by omega
  clear hh so dk
  obtain ⟨kd, nw, sg, nm, ⟨r1, r2, r3, r4, r5⟩, df⟩ := v
  dsimp only at *
  subst hk
  rw [hE.run rfl rfl]
  by_cases c : e' = 0
  · subst c
    simp -implicitDefEqProofs only [go_sem, ir_usufructref16_Do, h1, h2, h3, h4, h5, h6, q1, w, z0, z1, z2, z3, z10, hr, hw, avM, SgT.cells, DefT.cells, Int.natCast_nonneg, ro_def, ro_sg, ro_step, boxQ_av, boxQ_ref, boxQ_rop, exA_av, exA_rop]
    rfl
  · simp -implicitDefEqProofs only [go_sem, ir_usufructref16_Do, h1, h2, h3, h4, h5, h6, q1, w, z0, z1, z2, z3, z10, hr, c, SgT.cells, DefT.cells, Int.natCast_nonneg, ro_def, ro_sg, ro_step, boxQ_av, boxQ_ref, boxQ_rop, exA_av, exA_rop]
    rfl
set_option maxHeartbeats 4000000 in
theorem ref_emit (hk : v.kind = 2) :
    callP E f_usufructref16_Do [stA x, vA v, vi lim] = some (ansA (if (emS d t s v.now).2.2 = 0 then ⟨x.defs, .mk (x.sagas.list.set k (emS d t s v.now).1), x.next⟩ else x) (emS d t s v.now).2.1 (emS d t s v.now).2.2) := by
  have h1 := fn_evgoodRef hE v hn hd
  have h2 := fn_refStGood hE x h
  have h3 := fn_refFind hE x v.saga h.sl
  have h4 := fn_refDef hE x s.df h.dl
  have h5 := hh.sk
  have h6 := hh.dj
  have n0 := (ev_in hg).2.2.1
  have n1 := (ev_in hg).2.2.2.1
  have dk := hh.dk
  have so := hh.so
  have kl := hh.lt
  rw [hh.fk] at h3
  rw [hh.fj] at h4
  have q1 : ¬ ((k : Int) < 0) := by omega
  rw [hg] at h1
  have hc := fn_sgcheckRef hE d dk s t so v.now (tick_in n0 n1)
  have hm := fun ho => fn_smayRef hE d dk s t so ho v.now n0 n1
  have he := fn_emitRef hE d dk s t so (by have := hh.i1; have := h.n1; omega) v.now
  unfold emS
  generalize emitS d t s v.now = s' at he ⊢
  generalize emitC d t s = c' at he ⊢
  have hw := fn_with hE x.sagas k kl h.sl s'
  unfold ckS at hc
  clear hh so dk
  by_cases ho : overS s = true
  · rw [if_pos ho] at hc ⊢
    clear hm
    obtain ⟨kd, nw, sg, nm, ⟨r1, r2, r3, r4, r5⟩, df⟩ := v
    dsimp only at *
    subst hk
    rw [hE.run rfl rfl]
    simp -implicitDefEqProofs only [go_sem, ir_usufructref16_Do, h1, h2, h3, h4, h5, h6, q1, hc, SgT.cells, DefT.cells, Int.natCast_nonneg, ro_def, ro_sg, ro_step, boxQ_av, boxQ_ref, boxQ_rop, exA_av, exA_rop]
    rfl
  · have hm' := hm (by simpa using ho)
    rw [if_neg ho] at hc ⊢
    clear hm
    by_cases hs : smayS d t s v.now = true
    · rw [hs] at hm'
      rw [if_pos hs]
      clear hs ho
      obtain ⟨kd, nw, sg, nm, ⟨r1, r2, r3, r4, r5⟩, df⟩ := v
      dsimp only at *
      subst hk
      rw [hE.run rfl rfl]
      simp -implicitDefEqProofs only [go_sem, ir_usufructref16_Do, h1, h2, h3, h4, h5, h6, q1, hc, hm', he, hw, avM, SgT.cells, DefT.cells, Int.natCast_nonneg, ro_def, ro_sg, ro_step, boxQ_av, boxQ_ref, boxQ_rop, exA_av, exA_rop]
      rfl
    · have hs' : smayS d t s v.now = false := by simpa using hs
      rw [hs'] at hm'
      rw [if_neg hs]
      clear hs hs' ho
      obtain ⟨kd, nw, sg, nm, ⟨r1, r2, r3, r4, r5⟩, df⟩ := v
      dsimp only at *
      subst hk
      rw [hE.run rfl rfl]
      simp -implicitDefEqProofs only [go_sem, ir_usufructref16_Do, h1, h2, h3, h4, h5, h6, q1, hc, hm', SgT.cells, DefT.cells, Int.natCast_nonneg, ro_def, ro_sg, ro_step, boxQ_av, boxQ_ref, boxQ_rop, exA_av, exA_rop]
      rfl
theorem ref_stay (hk : v.kind = 10) (ho : overS s = false) : callP E f_usufructref16_Do [stA x, vA v, vi lim] = some (ansA x cm0 9) := by
  have h1 := fn_evgoodRef hE v hn hd
  have h2 := fn_refStGood hE x h
  have h3 := fn_refFind hE x v.saga h.sl
  have h4 := fn_refDef hE x s.df h.dl
  have h5 := hh.sk
  have h6 := hh.dj
  have n0 := (ev_in hg).2.2.1
  have n1 := (ev_in hg).2.2.2.1
  have dk := hh.dk
  have so := hh.so
  have kl := hh.lt
  rw [hh.fk] at h3
  rw [hh.fj] at h4
  have q1 : ¬ ((k : Int) < 0) := by omega
  rw [hg] at h1
  have hr := fn_overRef hE s
  rw [ho] at hr
  clear hh so dk ho
  obtain ⟨kd, nw, sg, nm, ⟨r1, r2, r3, r4, r5⟩, df⟩ := v
  dsimp only at *
  subst hk
  rw [hE.run rfl rfl]
  simp -implicitDefEqProofs only [go_sem, ir_usufructref16_Do, h1, h2, h3, h4, h5, h6, q1, hr, SgT.cells, DefT.cells, Int.natCast_nonneg, ro_def, ro_sg, ro_step, boxQ_av, boxQ_ref, boxQ_rop, exA_av, exA_rop]
  rfl
theorem ref_forget (hk : v.kind = 10) (ho : overS s = true) : callP E f_usufructref16_Do [stA x, vA v, vi lim] = some (ansA ⟨x.defs, .mk (x.sagas.list.take k ++ x.sagas.list.drop (k + 1)), x.next⟩ cm0 0) := by
  have h1 := fn_evgoodRef hE v hn hd
  have h2 := fn_refStGood hE x h
  have h3 := fn_refFind hE x v.saga h.sl
  have h4 := fn_refDef hE x s.df h.dl
  have h5 := hh.sk
  have h6 := hh.dj
  have n0 := (ev_in hg).2.2.1
  have n1 := (ev_in hg).2.2.2.1
  have dk := hh.dk
  have so := hh.so
  have kl := hh.lt
  rw [hh.fk] at h3
  rw [hh.fj] at h4
  have q1 : ¬ ((k : Int) < 0) := by omega
  rw [hg] at h1
  have hr := fn_overRef hE s
  rw [ho] at hr
  have sl := h.sl
  clear hh so dk ho
  have e1 : (x.sagas.sub 0 k).list = x.sagas.list.take k := by rw [sub_list]; simp
  have e2 : (x.sagas.sub (k + 1) x.sagas.list.length).list = x.sagas.list.drop (k + 1) := by rw [sub_list, List.take_of_length_le (by simp)]
  have c1 : (k : Int) ≤ (x.sagas.list.length : Int) := by omega
  have c2 : ((k + 1 : Nat) : Int) ≤ (x.sagas.list.length : Int) := by omega
  have w := wrap_succ (i := k) (by omega)
  have hT : (x.sagas.list.take k).length ≤ 1048576 := by rw [List.length_take]; omega
  have hD : (x.sagas.list.drop (k + 1)).length ≤ 1048576 := by rw [List.length_drop]; omega
  generalize x.sagas.list.take k = T at *
  generalize x.sagas.list.drop (k + 1) = D at *
  have a1 : T.length * 80 ≤ 140737488355328 := by omega
  have a3 : (T.length + D.length) * 80 ≤ 140737488355328 := by omega
  obtain ⟨kd, nw, sg, nm, ⟨r1, r2, r3, r4, r5⟩, df⟩ := v
  dsimp only at *
  subst hk
  rw [hE.run rfl rfl]
  simp -implicitDefEqProofs only [go_sem, ir_usufructref16_Do, h1, h2, h3, h4, h5, h6, q1, hr, w, e1, e2, c1, c2, a1, a3, all_sg, elems_av, elems_sl, tk3, Int.le_refl, avM, belowss, SgT.cells, DefT.cells, Int.natCast_nonneg, sg_ids, sg_rens, sg_snaps, sg_belows, ro_def, ro_sg, ro_step, boxQ_av, boxQ_ref, boxQ_rop, exA_av, exA_rop]
  have e6 : T.map SgT.cells ++ D.map SgT.cells = (T ++ D).map SgT.cells := by simp
  rw [e6]
  rfl
end
end Go.Proofs.YtoobogpbejdocaaGreatDoor.Ev
