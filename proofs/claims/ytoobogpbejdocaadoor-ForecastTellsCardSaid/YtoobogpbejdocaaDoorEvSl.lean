import Derived.Test.YtoobogpbejdocaaDoorEvSx
import Derived.Test.YtoobogpbejdocaaDoorEvCall
import Derived.Laws.Strings
import Derived.IntWalk
set_option linter.unusedVariables false
set_option linter.unusedSectionVars false
set_option linter.unusedSimpArgs false
namespace Go.Proofs.YtoobogpbejdocaaDoor.Ev
inductive Sl (α : Type) where
  | nil
  | mk (xs : List α)
def Sl.list {α : Type} : Sl α → List α
  | .nil => []
  | .mk xs => xs
def Sl.av {α : Type} (k : Nat) (f : α → List AV) : Sl α → AV
  | .nil => .v (.slice none 0 0)
  | .mk xs => .sl k (xs.map f)
section
variable {α : Type} {k : Nat} {f : α → List AV} {s : Sl α} {st : Store}
theorem len_av : lenAV st (s.av k f) = some s.list.length := by
  cases s <;> simp [Sl.av, Sl.list, lenAV]
theorem elems_av : elems st (s.av k f) = some (s.list.map f) := by
  cases s <;> simp [Sl.av, Sl.list, elems]
theorem ias_av {j : Int} : iasF st k j (s.av k f) = if 0 ≤ j then (s.list[j.toNat]?).bind fun x => some (.rop (f x)) else none := by
  cases s with
  | nil => simp [Sl.av, Sl.list, iasF]
  | mk xs =>
    simp only [Sl.av, Sl.list, iasF, if_true, List.getElem?_map]
    split
    · cases xs[j.toNat]? <;> rfl
    · rfl
def Sl.sub (s : Sl α) (a b : Nat) : Sl α := match s with
  | .nil => .nil
  | .mk xs => .mk ((xs.drop a).take (b - a))
theorem sub_list {a b : Nat} : (s.sub a b).list = (s.list.drop a).take (b - a) := by cases s <;> simp [Sl.sub, Sl.list]
theorem slx_av {a b : Int} : slxF st k (s.av k f) a b = some ((s.sub a.toNat b.toNat).av k f) := by
  cases s with
  | nil => rfl
  | mk xs => simp only [Sl.av, slxF, if_true, Sl.sub, List.map_take, List.map_drop]
theorem cells_av : (s.av k f).cells = [s.av k f] := by cases s <;> rfl
theorem tuple_av : (s.av k f).tuple = false := by cases s <;> rfl
theorem idsss_map (h : ∀ x, idss (f x) = []) : ∀ xs : List α, idsss (xs.map f) = []
  | [] => rfl
  | x :: xs => by simp only [List.map_cons, idsss, h, idsss_map h xs, List.append_nil]
theorem idsss_app (a b : List (List AV)) : idsss (a ++ b) = idsss a ++ idsss b := by
  induction a with
  | nil => rfl
  | cons c a ih => simp only [List.cons_append, idsss, ih, List.append_assoc]
theorem renss_app {ρ : Nat → Nat} (a b : List (List AV)) : renss ρ (a ++ b) = renss ρ a ++ renss ρ b := by simp only [renss_map, List.map_append]
theorem belowss_app {n : Nat} (a b : List (List AV)) : belowss n (a ++ b) = (belowss n a && belowss n b) := by
  induction a with
  | nil => simp [belowss]
  | cons c a ih => simp only [List.cons_append, belowss, ih, Bool.and_assoc]
theorem ids_av (h : ∀ x, idss (f x) = []) : (s.av k f).ids = [] := by
  cases s with
  | nil => rfl
  | mk xs => simp only [Sl.av, AV.ids, idsss_map h]
end
mutual
theorem ren_of {ρ : Nat → Nat} : ∀ (a : AV), a.ids = [] → a.ren ρ = a
  | .v x, _ => rfl
  | .agg cs, h => by simp only [AV.ids] at h; simp only [AV.ren, rens_of cs h]
  | .tup cs, h => by simp only [AV.ids] at h; simp only [AV.ren, rens_of cs h]
  | .sl _ xs, h => by simp only [AV.ids] at h; simp only [AV.ren, renss_of xs h]
  | .rop cs, h => by simp only [AV.ids] at h; simp only [AV.ren, rens_of cs h]
  | .own id _ _ _, h => by simp [AV.ids] at h
  | .ref id _ _ _, h => by simp [AV.ids] at h
  | .fn _ cs, h => by simp only [AV.ids] at h; simp only [AV.ren, rens_of cs h]
  | .mp id, h => by simp [AV.ids] at h
  | .it id, h => by simp [AV.ids] at h
  | .yl id, h => by simp [AV.ids] at h
  | .ifc, _ => rfl
theorem rens_of {ρ : Nat → Nat} : ∀ (l : List AV), idss l = [] → rens ρ l = l
  | [], _ => rfl
  | a :: l, h => by
    simp only [idss, List.append_eq_nil_iff] at h
    simp only [rens, ren_of a h.1, rens_of l h.2]
theorem renss_of {ρ : Nat → Nat} : ∀ (l : List (List AV)), idsss l = [] → renss ρ l = l
  | [], _ => rfl
  | a :: l, h => by
    simp only [idsss, List.append_eq_nil_iff] at h
    simp only [renss, rens_of a h.1, renss_of l h.2]
end
mutual
theorem under_of {n : Nat} : ∀ (a : AV), a.ids = [] → a.under n = true
  | .v x, _ => rfl
  | .agg cs, h => by simp only [AV.ids] at h; simp only [AV.under, belows_of cs h]
  | .tup cs, h => by simp only [AV.ids] at h; simp only [AV.under, belows_of cs h]
  | .sl _ xs, h => by simp only [AV.ids] at h; simp only [AV.under, belowss_of xs h]
  | .rop cs, h => by simp only [AV.ids] at h; simp only [AV.under, belows_of cs h]
  | .own id _ _ _, h => by simp [AV.ids] at h
  | .ref id _ _ _, h => by simp [AV.ids] at h
  | .fn _ cs, h => by simp only [AV.ids] at h; simp only [AV.under, belows_of cs h]
  | .mp id, h => by simp [AV.ids] at h
  | .it id, h => by simp [AV.ids] at h
  | .yl id, h => by simp [AV.ids] at h
  | .ifc, _ => rfl
theorem belows_of {n : Nat} : ∀ (l : List AV), idss l = [] → belows n l = true
  | [], _ => rfl
  | a :: l, h => by
    simp only [idss, List.append_eq_nil_iff] at h
    simp only [belows, under_of a h.1, belows_of l h.2, Bool.and_self]
theorem belowss_of {n : Nat} : ∀ (l : List (List AV)), idsss l = [] → belowss n l = true
  | [], _ => rfl
  | a :: l, h => by
    simp only [idsss, List.append_eq_nil_iff] at h
    simp only [belowss, belows_of a h.1, belowss_of l h.2, Bool.and_self]
end
instance : LawfulBEq ByteArray where
  eq_of_beq {a b} h := by
    cases a; cases b
    simp only [ByteArray.mk.injEq]
    exact eq_of_beq h
  rfl {a} := by
    cases a with
    | mk d => exact (beq_self_eq_true d : (d == d) = true)
theorem int_beq (a b : Int) : (a == b) = decide (a = b) := rfl
theorem int_bne (a b : Int) : (a != b) = !decide (a = b) := rfl
theorem txt_eq (a b : ByteArray) : (a.toList == b.toList) = decide (a = b) := by
  rw [ByteArray.toList_eq, ByteArray.toList_eq]
  by_cases h : a = b
  · subst h; simp
  · simp only [h, decide_false, beq_eq_false_iff_ne, ne_eq]
    intro e
    apply h
    cases a; cases b
    simp only [ByteArray.mk.injEq]
    exact Array.toList_inj.1 e
theorem callP_any {E : Prog} {f : Nat} {l : List AV} {bs : List Nat} {st : Store} : callM (callL E) .P (.fn f []) l bs st = (snaps st l).bind fun az => (callP E f az).bind fun r => if (ros l || r.flat) = true then some (r, st) else none := by
  simp only [callM, List.append_nil, callP]
  cases snaps st l with
  | none => rfl
  | some az =>
    simp only [Option.bind_some]
    cases callL E f az [] [] with
    | none => rfl
    | some p => simp only; cases p.1.snap p.2 <;> rfl
theorem callQ_eq {E : Prog} {f : Nat} {l : List AV} {bs : List Nat} {st : Store} : callM (callL E) .Q (.fn f []) l bs st = if ros l = true then (callP E f l).bind fun r => some (r, st) else none := by
  simp only [callM, List.append_nil, callP]
  split
  · cases callL E f l [] [] with
    | none => rfl
    | some x =>
      obtain ⟨r, st2⟩ := x
      dsimp only
      cases r.snap st2 <;> rfl
  · rfl
theorem callB_eq {E : Prog} {f : Nat} {l : List AV} {bs : List Nat} {st : Store} : callM (callL E) .B (.fn f []) l bs st = (callM (callL E) .N (.fn f []) l bs st).bind fun q => if sameObs st q.2 = true then some q else none := callM_B _ _ _ _ _ _
theorem keep_zero (v : AV) : Env.keep [(0, v)] [0] = [(0, v)] := rfl
theorem compactV_same {bs : List Nat} {n0 : Nat} {v : AV} {st : Store} (h : st.length ≤ n0) : compactV bs n0 (v, st) = (v, st) := by
  unfold compactV
  have : compact bs n0 [0] [(0, v)] st = ([(0, v)], st) := by unfold compact; rw [if_neg fun q => by omega]; rfl
  rw [this]; rfl
theorem compactV_new {n0 : Nat} {v : AV} {st : Store} (h : n0 < st.length) : compactV [] n0 (v, st) =
    (if (closedB st (upto n0 0 ++ visit st n0 1000 (ids0 n0 st ++ v.ids) []) (upto n0 0 ++ visit st n0 1000 (ids0 n0 st ++ v.ids) []) && nodupB (upto n0 0 ++ visit st n0 1000 (ids0 n0 st ++ v.ids) []) &&
        v.ids.all (fun j => (upto n0 0 ++ visit st n0 1000 (ids0 n0 st ++ v.ids) []).contains j)) = true then
      (v.ren (pos (upto n0 0 ++ visit st n0 1000 (ids0 n0 st ++ v.ids) [])), sel st (pos (upto n0 0 ++ visit st n0 1000 (ids0 n0 st ++ v.ids) [])) (upto n0 0 ++ visit st n0 1000 (ids0 n0 st ++ v.ids) []))
      else (v, st)) := by
  unfold compactV
  have : compact [] n0 [0] [(0, v)] st = (if (closedB st (upto n0 0 ++ visit st n0 1000 (ids0 n0 st ++ v.ids) []) (upto n0 0 ++ visit st n0 1000 (ids0 n0 st ++ v.ids) []) && nodupB (upto n0 0 ++ visit st n0 1000 (ids0 n0 st ++ v.ids) []) &&
        v.ids.all (fun j => (upto n0 0 ++ visit st n0 1000 (ids0 n0 st ++ v.ids) []).contains j)) = true then
      ([(0, v.ren (pos (upto n0 0 ++ visit st n0 1000 (ids0 n0 st ++ v.ids) [])))], sel st (pos (upto n0 0 ++ visit st n0 1000 (ids0 n0 st ++ v.ids) [])) (upto n0 0 ++ visit st n0 1000 (ids0 n0 st ++ v.ids) []))
      else ([(0, v)], st)) := by
    unfold compact
    rw [if_pos ⟨rfl, h⟩]
    simp only [keep_zero, envIds, List.append_nil, renEnv]
  rw [this]
  by_cases c : (closedB st (upto n0 0 ++ visit st n0 1000 (ids0 n0 st ++ v.ids) []) (upto n0 0 ++ visit st n0 1000 (ids0 n0 st ++ v.ids) []) && nodupB (upto n0 0 ++ visit st n0 1000 (ids0 n0 st ++ v.ids) []) &&
        v.ids.all (fun j => (upto n0 0 ++ visit st n0 1000 (ids0 n0 st ++ v.ids) []).contains j)) = true
  · simp only [if_pos c]; rfl
  · simp only [if_neg c]; rfl
theorem compactV_0 {v : AV} {st : Store} (h : v.ids = []) (hr : ∀ ρ, v.ren ρ = v) : compactV [] 0 (v, st) = (v, []) := by
  cases st with
  | nil => exact compactV_same (by simp)
  | cons ob st =>
    rw [compactV_new (by simp)]
    simp only [h, ids0, upto, List.append_nil, List.nil_append, visit, closedB, nodupB, List.all_nil, Bool.and_self, if_true, hr, sel]
theorem callL_fn {E : Prog} {f : Nat} {fd : FnD} {l : List AV} {st : Store} (hp : E.prim f = none) (hf : E.fn f = some fd) (ha : l.length = fd.nargs) :
    callL E f l [] st = ((IR.runL E.glob (callL E) [] fd.body (argEnv l 0) st).bind (finK fd.results)).bind fun q => some (compactV [] st.length q) := by
  rw [call_fn hp hf _ _ _ ha, fin_bind]
  cases (IR.runL E.glob (callL E) [] fd.body (argEnv l 0) st).bind (finK fd.results) <;> rfl
theorem callL_loop {E : Prog} {f : Nat} {d : LoopD} {l : List AV} {st : Store} (hp : E.prim f = none) (hf : E.fn f = none) (hl : E.loop f = some d) (ha : l.length = d.vars.length) :
    callL E f l [] st = (IR.runL E.glob (callL E) [] d.body (bindEnv d.vars l) st).bind fun z => some (compactV [] st.length (.v (.int .i64 (numOf z.1)), z.2.2)) := by
  rw [call_loop hp hf hl _ _ ha]
  cases IR.runL E.glob (callL E) [] d.body (bindEnv d.vars l) st <;> rfl
theorem callP_fn {E : Prog} {f : Nat} {fd : FnD} {l : List AV} (hp : E.prim f = none) (hf : E.fn f = some fd) (ha : l.length = fd.nargs) :
    callP E f l = ((IR.runL E.glob (callL E) [] fd.body (argEnv l 0) []).bind (finK fd.results)).bind fun q => (compactV [] 0 q).1.snap (compactV [] 0 q).2 := by
  unfold callP
  rw [callL_fn hp hf ha]
  cases (IR.runL E.glob (callL E) [] fd.body (argEnv l 0) []).bind (finK fd.results) <;> rfl
structure Std (E : Prog) (fns : Nat → Option FnD) : Prop where
  fn : E.fn = fns
  np : ∀ f fd, fns f = some fd → E.prim f = none
theorem Std.run {E : Prog} {fns : Nat → Option FnD} (hE : Std E fns) {f : Nat} {fd : FnD} {l : List AV} (hf : fns f = some fd) (ha : l.length = fd.nargs) :
    callP E f l = ((IR.runL E.glob (callL E) [] fd.body (argEnv l 0) []).bind (finK fd.results)).bind fun q => (compactV [] 0 q).1.snap (compactV [] 0 q).2 := callP_fn (hE.np f fd hf) (by rw [hE.fn]; exact hf) ha
theorem Std.runN {E : Prog} {fns : Nat → Option FnD} (hE : Std E fns) {f : Nat} {fd : FnD} {l : List AV} {st : Store} (hf : fns f = some fd) (ha : l.length = fd.nargs) :
    callL E f l [] st = ((IR.runL E.glob (callL E) [] fd.body (argEnv l 0) st).bind (finK fd.results)).bind fun q => some (compactV [] st.length q) := callL_fn (hE.np f fd hf) (by rw [hE.fn]; exact hf) ha
theorem callN_any {E : Prog} {f : Nat} {caps l : List AV} {st : Store} : callM (callL E) .N (.fn f caps) l [] st =
    if (closedB st (visit st 0 1000 (idss (l ++ caps)) []) (visit st 0 1000 (idss (l ++ caps)) []) && nodupB (visit st 0 1000 (idss (l ++ caps)) []) && (idss (l ++ caps)).all (fun j => (visit st 0 1000 (idss (l ++ caps)) []).contains j)) = true then
      (callL E f (rens (pos (visit st 0 1000 (idss (l ++ caps)) [])) (l ++ caps)) [] (sel st (pos (visit st 0 1000 (idss (l ++ caps)) [])) (visit st 0 1000 (idss (l ++ caps)) []))).bind fun q =>
        some (q.1.ren (backId (visit st 0 1000 (idss (l ++ caps)) []) st.length), putAll st (visit st 0 1000 (idss (l ++ caps)) []) ((q.2.take (visit st 0 1000 (idss (l ++ caps)) []).length).map (Ob.ren (backId (visit st 0 1000 (idss (l ++ caps)) []) st.length))) ++
          (q.2.drop (visit st 0 1000 (idss (l ++ caps)) []).length).map (Ob.ren (backId (visit st 0 1000 (idss (l ++ caps)) []) st.length)))
    else none := by
  simp only [callM, List.isEmpty_nil, if_true]
  split
  · cases callL E f (rens (pos (visit st 0 1000 (idss (l ++ caps)) [])) (l ++ caps)) [] (sel st (pos (visit st 0 1000 (idss (l ++ caps)) [])) (visit st 0 1000 (idss (l ++ caps)) [])) <;> rfl
  · rfl
theorem snap_of {a : AV} {st : Store} (h : a.ids = []) : a.snap st = some a := snap_ro a (under_of a h)
theorem argEnv_nil (i : Nat) : argEnv [] i = [] := rfl
theorem argEnv_cons (a : AV) (l : List AV) (i : Nat) : argEnv (a :: l) i = (i, a) :: argEnv l (i + 1) := rfl
def Ro {α : Type} (f : α → List AV) : Prop := ∀ x, idss (f x) = []
theorem ids_avR {α : Type} {k : Nat} {f : α → List AV} {s : Sl α} (h : Ro f) : (s.av k f).ids = [] := ids_av h
theorem ren_av {α : Type} {k : Nat} {f : α → List AV} {s : Sl α} {ρ : Nat → Nat} (h : Ro f) : (s.av k f).ren ρ = s.av k f := ren_of _ (ids_av h)
theorem under_av {α : Type} {k : Nat} {f : α → List AV} {s : Sl α} {n : Nat} (h : Ro f) : (s.av k f).under n = true := under_of _ (ids_av h)
theorem snap_av {α : Type} {k : Nat} {f : α → List AV} {s : Sl α} {st : Store} (h : Ro f) : (s.av k f).snap st = some (s.av k f) := snap_of (ids_av h)
theorem renss_mapf {α : Type} {f : α → List AV} {ρ : Nat → Nat} {l : List α} (h : Ro f) : renss ρ (l.map f) = l.map f := renss_of _ (idsss_map h l)
theorem belowss_mapf {α : Type} {f : α → List AV} {n : Nat} {l : List α} (h : Ro f) : belowss n (l.map f) = true := belowss_of _ (idsss_map h l)
theorem idsss_mapf {α : Type} {f : α → List AV} {l : List α} (h : Ro f) : idsss (l.map f) = [] := idsss_map h l
theorem drop_cons {α : Type} {l rest : List α} {i : Nat} {x : α} (h : l.drop i = x :: rest) : l[i]? = some x ∧ l.drop (i + 1) = rest ∧ (i : Int) < (l.length : Int) ∧ i + 1 ≤ l.length ∧ l.length = i + 1 + rest.length := by
  have h1 : l[i]? = some x := by have := congrArg List.head? h; simpa using this
  have h2 : l.drop (i + 1) = rest := by rw [← List.drop_drop, h]; rfl
  have h3 := (List.getElem?_eq_some_iff.1 h1).1
  refine ⟨h1, h2, by omega, by omega, ?_⟩
  have := congrArg List.length h2
  simp at this
  omega
theorem drop_nil' {α : Type} {l : List α} {i : Nat} (h : l.drop i = []) (hi : i ≤ l.length) : l.length = i := by
  have := congrArg List.length h
  simp at this
  omega
theorem wrap_succ {i : Nat} (h : i < 9223372036854775807) : IntKind.i64.wrap ((i : Int) + 1) = ((i + 1 : Nat) : Int) := by
  rw [IntWalk.i64_in _ (by omega)]; omega
def bld {α : Type} (k : Nat) (f : α → List AV) (g : Nat) (st : Store) (ys : List α) : AV × Store :=
  match ys with
  | [] => (.v (.slice none 0 0), st)
  | _ :: _ => (.own st.length g 0 ys.length, st ++ [.row k g (ys.map f) false])
theorem bld_nil {α : Type} {k : Nat} {f : α → List AV} {g : Nat} {st : Store} : bld k f g st [] = (.v (.slice none 0 0), st) := rfl
theorem take_map_all {α β : Type} (f : α → β) (ys : List α) : (ys.map f).take ys.length = ys.map f := by rw [List.take_of_length_le (by simp)]
theorem ne_app {α : Type} (l : List α) (x : α) : l ++ [x] ≠ [] := by simp
def slOf {α : Type} : List α → Sl α
  | [] => .nil
  | x :: xs => .mk (x :: xs)
theorem slOf_list {α : Type} (l : List α) : (slOf l).list = l := by cases l <;> rfl
theorem slOf_ne {α : Type} {l : List α} (h : l ≠ []) : slOf l = .mk l := by
  cases l with
  | nil => exact absurd rfl h
  | cons x xs => rfl
theorem compact_same {bs live : List Nat} {n0 : Nat} {e : Env} {st : Store} (h : st.length ≤ n0) : compact bs n0 live e st = (e.keep live, st) := by
  unfold compact
  rw [if_neg fun q => by omega]
theorem compact_new {n0 : Nat} {live : List Nat} {e : Env} {st : Store} (h : n0 < st.length) : compact [] n0 live e st =
    (if (closedB st (upto n0 0 ++ visit st n0 1000 (ids0 n0 st ++ envIds (e.keep live)) []) (upto n0 0 ++ visit st n0 1000 (ids0 n0 st ++ envIds (e.keep live)) []) && nodupB (upto n0 0 ++ visit st n0 1000 (ids0 n0 st ++ envIds (e.keep live)) []) &&
        (envIds (e.keep live)).all (fun j => (upto n0 0 ++ visit st n0 1000 (ids0 n0 st ++ envIds (e.keep live)) []).contains j)) = true then
      (renEnv (pos (upto n0 0 ++ visit st n0 1000 (ids0 n0 st ++ envIds (e.keep live)) [])) (e.keep live), sel st (pos (upto n0 0 ++ visit st n0 1000 (ids0 n0 st ++ envIds (e.keep live)) [])) (upto n0 0 ++ visit st n0 1000 (ids0 n0 st ++ envIds (e.keep live)) []))
      else (e.keep live, st)) := by
  unfold compact
  rw [if_pos ⟨rfl, h⟩]
end Go.Proofs.YtoobogpbejdocaaDoor.Ev
