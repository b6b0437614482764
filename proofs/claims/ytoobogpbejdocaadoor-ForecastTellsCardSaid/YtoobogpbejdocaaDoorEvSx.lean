import Derived.Test.YtoobogpbejdocaaDoorEvPure
set_option linter.unusedVariables false
set_option linter.unusedSectionVars false
set_option linter.unusedSimpArgs false
namespace Go.Proofs.YtoobogpbejdocaaDoor.Ev
abbrev vi (n : Int) : AV := .v (.int .i64 n)
abbrev vb (b : Bool) : AV := .v (.bool b)
abbrev vs (s : ByteArray) : AV := .v (.string s)
def bOf : Option AV → Option Bool
  | some (.v (.bool b)) => some b
  | _ => none
def pvOf : Option AV → Option Value
  | some (.v x) => some x
  | _ => none
def agOf : Option AV → Option (List AV)
  | some (.agg l) => some l
  | _ => none
def tpOf : Option AV → Option (List AV)
  | some (.tup l) => some l
  | _ => none
def iOf : Option AV → Option Int
  | some (.v (.int _ n)) => some n
  | _ => none
def sOf : Option AV → Option ByteArray
  | some (.v (.string s)) => some s
  | _ => none
@[simp] theorem bOf_s (b : Bool) : bOf (some (.v (.bool b))) = some b := rfl
@[simp] theorem pvOf_s (x : Value) : pvOf (some (.v x)) = some x := rfl
@[simp] theorem agOf_s (l : List AV) : agOf (some (.agg l)) = some l := rfl
@[simp] theorem tpOf_s (l : List AV) : tpOf (some (.tup l)) = some l := rfl
@[simp] theorem iOf_s (k : IntKind) (n : Int) : iOf (some (.v (.int k n))) = some n := rfl
@[simp] theorem sOf_s (s : ByteArray) : sOf (some (.v (.string s))) = some s := rfl
theorem ite_bind {α β : Type} (c : Prop) [Decidable c] (x y : Option α) (f : α → Option β) : (if c then x else y).bind f = if c then x.bind f else y.bind f := by
  split <;> rfl
theorem bind_congr_head {α β : Type} {x y : Option α} {f : α → Option β} (h : x = y) : x.bind f = y.bind f := by rw [h]
section
variable {G : Nat → Option (List AV)} {raw : Raw} {bs : List Nat} {e : Env} {st : Store}
theorem opd_t (n : Nat) : Opd.ev G e (.t n) = e.get n := rfl
theorem opd_c (a : AV) : Opd.ev G e (.c a) = some a := rfl
theorem opd_g (n : Nat) : Opd.ev G e (.g n) = (G n).bind fun cs => some (.rop cs) := by simp only [Opd.ev]; cases G n <;> rfl
theorem opd_f (n : Nat) : Opd.ev G e (.f n) = some (.fn n []) := rfl
theorem opds_nil : Opd.evs G e [] = some [] := rfl
theorem opds_cons (x : Opd) (l : List Opd) : Opd.evs G e (x :: l) = (x.ev G e).bind fun a => (Opd.evs G e l).bind fun az => some (a :: az) := by
  simp only [Opd.evs]; cases x.ev G e with
  | none => rfl
  | some a => cases Opd.evs G e l <;> rfl
theorem get_nil (i : Nat) : Env.get [] i = none := rfl
theorem get_cons (k i : Nat) (a : AV) (r : Env) : Env.get ((k, a) :: r) i = if k = i then some a else Env.get r i := rfl
theorem put_some (d : Nat) (a : AV) : Env.put e (some d) a = (d, a) :: e := rfl
theorem put_none (a : AV) : Env.put e none a = e := rfl
theorem keep_nil : Env.keep e [] = [] := rfl
def keepC (i : Nat) : Option AV → Env → Env
  | some a, r => (i, a) :: r
  | none, r => r
theorem keepC_s (i : Nat) (a : AV) (r : Env) : keepC i (some a) r = (i, a) :: r := rfl
theorem keepC_n (i : Nat) (r : Env) : keepC i none r = r := rfl
theorem keep_cons (i : Nat) (l : List Nat) : Env.keep e (i :: l) = keepC i (e.get i) (e.keep l) := by
  simp only [Env.keep]; cases e.get i <;> rfl
theorem runs_nil : Item.runs G raw bs [] e st = some (e, st) := rfl
theorem runs_cons (i : Item) (l : List Item) : Item.runs G raw bs (i :: l) e st = (Item.run G raw bs i e st).bind fun p => Item.runs G raw bs l p.1 p.2 := by
  simp only [Item.runs]; cases Item.run G raw bs i e st <;> rfl
theorem run_op (d : Option Nat) (p : Prim) : Item.run G raw bs (.op d p) e st = (Prim.ev G bs e st p).bind fun q => some (Env.put e d q.1, q.2) := by
  simp only [Item.run]; cases Prim.ev G bs e st p <;> rfl
theorem run_opr (d : Option Nat) (p : Prim) (ex : List Nat) : Item.run G raw bs (.opr d p ex) e st = (p.rdo.ev G e).bind fun v => if (boxQ st v && exQ e v ex) = true then (Prim.ev G bs e st p).bind fun q => some (Env.put e d q.1, q.2) else none := by
  simp only [Item.run]; cases p.rdo.ev G e with
  | none => rfl
  | some v => cases Prim.ev G bs e st p <;> rfl
theorem exQ_nil (v : AV) : exQ e v [] = true := rfl
theorem exQ_cons (v : AV) (t : Nat) (ex : List Nat) : exQ e v (t :: ex) = (exA v (e.get t) && exQ e v ex) := rfl
theorem exA_ref (a b c d a' b' c' d' : Nat) : exA (.ref a b c d) (some (.ref a' b' c' d')) = !(decide (a = a')) := rfl
theorem same_nil (m : Store) : sameObs [] m = true := rfl
theorem same_box (a b : List AV) (l m : Store) : sameObs (.box a :: l) (.box b :: m) = (sameL a b && sameObs l m) := rfl
theorem same_row (k g k' g' : Nat) (xs xs' : List (List AV)) (n n' : Bool) (l m : Store) : sameObs (.row k g xs n :: l) (.row k' g' xs' n' :: m) = sameObs l m := by simp [sameObs, sameO]
theorem same_map (es es' : List (Value × AV)) (l m : Store) : sameObs (.map es :: l) (.map es' :: m) = sameObs l m := by simp [sameObs, sameO]
theorem sameL_nil : sameL [] [] = true := rfl
theorem sameL_cons (a b : AV) (l m : List AV) : sameL (a :: l) (b :: m) = (sameA a b && sameL l m) := by simp only [sameL]
theorem sameA_int (k : IntKind) (n : Int) : sameA (.v (.int k n)) (.v (.int k n)) = true := by simp [sameA, sameV]
theorem sameA_bool (n : Bool) : sameA (.v (.bool n)) (.v (.bool n)) = true := by simp [sameA, sameV]
theorem sameA_str (n : ByteArray) : sameA (.v (.string n)) (.v (.string n)) = true := by simp [sameA, sameV]
theorem sameA_slice (a b : Nat) : sameA (.v (.slice none a b)) (.v (.slice none a b)) = true := by simp [sameA, sameV]
theorem sameA_map : sameA (.v (.map none)) (.v (.map none)) = true := by simp [sameA, sameV]
theorem sameA_ptr : sameA (.v (.pointer none)) (.v (.pointer none)) = true := by simp [sameA, sameV]
theorem sameA_own (a b c d : Nat) : sameA (.own a b c d) (.own a b c d) = true := by simp [sameA]
theorem sameA_ref (a b c d : Nat) : sameA (.ref a b c d) (.ref a b c d) = true := by simp [sameA]
theorem sameA_mp (a : Nat) : sameA (.mp a) (.mp a) = true := by simp [sameA]
theorem run_call (d : Option Nat) (m : Mode) (f : Opd) (l : List Opd) : Item.run G raw bs (.call d m f l) e st =
    (f.ev G e).bind fun fv => (Opd.evs G e l).bind fun az => (callM raw m fv az bs st).bind fun q => some (Env.put e d q.1, q.2) := by
  simp only [Item.run]; cases f.ev G e with
  | none => rfl
  | some fv => cases Opd.evs G e l with
    | none => rfl
    | some az => simp only [Option.bind_some]; cases callM raw m fv az bs st <;> rfl
theorem run_gand (d : Nat) (c : Opd) (sub : List Item) (x : Opd) : Item.run G raw bs (.gand d c sub x) e st =
    (bOf (c.ev G e)).bind fun b => if b = true then (Item.runs G raw bs sub e st).bind fun p => (x.ev G p.1).bind fun a => some ((d, a) :: e, p.2) else some ((d, .v (.bool false)) :: e, st) := by
  simp only [Item.run]
  split
  · rename_i b h; rw [h]; cases b
    · rfl
    · simp only [bOf_s, Option.bind_some, if_true]
      cases Item.runs G raw bs sub e st with
      | none => rfl
      | some p => simp only [Option.bind_some]; cases x.ev G p.1 <;> rfl
  · rename_i h
    cases hc : c.ev G e with
    | none => rfl
    | some a => cases a with
      | v x => cases x <;> first | rfl | exact absurd hc (h _)
      | _ => rfl
theorem run_gor (d : Nat) (c : Opd) (sub : List Item) (x : Opd) : Item.run G raw bs (.gor d c sub x) e st =
    (bOf (c.ev G e)).bind fun b => if b = true then some ((d, .v (.bool true)) :: e, st) else (Item.runs G raw bs sub e st).bind fun p => (x.ev G p.1).bind fun a => some ((d, a) :: e, p.2) := by
  simp only [Item.run]
  split
  · rename_i b h; rw [h]; cases b
    · simp only [bOf_s, Option.bind_some, Bool.false_eq_true, if_false]
      cases Item.runs G raw bs sub e st with
      | none => rfl
      | some p => simp only [Option.bind_some]; cases x.ev G p.1 <;> rfl
    · rfl
  · rename_i h
    cases hc : c.ev G e with
    | none => rfl
    | some a => cases a with
      | v x => cases x <;> first | rfl | exact absurd hc (h _)
      | _ => rfl
theorem run_gif (c : Opd) (w : Bool) (sub : List Item) : Item.run G raw bs (.gif c w sub) e st = (bOf (c.ev G e)).bind fun b => if b = w then Item.runs G raw bs sub e st else some (e, st) := by
  simp only [Item.run]
  split
  · rename_i b h; rw [h]; rfl
  · rename_i h
    cases hc : c.ev G e with
    | none => rfl
    | some a => cases a with
      | v x => cases x <;> first | rfl | exact absurd hc (h _)
      | _ => rfl
def seqK (k : Env → Store → Option (Sig × Env × Store)) : Sig × Env × Store → Option (Sig × Env × Store)
  | (.norm, e, st) => k e st
  | r => some r
def blkK (bs : List Nat) (n0 id : Nat) (live : List Nat) : Sig × Env × Store → Sig × Env × Store
  | (.norm, e, st) => (.norm, compact bs n0 live e st)
  | (.exit i, e, st) => if i = id then (.norm, compact bs n0 live e st) else (.exit i, e, st)
  | r => r
theorem seqK_norm (k : Env → Store → Option (Sig × Env × Store)) (e : Env) (st : Store) : seqK k (.norm, e, st) = k e st := rfl
theorem seqK_exit (k : Env → Store → Option (Sig × Env × Store)) (i : Nat) (e : Env) (st : Store) : seqK k (.exit i, e, st) = some (.exit i, e, st) := rfl
theorem seqK_ret (k : Env → Store → Option (Sig × Env × Store)) (e : Env) (st : Store) : seqK k (.ret, e, st) = some (.ret, e, st) := rfl
theorem blkK_norm (bs : List Nat) (n0 id : Nat) (live : List Nat) (e : Env) (st : Store) : blkK bs n0 id live (.norm, e, st) = (.norm, compact bs n0 live e st) := rfl
theorem blkK_exit (bs : List Nat) (n0 id : Nat) (live : List Nat) (i : Nat) (e : Env) (st : Store) : blkK bs n0 id live (.exit i, e, st) = if i = id then (.norm, compact bs n0 live e st) else (.exit i, e, st) := rfl
theorem blkK_ret (bs : List Nat) (n0 id : Nat) (live : List Nat) (e : Env) (st : Store) : blkK bs n0 id live (.ret, e, st) = (.ret, e, st) := rfl
theorem runL_skip : IR.runL G raw bs .skip e st = some (.norm, e, st) := rfl
theorem runL_exit (i : Nat) (live : List Nat) : IR.runL G raw bs (.exit i live) e st = some (.exit i, e.keep live, st) := rfl
theorem runL_ret (live : List Nat) : IR.runL G raw bs (.ret live) e st = some (.ret, e.keep live, st) := rfl
theorem runL_items (l : List Item) : IR.runL G raw bs (.items l) e st = (Item.runs G raw bs l e st).bind fun p => some (.norm, p.1, p.2) := by
  simp only [IR.runL]; cases Item.runs G raw bs l e st <;> rfl
theorem runL_seq (a b : IR) : IR.runL G raw bs (.seq a b) e st = (IR.runL G raw bs a e st).bind (seqK (IR.runL G raw bs b)) := by
  simp only [IR.runL]
  cases h : IR.runL G raw bs a e st with
  | none => rfl
  | some r => obtain ⟨s, e', st'⟩ := r; cases s <;> rfl
theorem runL_cond (c : Opd) (a b : IR) : IR.runL G raw bs (.cond c a b) e st = (bOf (c.ev G e)).bind fun t => if t = true then IR.runL G raw bs a e st else IR.runL G raw bs b e st := by
  simp only [IR.runL]
  split
  · rename_i b h; rw [h]; rfl
  · rename_i h
    cases hc : c.ev G e with
    | none => rfl
    | some a => cases a with
      | v x => cases x <;> first | rfl | exact absurd hc (h _)
      | _ => rfl
theorem runL_block (id : Nat) (live : List Nat) (b : IR) : IR.runL G raw bs (.block id live b) e st = (IR.runL G raw bs b e st).bind fun r => some (blkK bs st.length id live r) := by
  simp only [IR.runL]
  cases h : IR.runL G raw bs b e st with
  | none => rfl
  | some r =>
    obtain ⟨s, e', st'⟩ := r
    cases s with
    | exit i => simp only [Option.bind_some, blkK]; split <;> rfl
    | _ => rfl
theorem iterL_bind (body : Env → Store → Option (Sig × Env × Store)) (cp : Env → Store → Env × Store) (e : Env) (st : Store) : iterL body cp e st = (body (cp e st).1 (cp e st).2).bind (seqK (iterL body cp)) := by
  rw [iterL_eq]
  cases h : body (cp e st).1 (cp e st).2 with
  | none => rfl
  | some r => obtain ⟨s, e', st'⟩ := r; cases s <;> rfl
noncomputable def loopL (body : Env → Store → Option (Sig × Env × Store)) (cp : Env → Store → Env × Store) (p : Env × Store) : Option (Sig × Env × Store) := (body p.1 p.2).bind (seqK (iterL body cp))
theorem iterL_loop (body : Env → Store → Option (Sig × Env × Store)) (cp : Env → Store → Env × Store) (e : Env) (st : Store) : iterL body cp e st = loopL body cp (cp e st) := iterL_bind body cp e st
theorem loopL_eq (body : Env → Store → Option (Sig × Env × Store)) (cp : Env → Store → Env × Store) (e : Env) (st : Store) : loopL body cp (e, st) = (body e st).bind (seqK fun e st => loopL body cp (cp e st)) := by
  unfold loopL
  congr 1
  funext r
  obtain ⟨s, e', st'⟩ := r
  cases s with
  | norm => exact iterL_loop body cp e' st'
  | exit i => rfl
  | ret => rfl
theorem runL_loop (live : List Nat) (b : IR) : IR.runL G raw bs (.loop live b) e st = loopL (IR.runL G raw bs b) (compact bs st.length live) (compact bs st.length live e st) := iterL_loop _ _ _ _
def fnOf : Option AV → Option (Nat × List AV)
  | some (.fn f caps) => some (f, caps)
  | _ => none
theorem fnOf_s (f : Nat) (caps : List AV) : fnOf (some (.fn f caps)) = some (f, caps) := rfl
theorem getL_nil : getL e [] = some [] := rfl
theorem getL_cons (t : Nat) (ts : List Nat) : getL e (t :: ts) = (e.get t).bind fun a => (getL e ts).bind fun l => some (a :: l) := by
  simp only [getL]
  cases e.get t with
  | none => rfl
  | some a => simp only [Option.bind_some]; cases getL e ts <;> rfl
theorem runL_rfn (g : Opd) (k : Nat) (vars live : List Nat) : IR.runL G raw bs (.rfn g k vars live) e st =
    (fnOf (g.ev G e)).bind fun fc => (getL e vars).bind fun env => (callM raw .N (.fn fc.1 fc.2) [.yl st.length] bs (st ++ [.loop k env .rdy])).bind fun q => rfnK bs st.length k live e q.2 := by
  simp only [IR.runL]
  split
  · rename_i f caps h
    rw [h]
    simp only [fnOf, Option.bind_some]
    cases getL e vars with
    | none => rfl
    | some env => simp only [Option.bind_some]; cases callM raw .N (.fn f caps) [.yl st.length] bs (st ++ [.loop k env .rdy]) <;> rfl
  · rename_i h
    cases hg : g.ev G e with
    | none => rfl
    | some a => cases a <;> first | rfl | exact absurd hg (h _ _)
def lsS : LS → Option Sig
  | .rdy => some .norm
  | .done n => some (sigOf n)
  | _ => none
theorem lsS_rdy : lsS .rdy = some .norm := rfl
theorem lsS_done (n : Nat) : lsS (.done n) = some (sigOf n) := rfl
def loopS : Option Ob → Option (List AV × LS)
  | some (.loop _ env s) => some (env, s)
  | _ => none
theorem loopS_s (k : Nat) (env : List AV) (s : LS) : loopS (some (.loop k env s)) = some (env, s) := rfl
theorem rfnK_eq (n0 k : Nat) (live : List Nat) (st2 : Store) : rfnK bs n0 k live e st2 = (loopS st2[n0]?).bind fun p => (lsS p.2).bind fun s => some (s, compact bs n0 live e (st2.set n0 (.loop k p.1 .over))) := by
  unfold rfnK
  split
  · rename_i env s h
    rw [h]
    cases s <;> rfl
  · rename_i h
    cases hq : st2[n0]? with
    | none => rfl
    | some ob => cases ob <;> first | rfl | exact absurd hq (h _ _ _)
theorem bindEnv_nil (l : List AV) : bindEnv [] l = [] := rfl
theorem bindEnv_cons (t : Nat) (ts : List Nat) (a : AV) (l : List AV) : bindEnv (t :: ts) (a :: l) = (t, a) :: bindEnv ts l := rfl
def rdyS : Option Ob → Option (Nat × List AV)
  | some (.loop k env .rdy) => some (k, env)
  | _ => none
theorem rdyS_s (k : Nat) (env : List AV) : rdyS (some (.loop k env .rdy)) = some (k, env) := rfl
def busyS : Option Ob → Option (List AV)
  | some (.loop _ env .busy) => some env
  | _ => none
theorem busyS_s (k : Nat) (env : List AV) : busyS (some (.loop k env .busy)) = some env := rfl
def yAns (id k : Nat) : AV × Store → Option (AV × Store)
  | (.v (.int .i64 n), st) => (busyS st[id]?).bind fun env => if 0 ≤ n then some (.v (.bool (decide (n = 0))), st.set id (.loop k env (if n = 0 then .rdy else .done n.toNat))) else none
  | _ => none
theorem yAns_v (id k : Nat) (n : Int) (st : Store) : yAns id k (.v (.int .i64 n), st) = (busyS st[id]?).bind fun env => if 0 ≤ n then some (.v (.bool (decide (n = 0))), st.set id (.loop k env (if n = 0 then .rdy else .done n.toNat))) else none := rfl
theorem callY_eq (id : Nat) (l : List AV) : callM raw .N (.yl id) l [] st = (rdyS st[id]?).bind fun p => (raw p.1 (l ++ p.2) [] (st.set id (.loop p.1 p.2 .busy))).bind (yAns id p.1) := by
  simp only [callM, List.isEmpty_nil, if_true]
  split
  · rename_i k env h
    rw [h]
    simp only [rdyS, Option.bind_some]
    cases raw k (l ++ env) [] (st.set id (.loop k env .busy)) with
    | none => rfl
    | some q =>
      obtain ⟨a, st2⟩ := q
      simp only [Option.bind_some]
      cases a <;> first | rfl | skip
      rename_i x
      cases x <;> first | rfl | skip
      rename_i kk n
      cases kk <;> first | rfl | skip
      simp only [yAns]
      split
      · rename_i h2; rw [h2]; rfl
      · rename_i h2
        cases hq : st2[id]? with
        | none => rfl
        | some ob => cases ob <;> first | rfl | skip
                     rename_i k2 e2 s2
                     cases s2 <;> first | rfl | exact absurd hq (h2 _ _)
  · rename_i h
    cases hq : st[id]? with
    | none => rfl
    | some ob => cases ob <;> first | rfl | skip
                 rename_i k2 e2 s2
                 cases s2 <;> first | rfl | exact absurd hq (h _ _)
def finK (rs : List RV) : Sig × Env × Store → Option (AV × Store)
  | (.exit _, _, _) => none
  | (_, e, st) => (RV.evs st e rs).bind fun l => some (tupOf l, st)
theorem fin_bind (rs : List RV) (x : Option (Sig × Env × Store)) : fin rs x = x.bind (finK rs) := by
  cases x with
  | none => rfl
  | some r =>
    obtain ⟨s, e', st'⟩ := r
    cases s <;> simp only [fin, finK, Option.bind_some] <;> cases RV.evs st' e' rs <;> rfl
theorem finK_norm (rs : List RV) (e : Env) (st : Store) : finK rs (.norm, e, st) = (RV.evs st e rs).bind fun l => some (tupOf l, st) := rfl
theorem finK_ret (rs : List RV) (e : Env) (st : Store) : finK rs (.ret, e, st) = (RV.evs st e rs).bind fun l => some (tupOf l, st) := rfl
theorem rvs_nil : RV.evs st e [] = some [] := rfl
theorem rvs_cons (r : RV) (l : List RV) : RV.evs st e (r :: l) = (r.ev st e).bind fun a => (RV.evs st e l).bind fun az => some (a :: az) := by
  simp only [RV.evs]; cases r.ev st e with
  | none => rfl
  | some a => cases RV.evs st e l <;> rfl
theorem rv_tmp (t : Nat) : RV.ev st e (.tmp t) = e.get t := rfl
theorem rv_cell (t : Nat) (n : Option Nat) : RV.ev st e (.cell t n) = (e.get t).bind fun a => (ldAt st a).bind fun cs => aggOf n cs := by
  simp only [RV.ev]; cases e.get t with
  | none => rfl
  | some a => simp only [Option.bind_some]; cases ldAt st a <;> rfl
theorem tupOf_one (a : AV) : tupOf [a] = a := rfl
theorem tupOf_nil : tupOf [] = .tup [] := rfl
theorem tupOf_two (a b : AV) (l : List AV) : tupOf (a :: b :: l) = .tup (a :: b :: l) := rfl
theorem ev_mov (x : Opd) : Prim.ev G bs e st (.mov x) = (x.ev G e).bind fun a => some (a, st) := by
  simp only [Prim.ev]; cases x.ev G e <;> rfl
theorem ev_pick (c a b : Opd) : Prim.ev G bs e st (.pick c a b) = (bOf (c.ev G e)).bind fun t => ((if t = true then a else b).ev G e).bind fun r => some (r, st) := by
  simp only [Prim.ev]
  split
  · rename_i t h; rw [h]; simp only [bOf_s, Option.bind_some]; cases (if t = true then a else b).ev G e <;> rfl
  · rename_i h
    cases hc : c.ev G e with
    | none => rfl
    | some a => cases a with
      | v x => cases x <;> first | rfl | exact absurd hc (h _)
      | _ => rfl
theorem ev_alloc (zs : List AV) : Prim.ev G bs e st (.alloc zs) = some (.ref st.length 0 0 0, st ++ [.box zs]) := rfl
theorem ev_box (x : Opd) : Prim.ev G bs e st (.box x) = (x.ev G e).bind fun a => if a.tuple = true then none else some (.ref st.length 0 0 0, st ++ [.box a.cells]) := by
  simp only [Prim.ev]; cases x.ev G e <;> rfl
theorem ev_build (z : List AV) (ps : List (Nat × Nat × Opd)) : Prim.ev G bs e st (.build z ps) = (evParts G e z.length ps).bind fun l => some (.agg (fills z l), st) := by
  simp only [Prim.ev]; cases evParts G e z.length ps <;> rfl
theorem parts_nil (n : Nat) : evParts G e n [] = some [] := rfl
theorem parts_cons (n o k : Nat) (x : Opd) (r : List (Nat × Nat × Opd)) : evParts G e n ((o, k, x) :: r) = (x.ev G e).bind fun a => if a.cells.length = k ∧ o + k ≤ n ∧ a.tuple = false then (evParts G e n r).bind fun l => some ((o, a.cells) :: l) else none := by
  simp only [evParts]; cases x.ev G e with
  | none => rfl
  | some a => simp only [Option.bind_some]; split <;> first | rfl | (cases evParts G e n r <;> rfl)
theorem fills_nil (cs : List AV) : fills cs [] = cs := rfl
theorem fills_cons (cs : List AV) (o : Nat) (l : List AV) (r : List (Nat × List AV)) : fills cs ((o, l) :: r) = fills (cs.take o ++ l ++ cs.drop (o + l.length)) r := rfl
theorem ev_bsl (k : Nat) (ps : List Opd) : Prim.ev G bs e st (.bsl false k ps) = (Opd.evs G e ps).bind fun az => if (az.all fun a => a.cells.length == k && !a.tuple) = true then some (.sl k (az.map AV.cells), st) else none := by
  simp only [Prim.ev]; cases Opd.evs G e ps <;> rfl
theorem ev_bslo (k : Nat) (ps : List Opd) : Prim.ev G bs e st (.bsl true k ps) = (Opd.evs G e ps).bind fun az => if (az.all fun a => a.cells.length == k && !a.tuple) = true then some (.own st.length 0 0 az.length, st ++ [.row k 0 (az.map AV.cells) false]) else none := by
  simp only [Prim.ev]; cases Opd.evs G e ps <;> rfl
theorem ev_load (n : Option Nat) (p : Opd) : Prim.ev G bs e st (.load n p) = (p.ev G e).bind fun a => (ldAt st a).bind fun cs => (aggOf n cs).bind fun r => some (r, st) := by
  simp only [Prim.ev]; cases p.ev G e with
  | none => rfl
  | some a => simp only [Option.bind_some]; cases ldAt st a with
    | none => rfl
    | some cs => simp only [Option.bind_some]; cases aggOf n cs <;> rfl
theorem ev_store (n : Nat) (p x : Opd) : Prim.ev G bs e st (.store n p x) = (p.ev G e).bind fun a => (x.ev G e).bind fun b => if b.tuple = true then none else (stAt bs st n b.cells a).bind fun st' => some (.tup [], st') := by
  simp only [Prim.ev]; cases p.ev G e with
  | none => rfl
  | some a => cases x.ev G e with
    | none => rfl
    | some b => simp only [Option.bind_some]; split <;> first | rfl | (cases stAt bs st n b.cells a <;> rfl)
def nilckF (st : Store) : AV → Option AV
  | .ref id g i o => if liveRef st id g = true then some (.ref id g i o) else none
  | .rop cs => some (.rop cs)
  | .fn f cs => some (.fn f cs)
  | _ => none
theorem ev_nilck (x : Opd) : Prim.ev G bs e st (.nilck x) = (x.ev G e).bind fun a => (nilckF st a).bind fun r => some (r, st) := by
  simp only [Prim.ev]; cases x.ev G e with
  | none => rfl
  | some a => cases a <;> simp only [nilckF, Option.bind_some, Option.bind_none] <;> first | rfl | (split <;> rfl)
theorem ev_bin (op : BinOp) (x y : Opd) : Prim.ev G bs e st (.bin op x y) = (pvOf (x.ev G e)).bind fun a => (pvOf (y.ev G e)).bind fun b => (binV op a b).bind fun r => some (.v r, st) := by
  simp only [Prim.ev]
  cases x.ev G e with
  | none => rfl
  | some a => cases a with
    | v p => cases y.ev G e with
      | none => rfl
      | some b => cases b with
        | v q => simp only [pvOf_s, Option.bind_some]; cases binV op p q <;> rfl
        | _ => rfl
    | _ => rfl
theorem ev_binb (op : BinOp) (x y : Opd) : Prim.ev G bs e st (.binb op x y) = (bOf (x.ev G e)).bind fun a => (bOf (y.ev G e)).bind fun b => (binB op a b).bind fun r => some (.v r, st) := by
  simp only [Prim.ev]
  split
  · rename_i p h; rw [h]
    split
    · rename_i q k; rw [k]; simp only [bOf_s, Option.bind_some]; cases binB op p q <;> rfl
    · rename_i h
      cases hc : y.ev G e with
      | none => rfl
      | some a => cases a with
        | v x => cases x <;> first | rfl | exact absurd hc (h _)
        | _ => rfl
  · rename_i h
    cases hc : x.ev G e with
    | none => rfl
    | some a => cases a with
      | v x => cases x <;> first | rfl | exact absurd hc (h _)
      | _ => rfl
theorem ev_aeq (neg : Bool) (ks : List TK) (x y : Opd) : Prim.ev G bs e st (.aeq neg ks x y) = (agOf (x.ev G e)).bind fun a => (agOf (y.ev G e)).bind fun b => (eqL ks a b).bind fun r => some (.v (.bool (if neg then !r else r)), st) := by
  simp only [Prim.ev]
  cases x.ev G e with
  | none => rfl
  | some a => cases a with
    | agg p => cases y.ev G e with
      | none => rfl
      | some b => cases b with
        | agg q => simp only [agOf_s, Option.bind_some]; cases eqL ks p q <;> rfl
        | _ => rfl
    | _ => rfl
theorem ev_un (op : UnOp) (x : Opd) : Prim.ev G bs e st (.un op x) = (pvOf (x.ev G e)).bind fun a => (unV op a).bind fun r => some (.v r, st) := by
  simp only [Prim.ev]
  cases x.ev G e with
  | none => rfl
  | some a => cases a with
    | v p => simp only [pvOf_s, Option.bind_some]; cases unV op p <;> rfl
    | _ => rfl
def nilIF (neg : Bool) : AV → Option AV
  | .v .nilIface => some (.v (.bool !neg))
  | .ifc => some (.v (.bool neg))
  | _ => none
theorem ev_isnilI (neg : Bool) (x : Opd) : Prim.ev G bs e st (.isnilI neg x) = (x.ev G e).bind fun a => (nilIF neg a).bind fun r => some (r, st) := by
  simp only [Prim.ev]
  cases x.ev G e with
  | none => rfl
  | some a => cases a with
    | v p => cases p <;> rfl
    | _ => rfl
theorem ev_i2t (x : Opd) : Prim.ev G bs e st (.i2t x) = (iOf (x.ev G e)).bind fun n => some (.v (.string (Utf8.encode n)), st) := by
  simp only [Prim.ev]
  cases x.ev G e with
  | none => rfl
  | some a => cases a with
    | v p => cases p <;> rfl
    | _ => rfl
theorem ev_i2i (k : IntKind) (x : Opd) : Prim.ev G bs e st (.i2i k x) = (iOf (x.ev G e)).bind fun n => some (.v (.int k (k.wrap n)), st) := by
  simp only [Prim.ev]
  cases x.ev G e with
  | none => rfl
  | some a => cases a with
    | v p => cases p <;> rfl
    | _ => rfl
theorem ev_s2b (x : Opd) : Prim.ev G bs e st (.s2b x) = (sOf (x.ev G e)).bind fun s => some (.sl 1 (s.data.toList.map fun b => [.v (.int .u8 b.toNat)]), st) := by
  simp only [Prim.ev]
  cases x.ev G e with
  | none => rfl
  | some a => cases a with
    | v p => cases p <;> rfl
    | _ => rfl
theorem ev_ext (i : Nat) (x : Opd) : Prim.ev G bs e st (.ext i x) = (tpOf (x.ev G e)).bind fun cs => (cs[i]?).bind fun a => some (a, st) := by
  simp only [Prim.ev]
  cases x.ev G e with
  | none => rfl
  | some a => cases a with
    | tup p => simp only [tpOf_s, Option.bind_some]; cases p[i]? <;> rfl
    | _ => rfl
theorem ev_fld (off : Nat) (n : Option Nat) (x : Opd) : Prim.ev G bs e st (.fld off n x) = (agOf (x.ev G e)).bind fun cs => (aggOf n (cs.drop off)).bind fun a => some (a, st) := by
  simp only [Prim.ev]
  cases x.ev G e with
  | none => rfl
  | some a => cases a with
    | agg p => simp only [agOf_s, Option.bind_some]; cases aggOf n (p.drop off) <;> rfl
    | _ => rfl
def byteAt (s : ByteArray) (n : Int) : Option Int := if h : 0 ≤ n ∧ n.toNat < s.size then some (s[n.toNat]'h.2).toNat else none
theorem ev_idxs (x i : Opd) : Prim.ev G bs e st (.idxs x i) = (sOf (x.ev G e)).bind fun s => (iOf (i.ev G e)).bind fun n => (byteAt s n).bind fun b => some (.v (.int .u8 b), st) := by
  simp only [Prim.ev]
  cases x.ev G e with
  | none => rfl
  | some a => cases a with
    | v p => cases p with
      | string s => cases i.ev G e with
        | none => rfl
        | some b => cases b with
          | v q => cases q with
            | int k n => simp only [sOf_s, iOf_s, Option.bind_some, byteAt]; split <;> rfl
            | _ => rfl
          | _ => rfl
      | _ => rfl
    | _ => rfl
def faF (st : Store) (off : Nat) : AV → Option AV
  | .rop cs => some (.rop (cs.drop off))
  | .ref id g i o => if liveRef st id g = true then some (.ref id g i (o + off)) else none
  | _ => none
theorem ev_fa (off : Nat) (p : Opd) : Prim.ev G bs e st (.fa off p) = (p.ev G e).bind fun a => (faF st off a).bind fun r => some (r, st) := by
  simp only [Prim.ev]; cases p.ev G e with
  | none => rfl
  | some a => cases a <;> simp only [faF, Option.bind_some, Option.bind_none] <;> first | rfl | (split <;> rfl)
def iasF (st : Store) (k : Nat) (j : Int) (a : AV) : Option AV :=
  if 0 ≤ j then (match a with
    | .sl k' xs => if k' = k then (xs[j.toNat]?).bind fun c => some (.rop c) else none
    | .own id gen off ln => match st[id]? with
      | some (.row k' g xs _) => if k' = k ∧ g = gen ∧ j.toNat < ln then some (.ref id gen (off + j.toNat) 0) else none
      | _ => none
    | _ => none) else none
theorem ev_ias (k : Nat) (x i : Opd) : Prim.ev G bs e st (.ias k x i) = (x.ev G e).bind fun a => (iOf (i.ev G e)).bind fun j => (iasF st k j a).bind fun r => some (r, st) := by
  simp only [Prim.ev]; cases x.ev G e with
  | none => rfl
  | some a => cases i.ev G e with
    | none => rfl
    | some b => cases b with
      | v q => cases q with
        | int kk j =>
          simp only [iOf_s, Option.bind_some, iasF]
          split
          · cases a with
            | sl k' xs => dsimp only; split <;> first | rfl | (cases xs[j.toNat]? <;> rfl)
            | own id gen off ln =>
              dsimp only
              cases st[id]? with
              | none => rfl
              | some ob => cases ob with
                | row k' g xs nw => dsimp only; split <;> rfl
                | _ => rfl
            | _ => rfl
          · rfl
        | _ => rfl
      | _ => rfl
theorem ev_len (x : Opd) : Prim.ev G bs e st (.len x) = (x.ev G e).bind fun a => (lenAV st a).bind fun n => some (.v (.int .i64 n), st) := by
  simp only [Prim.ev]; cases x.ev G e with
  | none => rfl
  | some a => simp only [Option.bind_some]; cases lenAV st a <;> rfl
theorem ev_lens (x : Opd) : Prim.ev G bs e st (.lens x) = (sOf (x.ev G e)).bind fun s => some (.v (.int .i64 s.size), st) := by
  simp only [Prim.ev]
  cases x.ev G e with
  | none => rfl
  | some a => cases a with
    | v p => cases p <;> rfl
    | _ => rfl
theorem ev_s2s (x : Opd) : Prim.ev G bs e st (.s2s x) = (sOf (x.ev G e)).bind fun s => some (.v (.string s), st) := by
  simp only [Prim.ev]
  cases x.ev G e with
  | none => rfl
  | some a => cases a with
    | v p => cases p <;> rfl
    | _ => rfl
theorem ev_mkf (f : Nat) (caps : List Opd) : Prim.ev G bs e st (.mkf f caps) = (Opd.evs G e caps).bind fun l => some (.fn f l, st) := by
  simp only [Prim.ev]; cases Opd.evs G e caps <;> rfl
theorem ev_mn (xs : List Opd) : Prim.ev G bs e st (.mn xs) = (Opd.evs G e xs).bind fun l => (vals l).bind fun vs => (minV vs).bind fun r => some (.v r, st) := by
  simp only [Prim.ev]; cases Opd.evs G e xs with
  | none => rfl
  | some l => simp only [Option.bind_some]; cases vals l with
    | none => rfl
    | some vs => simp only [Option.bind_some]; cases minV vs <;> rfl
theorem ev_mx (xs : List Opd) : Prim.ev G bs e st (.mx xs) = (Opd.evs G e xs).bind fun l => (vals l).bind fun vs => (maxV vs).bind fun r => some (.v r, st) := by
  simp only [Prim.ev]; cases Opd.evs G e xs with
  | none => rfl
  | some l => simp only [Option.bind_some]; cases vals l with
    | none => rfl
    | some vs => simp only [Option.bind_some]; cases maxV vs <;> rfl
def isnilsF (st : Store) (neg : Bool) : AV → Option Bool
  | .v (.slice none 0 0) => some (!neg)
  | .sl _ _ => some neg
  | .own id g _ _ => match st[id]? with
    | some (.row _ g' _ _) => if g' = g then some neg else none
    | _ => none
  | _ => none
theorem ev_isnils (neg : Bool) (x : Opd) : Prim.ev G bs e st (.isnils neg x) = (x.ev G e).bind fun a => (isnilsF st neg a).bind fun b => some (.v (.bool b), st) := by
  simp only [Prim.ev]
  cases x.ev G e with
  | none => rfl
  | some a => cases a with
    | v p =>
      simp only [Option.bind_some, isnilsF]
      cases p with
      | slice ad n c => cases ad with
        | none => cases n with
          | zero => cases c <;> rfl
          | succ n => rfl
        | some ad => rfl
      | _ => rfl
    | own id g o n =>
      simp only [Option.bind_some, isnilsF]
      cases st[id]? with
      | none => rfl
      | some ob => cases ob with
        | row k g' xs nw => dsimp only; split <;> rfl
        | _ => rfl
    | _ => rfl
theorem ev_sls (x : Opd) (lo hi : Option Opd) : Prim.ev G bs e st (.sls x lo hi) = (sOf (x.ev G e)).bind fun s => (Opd.evo G e lo).bind fun l => (Opd.evo G e hi).bind fun h =>
    if (l.all fun z => (intOf z).isSome) = true ∧ (h.all fun z => (intOf z).isSome) = true ∧ 0 ≤ aszI (h.bind intOf) s.size ∧ aszI (h.bind intOf) s.size ≤ s.size ∧ 0 ≤ aszI (l.bind intOf) 0 ∧ aszI (l.bind intOf) 0 ≤ aszI (h.bind intOf) s.size then
      some (.v (.string (s.extract (aszI (l.bind intOf) 0).toNat (aszI (h.bind intOf) s.size).toNat)), st) else none := by
  simp only [Prim.ev]
  cases x.ev G e with
  | none => rfl
  | some a => cases a with
    | v p => cases p with
      | string s => simp only [sOf_s, Option.bind_some]; cases Opd.evo G e lo with
        | none => rfl
        | some l => simp only [Option.bind_some]; cases Opd.evo G e hi <;> rfl
      | _ => rfl
    | _ => rfl
theorem evo_none : Opd.evo G e none = some none := rfl
theorem evo_some (x : Opd) : Opd.evo G e (some x) = (x.ev G e).bind fun a => some (some a) := by
  simp only [Opd.evo]; cases x.ev G e <;> rfl
def slxF (st : Store) (k : Nat) (z : AV) (a b : Int) : Option AV :=
  match z with
  | .sl k' xs => if k' = k then some (.sl k ((xs.drop a.toNat).take (b.toNat - a.toNat))) else none
  | .own id gen off ln => match st[id]? with
    | some (.row k' g _ _) => if k' = k ∧ g = gen then some (.own id gen (off + a.toNat) (b.toNat - a.toNat)) else none
    | _ => none
  | .v (.slice none 0 0) => some (.v (.slice none 0 0))
  | _ => none
theorem ev_slx (k : Nat) (x : Opd) (lo hi : Option Opd) : Prim.ev G bs e st (.slx k x lo hi) = (x.ev G e).bind fun z => (Opd.evo G e lo).bind fun l => (Opd.evo G e hi).bind fun h => (lenAV st z).bind fun n =>
    if (l.all fun z => (intOf z).isSome) = true ∧ (h.all fun z => (intOf z).isSome) = true ∧ 0 ≤ aszI (h.bind intOf) n ∧ aszI (h.bind intOf) n ≤ n ∧ 0 ≤ aszI (l.bind intOf) 0 ∧ aszI (l.bind intOf) 0 ≤ aszI (h.bind intOf) n then
      (slxF st k z (aszI (l.bind intOf) 0) (aszI (h.bind intOf) n)).bind fun r => some (r, st) else none := by
  simp only [Prim.ev]
  cases x.ev G e with
  | none => rfl
  | some z => simp only [Option.bind_some]; cases Opd.evo G e lo with
    | none => rfl
    | some l => simp only [Option.bind_some]; cases Opd.evo G e hi with
      | none => rfl
      | some h => simp only [Option.bind_some]; cases lenAV st z with
        | none => rfl
        | some n =>
          simp only [Option.bind_some]
          split
          · cases z with
            | v p =>
              simp only [slxF]
              cases p with
              | slice ad n c => cases ad with
                | none => cases n with
                  | zero => cases c <;> rfl
                  | succ n => rfl
                | some ad => rfl
              | _ => rfl
            | sl k' xs => simp only [slxF]; split <;> rfl
            | own id g o n =>
              simp only [slxF]
              cases st[id]? with
              | none => rfl
              | some ob => cases ob with
                | row k g' xs nw => dsimp only; split <;> rfl
                | _ => rfl
            | _ => rfl
          · rfl
theorem ev_rng (x : Opd) : Prim.ev G bs e st (.rng x) = (sOf (x.ev G e)).bind fun s => some (.it st.length, st ++ [.sit s 0]) := by
  simp only [Prim.ev]
  cases x.ev G e with
  | none => rfl
  | some a => cases a with
    | v p => cases p <;> rfl
    | _ => rfl
def nxtF (st : Store) : AV → Option (AV × Store)
  | .it id => match st[id]? with
    | some (.sit s pos) => if pos < s.size then
        some (.tup [.v (.bool true), .v (.int .i64 pos), .v (.int .i32 (Utf8.decode s pos).1)], st.set id (.sit s (pos + (Utf8.decode s pos).2)))
      else some (.tup [.v (.bool false)], st)
    | _ => none
  | _ => none
theorem ev_nxt (x : Opd) : Prim.ev G bs e st (.nxt x) = (x.ev G e).bind fun a => nxtF st a := by
  simp only [Prim.ev]; cases x.ev G e with
  | none => rfl
  | some a => cases a <;> rfl
def appF (bs : List Nat) (st : Store) (k bytes : Nat) (a : AV) (ys : List (List AV)) : Option (AV × Store) :=
  if (ys.all fun c => c.length == k) = true then (match a with
    | .v (.slice none 0 0) => if ys.length * bytes ≤ 140737488355328 then (if ys.length = 0 then some (.v (.slice none 0 0), st) else some (.own st.length 0 0 ys.length, st ++ [.row k 0 ys false])) else none
    | .own id gen off ln => match st[id]? with
      | some (.row k' g xs nw) => if k' = k ∧ g = gen ∧ off + ln ≤ xs.length ∧ (nw = true → off + ln = xs.length) ∧ (ln + ys.length) * bytes ≤ 140737488355328 ∧ okSt bs id ys.flatten = true then
          some (.own id (gen + 1) 0 (ln + ys.length), st.set id (.row k (gen + 1) ((xs.drop off).take ln ++ ys) nw)) else none
      | _ => none
    | _ => none) else none
theorem ev_app (k bytes : Nat) (x y : Opd) : Prim.ev G bs e st (.app k bytes x y) = (x.ev G e).bind fun a => (y.ev G e).bind fun b => (elems st b).bind fun ys => appF bs st k bytes a ys := by
  simp only [Prim.ev]; cases x.ev G e with
  | none => rfl
  | some a => cases y.ev G e with
    | none => rfl
    | some b => simp only [Option.bind_some]; cases elems st b <;> rfl
end
section
variable {G : Nat → Option (List AV)} {bs : List Nat} {e : Env} {st : Store}
def mpOf : Option AV → Option Nat
  | some (.mp id) => some id
  | _ => none
theorem mpOf_s (id : Nat) : mpOf (some (.mp id)) = some id := rfl
def mapAt : Option Ob → Option (List (Value × AV))
  | some (.map es) => some es
  | _ => none
theorem mapAt_s (es : List (Value × AV)) : mapAt (some (.map es)) = some es := rfl
def isnilmF (st : Store) (neg : Bool) : AV → Option Bool
  | .v (.map none) => some (!neg)
  | .mp id => match st[id]? with
    | some (.map _) => some neg
    | _ => none
  | _ => none
theorem mapOf_nil : mapOf st (.v (.map none)) = some [] := rfl
theorem mapOf_mp (id : Nat) : mapOf st (.mp id) = mapAt st[id]? := by
  simp only [mapOf]
  cases st[id]? with
  | none => rfl
  | some ob => cases ob <;> rfl
theorem isnilm_nil (neg : Bool) : isnilmF st neg (.v (.map none)) = some (!neg) := rfl
theorem isnilm_mp (neg : Bool) (id : Nat) : isnilmF st neg (.mp id) = (mapAt st[id]?).bind fun _ => some neg := by
  simp only [isnilmF]
  cases st[id]? with
  | none => rfl
  | some ob => cases ob <;> rfl
theorem ev_mkm : Prim.ev G bs e st .mkm = some (.mp st.length, st ++ [.map []]) := rfl
theorem ev_lk (t : TK) (ok : Bool) (z : AV) (m k : Opd) : Prim.ev G bs e st (.lk t ok z m k) =
    (m.ev G e).bind fun a => (pvOf (k.ev G e)).bind fun kv => (mapOf st a).bind fun es => (mfind t kv es).bind fun r => some (lkR ok z r, st) := by
  simp only [Prim.ev]
  cases m.ev G e with
  | none => rfl
  | some a =>
    simp only [Option.bind_some]
    cases k.ev G e with
    | none => rfl
    | some kv => cases kv with
      | v kv =>
        simp only [pvOf_s, Option.bind_some]
        cases mapOf st a with
        | none => rfl
        | some es => simp only [Option.bind_some]; cases mfind t kv es <;> rfl
      | _ => rfl
theorem ev_mup (t : TK) (m k x : Opd) : Prim.ev G bs e st (.mup t m k x) =
    (mpOf (m.ev G e)).bind fun id => (pvOf (k.ev G e)).bind fun kv => (x.ev G e).bind fun b => if b.tuple = false ∧ okSt bs id [b] = true ∧ eqV t kv kv = some true then
      (mapAt st[id]?).bind fun es => (mput t kv b es).bind fun es' => some (.tup [], st.set id (.map es')) else none := by
  simp only [Prim.ev]
  cases m.ev G e with
  | none => rfl
  | some a => cases a with
    | mp id =>
      simp only [mpOf_s, Option.bind_some]
      cases k.ev G e with
      | none => rfl
      | some kv => cases kv with
        | v kv =>
          simp only [pvOf_s, Option.bind_some]
          cases x.ev G e with
          | none => rfl
          | some b =>
            simp only [Option.bind_some]
            split
            · cases st[id]? with
              | none => rfl
              | some ob => cases ob with
                | map es => simp only [mapAt_s, Option.bind_some]; cases mput t kv b es <;> rfl
                | _ => rfl
            · rfl
        | _ => rfl
    | _ => rfl
theorem ev_mdl (t : TK) (m k : Opd) : Prim.ev G bs e st (.mdl t m k) =
    (mpOf (m.ev G e)).bind fun id => (pvOf (k.ev G e)).bind fun kv => (mapAt st[id]?).bind fun es => (mdel t kv es).bind fun es' => some (.tup [], st.set id (.map es')) := by
  simp only [Prim.ev]
  cases m.ev G e with
  | none => rfl
  | some a => cases a with
    | mp id =>
      simp only [mpOf_s, Option.bind_some]
      cases k.ev G e with
      | none => rfl
      | some kv => cases kv with
        | v kv =>
          simp only [pvOf_s, Option.bind_some]
          cases st[id]? with
          | none => rfl
          | some ob => cases ob with
            | map es => simp only [mapAt_s, Option.bind_some]; cases mdel t kv es <;> rfl
            | _ => rfl
        | _ => rfl
    | _ => rfl
theorem ev_lenm (x : Opd) : Prim.ev G bs e st (.lenm x) = (x.ev G e).bind fun a => (mapOf st a).bind fun es => some (.v (.int .i64 es.length), st) := by
  simp only [Prim.ev]
  cases x.ev G e with
  | none => rfl
  | some a => simp only [Option.bind_some]; cases mapOf st a <;> rfl
theorem ev_isnilm (neg : Bool) (x : Opd) : Prim.ev G bs e st (.isnilm neg x) = (x.ev G e).bind fun a => (isnilmF st neg a).bind fun b => some (.v (.bool b), st) := by
  simp only [Prim.ev]
  cases x.ev G e with
  | none => rfl
  | some a => cases a with
    | v p =>
      simp only [Option.bind_some, isnilmF]
      cases p with
      | map b => cases b <;> rfl
      | _ => rfl
    | mp id =>
      simp only [Option.bind_some, isnilmF]
      cases st[id]? with
      | none => rfl
      | some ob => cases ob <;> rfl
    | _ => rfl
end
theorem gand_b (c : Prop) [Decidable c] (d : Nat) (e : Env) (st : Store) (x : Bool) :
    (if c then some ((d, AV.v (.bool x)) :: e, st) else some ((d, AV.v (.bool false)) :: e, st)) = some ((d, AV.v (.bool (decide c && x))) :: e, st) := by
  by_cases h : c <;> simp [h]
theorem gor_b (c : Prop) [Decidable c] (d : Nat) (e : Env) (st : Store) (x : Bool) :
    (if c then some ((d, AV.v (.bool true)) :: e, st) else some ((d, AV.v (.bool x)) :: e, st)) = some ((d, AV.v (.bool (decide c || x))) :: e, st) := by
  by_cases h : c <;> simp [h]
def snpF (st : Store) : AV → Option (AV × Store)
  | .own id gen off ln => match st[id]? with
    | some (.row k g xs nw) => if g = gen ∧ off + ln ≤ xs.length ∧ ross xs = true then some (.sl k ((xs.drop off).take ln), st.set id (.row k g xs true)) else none
    | _ => none
  | a => if a.ro then some (a, st) else none
theorem snp_own (st : Store) (id gen off ln : Nat) : snpF st (.own id gen off ln) = (match st[id]? with
    | some (.row k g xs nw) => if g = gen ∧ off + ln ≤ xs.length ∧ ross xs = true then some (.sl k ((xs.drop off).take ln), st.set id (.row k g xs true)) else none
    | _ => none) := rfl
theorem snp_v (st : Store) (x : Value) : snpF st (.v x) = some (.v x, st) := rfl
theorem ev_snp {G : Nat → Option (List AV)} {bs : List Nat} {e : Env} {st : Store} (x : Opd) : Prim.ev G bs e st (.snp x) = (x.ev G e).bind fun a => snpF st a := by
  simp only [Prim.ev]
  cases x.ev G e with
  | none => rfl
  | some a => cases a with
    | own id gen off ln =>
      simp only [Option.bind_some, snpF]
      cases st[id]? with
      | none => rfl
      | some ob => cases ob <;> rfl
    | _ => rfl
end Go.Proofs.YtoobogpbejdocaaDoor.Ev
