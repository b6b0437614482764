import Derived.Calls
import GoSem.Core.Utf8
set_option linter.unusedVariables false
set_option linter.unusedSectionVars false
set_option linter.unusedSimpArgs false
namespace Go.Proofs.YtoobogpbejdocaaGreatDoor.Ev
inductive AV where
  | v (x : Value)
  | agg (cs : List AV)
  | tup (cs : List AV)
  | sl (e : Nat) (xs : List (List AV))
  | rop (cs : List AV)
  | own (id gen off len : Nat)
  | ref (id gen i off : Nat)
  | fn (f : Nat) (caps : List AV)
  | mp (id : Nat)
  | it (id : Nat)
  | yl (id : Nat)
  | ifc
  deriving Inhabited
inductive LS where
  | rdy
  | busy
  | done (n : Nat)
  | over
  deriving Inhabited
inductive Ob where
  | box (cs : List AV)
  | row (e gen : Nat) (xs : List (List AV)) (nowr : Bool)
  | map (es : List (Value × AV))
  | sit (s : ByteArray) (pos : Nat)
  | loop (k : Nat) (env : List AV) (s : LS)
  deriving Inhabited
abbrev Store := List Ob
abbrev Env := List (Nat × AV)
def Env.get : Env → Nat → Option AV
  | [], _ => none
  | (k, a) :: r, i => if k = i then some a else Env.get r i
def Env.put (e : Env) : Option Nat → AV → Env
  | some d, a => (d, a) :: e
  | none, _ => e
def Env.keep (e : Env) : List Nat → Env
  | [] => []
  | i :: l => match e.get i with
    | some a => (i, a) :: Env.keep e l
    | none => Env.keep e l
def ofVal : Value → AV
  | .agg cs => .agg (cs.toList.map .v)
  | x => .v x
def AV.cells : AV → List AV
  | .agg cs => cs
  | a => [a]
def AV.tuple : AV → Bool
  | .tup _ => true
  | _ => false
mutual
def AV.under (n : Nat) : AV → Bool
  | .v _ => true
  | .agg cs => belows n cs
  | .tup cs => belows n cs
  | .sl _ xs => belowss n xs
  | .rop cs => belows n cs
  | .own id _ _ _ => decide (id < n)
  | .ref id _ _ _ => decide (id < n)
  | .fn _ caps => belows n caps
  | .mp id => decide (id < n)
  | .it id => decide (id < n)
  | .yl id => decide (id < n)
  | .ifc => true
def belows (n : Nat) : List AV → Bool
  | [] => true
  | a :: az => a.under n && belows n az
def belowss (n : Nat) : List (List AV) → Bool
  | [] => true
  | c :: cs => belows n c && belowss n cs
end
mutual
def AV.ids : AV → List Nat
  | .v _ => []
  | .agg cs => idss cs
  | .tup cs => idss cs
  | .sl _ xs => idsss xs
  | .rop cs => idss cs
  | .own id _ _ _ => [id]
  | .ref id _ _ _ => [id]
  | .fn _ caps => idss caps
  | .mp id => [id]
  | .it id => [id]
  | .yl id => [id]
  | .ifc => []
def idss : List AV → List Nat
  | [] => []
  | a :: az => a.ids ++ idss az
def idsss : List (List AV) → List Nat
  | [] => []
  | c :: cs => idss c ++ idsss cs
end
mutual
def AV.ren (ρ : Nat → Nat) : AV → AV
  | .v x => .v x
  | .agg cs => .agg (rens ρ cs)
  | .tup cs => .tup (rens ρ cs)
  | .sl e xs => .sl e (renss ρ xs)
  | .rop cs => .rop (rens ρ cs)
  | .own id gen off len => .own (ρ id) gen off len
  | .ref id gen i off => .ref (ρ id) gen i off
  | .fn f caps => .fn f (rens ρ caps)
  | .mp id => .mp (ρ id)
  | .it id => .it (ρ id)
  | .yl id => .yl (ρ id)
  | .ifc => .ifc
def rens (ρ : Nat → Nat) : List AV → List AV
  | [] => []
  | a :: az => a.ren ρ :: rens ρ az
def renss (ρ : Nat → Nat) : List (List AV) → List (List AV)
  | [] => []
  | c :: cs => rens ρ c :: renss ρ cs
end
def Ob.ids : Ob → List Nat
  | .box cs => idss cs
  | .row _ _ xs _ => idsss xs
  | .map es => (es.map fun p => p.2.ids).flatten
  | .sit _ _ => []
  | .loop _ env _ => idss env
def Ob.ren (ρ : Nat → Nat) : Ob → Ob
  | .box cs => .box (rens ρ cs)
  | .row e g xs nw => .row e g (renss ρ xs) nw
  | .map es => .map (es.map fun p => (p.1, p.2.ren ρ))
  | .sit s p => .sit s p
  | .loop k env s => .loop k (rens ρ env) s
def envIds : Env → List Nat
  | [] => []
  | (_, a) :: r => a.ids ++ envIds r
def renEnv (ρ : Nat → Nat) : Env → Env
  | [] => []
  | (t, a) :: r => (t, a.ren ρ) :: renEnv ρ r
def visit (st : Store) (n0 : Nat) : Nat → List Nat → List Nat → List Nat
  | 0, _, seen => seen
  | _ + 1, [], seen => seen
  | k + 1, i :: r, seen => if i < n0 ∨ seen.contains i = true then visit st n0 k r seen else
    visit st n0 k ((match st[i]? with | some ob => ob.ids | none => []) ++ r) (seen ++ [i])
def pos : List Nat → Nat → Nat
  | [], _ => 0
  | x :: l, i => if x = i then 0 else pos l i + 1
def nodupB : List Nat → Bool
  | [] => true
  | x :: l => !l.contains x && nodupB l
def closedB (st : Store) (l : List Nat) : List Nat → Bool
  | [] => true
  | i :: r => (match st[i]? with | some ob => ob.ids.all (fun j => l.contains j) | none => false) && closedB st l r
def sel (st : Store) (ρ : Nat → Nat) : List Nat → Store
  | [] => []
  | i :: r => match st[i]? with | some ob => ob.ren ρ :: sel st ρ r | none => sel st ρ r
def ids0 : Nat → Store → List Nat
  | 0, _ => []
  | _ + 1, [] => []
  | n + 1, ob :: st => ob.ids ++ ids0 n st
def upto : Nat → Nat → List Nat
  | 0, _ => []
  | n + 1, i => i :: upto n (i + 1)
def compact (bases : List Nat) (n0 : Nat) (live : List Nat) (e : Env) (st : Store) : Env × Store :=
  if bases.isEmpty = true ∧ n0 < st.length then
    let e1 := e.keep live
    let l := upto n0 0 ++ visit st n0 1000 (ids0 n0 st ++ envIds e1) []
    if (closedB st l l && nodupB l && (envIds e1).all (fun j => l.contains j)) = true then (renEnv (pos l) e1, sel st (pos l) l) else (e1, st)
  else (e.keep live, st)
def putAll : Store → List Nat → Store → Store
  | st, i :: o, ob :: l => putAll (st.set i ob) o l
  | st, _, _ => st
def backId (o : List Nat) (n k : Nat) : Nat := match o[k]? with | some i => i | none => n + (k - o.length)
abbrev AV.ro (a : AV) : Bool := a.under 0
abbrev ros (l : List AV) : Bool := belows 0 l
abbrev ross (l : List (List AV)) : Bool := belowss 0 l
def mask (n : Nat) (st : Store) : Store := List.replicate n (.sit ⟨#[]⟩ 0) ++ st.drop n
mutual
def AV.snap (st : Store) : AV → Option AV
  | .v x => some (.v x)
  | .agg cs => match snaps st cs with | some l => some (.agg l) | none => none
  | .tup cs => match snaps st cs with | some l => some (.tup l) | none => none
  | .sl e xs => if ross xs then some (.sl e xs) else none
  | .rop cs => if ros cs then some (.rop cs) else none
  | .own id gen off len => match st[id]? with
    | some (.row e g xs _) => if g = gen ∧ off + len ≤ xs.length ∧ ross xs = true then some (.sl e ((xs.drop off).take len)) else none
    | _ => none
  | .fn f caps => match snaps st caps with | some l => some (.fn f l) | none => none
  | .ref _ _ _ _ => none
  | .mp _ => none
  | .it _ => none
  | .yl _ => none
  | .ifc => some .ifc
def snaps (st : Store) : List AV → Option (List AV)
  | [] => some []
  | a :: az => match a.snap st with
    | some b => match snaps st az with
      | some bs => some (b :: bs)
      | none => none
    | none => none
end
mutual
def AV.flat : AV → Bool
  | .v _ => true
  | .agg cs => flats cs
  | .tup cs => flats cs
  | _ => false
def flats : List AV → Bool
  | [] => true
  | a :: az => a.flat && flats az
end
def binI (op : BinOp) (k : IntKind) (a b : Int) : Option Value :=
  match op with
  | .add => some (.int k (k.wrap (a + b)))
  | .sub => some (.int k (k.wrap (a - b)))
  | .mul => some (.int k (k.wrap (a * b)))
  | .quo => if b = 0 then none else some (.int k (k.wrap (a.tdiv b)))
  | .rem => if b = 0 then none else some (.int k (a.tmod b))
  | .eql => some (.bool (a == b))
  | .neq => some (.bool (a != b))
  | .lss => some (.bool (a < b))
  | .leq => some (.bool (a ≤ b))
  | .gtr => some (.bool (a > b))
  | .geq => some (.bool (a ≥ b))
  | .shl => if b < 0 then none else some (.int k (k.wrap (a * 2 ^ (min b.toNat k.bits))))
  | .shr => if b < 0 then none else some (.int k (a.fdiv (2 ^ (min b.toNat k.bits))))
  | _ => none
def binS (op : BinOp) (x y : ByteArray) : Option Value :=
  match op with
  | .add => if ((x.size + y.size : Nat) : Int) > 9223372036854775807 then none else some (.string (x ++ y))
  | .eql => some (.bool (x.toList == y.toList))
  | .neq => some (.bool !(x.toList == y.toList))
  | .lss => some (.bool (Op.bytesLess x.toList y.toList))
  | .leq => some (.bool (Op.bytesLess x.toList y.toList || x.toList == y.toList))
  | .gtr => some (.bool !(Op.bytesLess x.toList y.toList || x.toList == y.toList))
  | .geq => some (.bool !(Op.bytesLess x.toList y.toList))
  | _ => none
def binB (op : BinOp) (x y : Bool) : Option Value :=
  match op with
  | .eql => some (.bool (x == y))
  | .neq => some (.bool !(x == y))
  | _ => none
def binV (op : BinOp) : Value → Value → Option Value
  | .int k a, .int k' b => if k = k' then binI op k a b else none
  | .string a, .string b => binS op a b
  | _, _ => none
def unV (op : UnOp) : Value → Option Value
  | .int k n => match op with
    | .neg => some (.int k (k.wrap (0 - n)))
    | _ => none
  | .bool b => match op with
    | .not => some (.bool !b)
    | _ => none
  | _ => none
inductive TK where
  | b | i | s
  deriving Inhabited
def eqV : TK → Value → Value → Option Bool
  | .i, .int k a, .int k' b => if k = k' then some (a == b) else none
  | .s, .string a, .string b => some (a.toList == b.toList)
  | .b, .bool a, .bool b => some (a == b)
  | _, _, _ => none
def eqL : List TK → List AV → List AV → Option Bool
  | [], [], [] => some true
  | k :: ks, .v x :: xs, .v y :: ys => match eqV k x y with
    | some b => match eqL ks xs ys with
      | some c => some (b && c)
      | none => none
    | none => none
  | _, _, _ => none
inductive Opd where
  | t (n : Nat)
  | c (a : AV)
  | g (n : Nat)
  | f (n : Nat)
  deriving Inhabited
inductive Prim where
  | mov (x : Opd)
  | pick (c a b : Opd)
  | alloc (zs : List AV)
  | box (x : Opd)
  | build (z : List AV) (parts : List (Nat × Nat × Opd))
  | bsl (own : Bool) (e : Nat) (parts : List Opd)
  | load (n : Option Nat) (p : Opd)
  | store (n : Nat) (p x : Opd)
  | nilck (x : Opd)
  | bin (op : BinOp) (x y : Opd)
  | binb (op : BinOp) (x y : Opd)
  | aeq (neg : Bool) (ks : List TK) (x y : Opd)
  | isnil (neg : Bool) (x : Opd)
  | isnilI (neg : Bool) (x : Opd)
  | un (op : UnOp) (x : Opd)
  | i2i (k : IntKind) (x : Opd)
  | i2t (x : Opd)
  | s2b (x : Opd)
  | b2s (x : Opd)
  | ext (i : Nat) (x : Opd)
  | fld (off : Nat) (n : Option Nat) (x : Opd)
  | idxs (x i : Opd)
  | idxa (e : Nat) (n : Option Nat) (len : Nat) (x i : Opd)
  | fa (off : Nat) (p : Opd)
  | iap (e len : Nat) (p i : Opd)
  | ias (e : Nat) (x i : Opd)
  | sls (x : Opd) (lo hi : Option Opd)
  | slx (e : Nat) (x : Opd) (lo hi : Option Opd)
  | s2s (x : Opd)
  | len (x : Opd)
  | lens (x : Opd)
  | app (e bytes : Nat) (x y : Opd)
  | mkf (f : Nat) (caps : List Opd)
  | mk (own : Bool) (e bytes : Nat) (zs : List AV) (l c : Opd)
  | rng (x : Opd)
  | nxt (x : Opd)
  | mn (xs : List Opd)
  | mx (xs : List Opd)
  | snp (x : Opd)
  | cvs (x : Opd)
  | isnils (neg : Bool) (x : Opd)
  | mkm
  | lk (t : TK) (ok : Bool) (z : AV) (m k : Opd)
  | mup (t : TK) (m k x : Opd)
  | mdl (t : TK) (m k : Opd)
  | isnilm (neg : Bool) (x : Opd)
  | lenm (x : Opd)
  deriving Inhabited
inductive Mode where
  | P | N | M | L | Q | A | B
  deriving Inhabited
inductive Item where
  | op (d : Option Nat) (p : Prim)
  | call (d : Option Nat) (m : Mode) (f : Opd) (args : List Opd)
  | opr (d : Option Nat) (p : Prim) (ex : List Nat := [])
  | gand (d : Nat) (c : Opd) (sub : List Item) (x : Opd)
  | gor (d : Nat) (c : Opd) (sub : List Item) (x : Opd)
  | gif (c : Opd) (want : Bool) (sub : List Item)
  deriving Inhabited
inductive IR where
  | skip
  | items (l : List Item)
  | seq (a b : IR)
  | cond (c : Opd) (a b : IR)
  | block (id : Nat) (live : List Nat) (b : IR)
  | loop (live : List Nat) (b : IR)
  | exit (id : Nat) (live : List Nat)
  | ret (live : List Nat)
  | rfn (g : Opd) (k : Nat) (vars live : List Nat)
  deriving Inhabited
inductive RV where
  | tmp (t : Nat)
  | cell (t : Nat) (n : Option Nat)
  deriving Inhabited
structure FnD where
  nargs : Nat
  results : List RV
  body : IR
  deriving Inhabited
structure LoopD where
  vars : List Nat
  body : IR
  deriving Inhabited
structure LoopC where
  ps : Array Nat
  vars : List Nat
  body : Code
  n : Nat
  asg : Code := .skip
abbrev yB : Nat := 1000000
structure Prog where
  glob : Nat → Option (List AV)
  fn : Nat → Option FnD
  prim : Nat → Option (List AV → Store → Option (AV × Store))
  loop : Nat → Option LoopD := fun _ => none
section
variable (G : Nat → Option (List AV)) (bases : List Nat)
def Opd.ev (e : Env) : Opd → Option AV
  | .t n => e.get n
  | .c a => some a
  | .g n => match G n with | some cs => some (.rop cs) | none => none
  | .f n => some (.fn n [])
def Opd.evs (e : Env) : List Opd → Option (List AV)
  | [] => some []
  | x :: xs => match x.ev G e with
    | some a => match Opd.evs e xs with
      | some az => some (a :: az)
      | none => none
    | none => none
def Opd.evo (e : Env) : Option Opd → Option (Option AV)
  | none => some none
  | some x => match x.ev G e with | some a => some (some a) | none => none
def fills (cs : List AV) : List (Nat × List AV) → List AV
  | [] => cs
  | (o, l) :: r => fills (cs.take o ++ l ++ cs.drop (o + l.length)) r
def evParts (e : Env) (n : Nat) : List (Nat × Nat × Opd) → Option (List (Nat × List AV))
  | [] => some []
  | (o, k, x) :: r => match x.ev G e with
    | some a => if a.cells.length = k ∧ o + k ≤ n ∧ a.tuple = false then (match evParts e n r with
      | some l => some ((o, a.cells) :: l)
      | none => none) else none
    | none => none
def aggOf : Option Nat → List AV → Option AV
  | none, c :: _ => some c
  | none, [] => none
  | some n, cs => if n ≤ cs.length then some (.agg (cs.take n)) else none
def okSt (id : Nat) (cs : List AV) : Bool := bases.all fun b => decide (b ≤ id) || belows b cs
def putCells (cs : List AV) (off : Nat) (l : List AV) : List AV := cs.take off ++ l ++ cs.drop (off + l.length)
def ldAt (st : Store) : AV → Option (List AV)
  | .rop cs => some cs
  | .ref id gen i off => match st[id]? with
    | some (.box cs) => if gen = 0 ∧ i = 0 then some (cs.drop off) else none
    | some (.row _ g xs _) => if g = gen then (match xs[i]? with | some c => some (c.drop off) | none => none) else none
    | _ => none
  | _ => none
def stAt (st : Store) (n : Nat) (l : List AV) : AV → Option Store
  | .ref id gen i off =>
    if l.length = n ∧ okSt bases id l = true then
      match st[id]? with
      | some (.box cs) => if gen = 0 ∧ i = 0 ∧ off + n ≤ cs.length then some (st.set id (.box (putCells cs off l))) else none
      | some (.row e g xs nw) => if g = gen ∧ nw = false then (match xs[i]? with
          | some c => if off + n ≤ c.length then some (st.set id (.row e g (xs.set i (putCells c off l)) nw)) else none
          | none => none) else none
      | _ => none
    else none
  | _ => none
def liveRef (st : Store) (id gen : Nat) : Bool := match st[id]? with
  | some (.box _) => true
  | some (.row _ g _ _) => decide (g = gen)
  | _ => false
def intOf : AV → Option Int
  | .v (.int _ n) => some n
  | _ => none
def lenAV (st : Store) : AV → Option Nat
  | .sl _ xs => some xs.length
  | .own id gen _ len => match st[id]? with
    | some (.row _ g _ _) => if g = gen then some len else none
    | _ => none
  | .v (.slice none 0 0) => some 0
  | _ => none
def mapOf (st : Store) : AV → Option (List (Value × AV))
  | .v (.map none) => some []
  | .mp id => match st[id]? with | some (.map es) => some es | _ => none
  | _ => none
def mfind (t : TK) (k : Value) : List (Value × AV) → Option (Option AV)
  | [] => some none
  | p :: r => match eqV t k p.1 with
    | some true => some (some p.2)
    | some false => mfind t k r
    | none => none
def mput (t : TK) (k : Value) (a : AV) : List (Value × AV) → Option (List (Value × AV))
  | [] => some [(k, a)]
  | p :: r => match eqV t k p.1 with
    | some true => some ((p.1, a) :: r)
    | some false => match mput t k a r with | some l => some (p :: l) | none => none
    | none => none
def mdel (t : TK) (k : Value) : List (Value × AV) → Option (List (Value × AV))
  | [] => some []
  | p :: r => match eqV t k p.1 with
    | some true => some r
    | some false => match mdel t k r with | some l => some (p :: l) | none => none
    | none => none
def lkR (ok : Bool) (z : AV) (r : Option AV) : AV :=
  if ok then .tup [r.getD z, .v (.bool r.isSome)] else r.getD z
def elems (st : Store) : AV → Option (List (List AV))
  | .sl _ xs => some xs
  | .own id gen off len => match st[id]? with
    | some (.row _ g xs _) => if g = gen then some ((xs.drop off).take len) else none
    | _ => none
  | .v (.slice none 0 0) => some []
  | .v (.string s) => some (s.data.toList.map fun b => [.v (.int .u8 b.toNat)])
  | _ => none
def minF (k : IntKind) (x : Int) : List Value → Option Value
  | [] => some (.int k x)
  | .int _ y :: r => minF k (if y < x then y else x) r
  | _ => none
def maxF (k : IntKind) (x : Int) : List Value → Option Value
  | [] => some (.int k x)
  | .int _ y :: r => maxF k (if y > x then y else x) r
  | _ => none
def minV : List Value → Option Value
  | .int k x :: r => minF k x r
  | _ => none
def maxV : List Value → Option Value
  | .int k x :: r => maxF k x r
  | _ => none
def vals : List AV → Option (List Value)
  | [] => some []
  | .v x :: r => match vals r with | some l => some (x :: l) | none => none
  | _ => none
def aszI (lo : Option Int) (d : Int) : Int := match lo with | some n => n | none => d
def Prim.ev (e : Env) (st : Store) : Prim → Option (AV × Store)
  | .mov x => match x.ev G e with | some a => some (a, st) | none => none
  | .pick c a b => match c.ev G e with
    | some (.v (.bool t)) => match (if t then a else b).ev G e with | some r => some (r, st) | none => none
    | _ => none
  | .alloc zs => some (.ref st.length 0 0 0, st ++ [.box zs])
  | .box x => match x.ev G e with | some a => if a.tuple then none else some (.ref st.length 0 0 0, st ++ [.box a.cells]) | none => none
  | .build z parts => match evParts G e z.length parts with | some l => some (.agg (fills z l), st) | none => none
  | .bsl own k parts => match Opd.evs G e parts with
    | some az => if (az.all fun a => a.cells.length == k && !a.tuple) then
        (if own then some (.own st.length 0 0 az.length, st ++ [.row k 0 (az.map AV.cells) false]) else some (.sl k (az.map AV.cells), st)) else none
    | none => none
  | .load n p => match p.ev G e with
    | some a => match ldAt st a with
      | some cs => match aggOf n cs with | some r => some (r, st) | none => none
      | none => none
    | none => none
  | .store n p x => match p.ev G e with
    | some a => match x.ev G e with
      | some b => if b.tuple then none else match stAt bases st n b.cells a with | some st' => some (.tup [], st') | none => none
      | none => none
    | none => none
  | .nilck x => match x.ev G e with
    | some (.ref id g i o) => if liveRef st id g then some (.ref id g i o, st) else none
    | some (.rop cs) => some (.rop cs, st)
    | some (.fn f cs) => some (.fn f cs, st)
    | _ => none
  | .bin op x y => match x.ev G e with
    | some (.v a) => match y.ev G e with
      | some (.v b) => match binV op a b with | some r => some (.v r, st) | none => none
      | _ => none
    | _ => none
  | .binb op x y => match x.ev G e with
    | some (.v (.bool a)) => match y.ev G e with
      | some (.v (.bool b)) => match binB op a b with | some r => some (.v r, st) | none => none
      | _ => none
    | _ => none
  | .aeq neg ks x y => match x.ev G e with
    | some (.agg a) => match y.ev G e with
      | some (.agg b) => match eqL ks a b with | some r => some (.v (.bool (if neg then !r else r)), st) | none => none
      | _ => none
    | _ => none
  | .isnil neg x => match x.ev G e with
    | some (.ref id g _ _) => if liveRef st id g then some (.v (.bool neg), st) else none
    | some (.v (.pointer none)) => some (.v (.bool !neg), st)
    | _ => none
  | .isnilI neg x => match x.ev G e with
    | some (.v .nilIface) => some (.v (.bool !neg), st)
    | some .ifc => some (.v (.bool neg), st)
    | _ => none
  | .isnils neg x => match x.ev G e with
    | some (.v (.slice none 0 0)) => some (.v (.bool !neg), st)
    | some (.sl _ _) => some (.v (.bool neg), st)
    | some (.own id g _ _) => match st[id]? with
      | some (.row _ g' _ _) => if g' = g then some (.v (.bool neg), st) else none
      | _ => none
    | _ => none
  | .mkm => some (.mp st.length, st ++ [.map []])
  | .lk t ok z m k => match m.ev G e with
    | some a => match k.ev G e with
      | some (.v kv) => match mapOf st a with
        | some es => match mfind t kv es with
          | some r => some (lkR ok z r, st)
          | none => none
        | none => none
      | _ => none
    | none => none
  | .mup t m k x => match m.ev G e with
    | some (.mp id) => match k.ev G e with
      | some (.v kv) => match x.ev G e with
        | some b => if b.tuple = false ∧ okSt bases id [b] = true ∧ eqV t kv kv = some true then (match st[id]? with
            | some (.map es) => match mput t kv b es with
              | some es' => some (.tup [], st.set id (.map es'))
              | none => none
            | _ => none) else none
        | none => none
      | _ => none
    | _ => none
  | .mdl t m k => match m.ev G e with
    | some (.mp id) => match k.ev G e with
      | some (.v kv) => match st[id]? with
        | some (.map es) => match mdel t kv es with
          | some es' => some (.tup [], st.set id (.map es'))
          | none => none
        | _ => none
      | _ => none
    | _ => none
  | .lenm x => match x.ev G e with
    | some a => match mapOf st a with | some es => some (.v (.int .i64 es.length), st) | none => none
    | none => none
  | .isnilm neg x => match x.ev G e with
    | some (.v (.map none)) => some (.v (.bool !neg), st)
    | some (.mp id) => match st[id]? with
      | some (.map _) => some (.v (.bool neg), st)
      | _ => none
    | _ => none
  | .un op x => match x.ev G e with
    | some (.v a) => match unV op a with | some r => some (.v r, st) | none => none
    | _ => none
  | .i2i k x => match x.ev G e with
    | some (.v (.int _ n)) => some (.v (.int k (k.wrap n)), st)
    | _ => none
  | .i2t x => match x.ev G e with
    | some (.v (.int _ n)) => some (.v (.string (Utf8.encode n)), st)
    | _ => none
  | .s2b x => match x.ev G e with
    | some (.v (.string s)) => some (.sl 1 (s.data.toList.map fun b => [.v (.int .u8 b.toNat)]), st)
    | _ => none
  | .b2s x => match x.ev G e with
    | some (.v (.string _)) => none
    | some a => match elems st a with
      | some xs => match vals xs.flatten with
        | some vs => if vs.length = xs.length ∧ vs.all (fun | .int .u8 _ => true | _ => false) = true then some (.v (.string ⟨(vs.map fun | .int _ n => UInt8.ofNat n.toNat | _ => 0).toArray⟩), st) else none
        | none => none
      | none => none
    | none => none
  | .ext i x => match x.ev G e with
    | some (.tup cs) => match cs[i]? with | some a => some (a, st) | none => none
    | _ => none
  | .fld off n x => match x.ev G e with
    | some (.agg cs) => match aggOf n (cs.drop off) with | some a => some (a, st) | none => none
    | _ => none
  | .idxs x i => match x.ev G e with
    | some (.v (.string s)) => match i.ev G e with
      | some (.v (.int _ n)) => if h : 0 ≤ n ∧ n.toNat < s.size then some (.v (.int .u8 (s[n.toNat]'h.2).toNat), st) else none
      | _ => none
    | _ => none
  | .idxa k n ln x i => match x.ev G e with
    | some (.agg cs) => match i.ev G e with
      | some (.v (.int _ j)) => if 0 ≤ j ∧ j < ln then (match aggOf n (cs.drop (j.toNat * k)) with | some a => some (a, st) | none => none) else none
      | _ => none
    | _ => none
  | .fa off p => match p.ev G e with
    | some (.rop cs) => some (.rop (cs.drop off), st)
    | some (.ref id g i o) => if liveRef st id g then some (.ref id g i (o + off), st) else none
    | _ => none
  | .iap k ln p i => match p.ev G e with
    | some a => match i.ev G e with
      | some (.v (.int _ j)) => if 0 ≤ j ∧ j < ln then (match a with
          | .rop cs => some (.rop (cs.drop (j.toNat * k)), st)
          | .ref id g r o => if liveRef st id g then some (.ref id g r (o + j.toNat * k), st) else none
          | _ => none) else none
      | _ => none
    | none => none
  | .ias k x i => match x.ev G e with
    | some a => match i.ev G e with
      | some (.v (.int _ j)) => if 0 ≤ j then (match a with
          | .sl k' xs => if k' = k then (match xs[j.toNat]? with | some c => some (.rop c, st) | none => none) else none
          | .own id gen off ln => match st[id]? with
            | some (.row k' g xs _) => if k' = k ∧ g = gen ∧ j.toNat < ln then some (.ref id gen (off + j.toNat) 0, st) else none
            | _ => none
          | _ => none) else none
      | _ => none
    | none => none
  | .sls x lo hi => match x.ev G e with
    | some (.v (.string s)) => match Opd.evo G e lo with
      | some l => match Opd.evo G e hi with
        | some h =>
          let b := aszI (h.bind intOf) s.size
          let a := aszI (l.bind intOf) 0
          if (l.all fun z => (intOf z).isSome) = true ∧ (h.all fun z => (intOf z).isSome) = true ∧ 0 ≤ b ∧ b ≤ s.size ∧ 0 ≤ a ∧ a ≤ b then some (.v (.string (s.extract a.toNat b.toNat)), st) else none
        | none => none
      | none => none
    | _ => none
  | .s2s x => match x.ev G e with
    | some (.v (.string s)) => some (.v (.string s), st)
    | _ => none
  | .slx k x lo hi => match x.ev G e with
    | some z => match Opd.evo G e lo with
      | some l => match Opd.evo G e hi with
        | some h => match lenAV st z with
          | some n =>
            let b := aszI (h.bind intOf) n
            let a := aszI (l.bind intOf) 0
            if (l.all fun z => (intOf z).isSome) = true ∧ (h.all fun z => (intOf z).isSome) = true ∧ 0 ≤ b ∧ b ≤ n ∧ 0 ≤ a ∧ a ≤ b then (match z with
              | .sl k' xs => if k' = k then some (.sl k ((xs.drop a.toNat).take (b.toNat - a.toNat)), st) else none
              | .own id gen off ln => match st[id]? with
                | some (.row k' g _ _) => if k' = k ∧ g = gen then some (.own id gen (off + a.toNat) (b.toNat - a.toNat), st) else none
                | _ => none
              | .v (.slice none 0 0) => some (.v (.slice none 0 0), st)
              | _ => none) else none
          | none => none
        | none => none
      | none => none
    | none => none
  | .len x => match x.ev G e with
    | some a => match lenAV st a with | some n => some (.v (.int .i64 n), st) | none => none
    | none => none
  | .lens x => match x.ev G e with
    | some (.v (.string s)) => some (.v (.int .i64 s.size), st)
    | _ => none
  | .app k bytes x y => match x.ev G e with
    | some a => match y.ev G e with
      | some b => match elems st b with
        | some ys => if (ys.all fun c => c.length == k) then (match a with
          | .v (.slice none 0 0) => if ys.length * bytes ≤ 140737488355328 then (if ys.length = 0 then some (.v (.slice none 0 0), st) else some (.own st.length 0 0 ys.length, st ++ [.row k 0 ys false])) else none
          | .own id gen off ln => match st[id]? with
            | some (.row k' g xs nw) => if k' = k ∧ g = gen ∧ off + ln ≤ xs.length ∧ (nw = true → off + ln = xs.length) ∧ (ln + ys.length) * bytes ≤ 140737488355328 ∧ okSt bases id ys.flatten = true then
                some (.own id (gen + 1) 0 (ln + ys.length), st.set id (.row k (gen + 1) ((xs.drop off).take ln ++ ys) nw)) else none
            | _ => none
          | _ => none) else none
        | none => none
      | none => none
    | none => none
  | .mkf f caps => match Opd.evs G e caps with | some l => some (.fn f l, st) | none => none
  | .mk own k bytes zs l c => match l.ev G e with
    | some (.v (.int .i64 n)) => match c.ev G e with
      | some (.v (.int .i64 m)) => if 0 ≤ n ∧ n ≤ m ∧ m * bytes ≤ 140737488355328 ∧ zs.length = k then
          (if own then some (.own st.length 0 0 n.toNat, st ++ [.row k 0 (List.replicate n.toNat zs) false]) else some (.sl k (List.replicate n.toNat zs), st)) else none
      | _ => none
    | _ => none
  | .rng x => match x.ev G e with
    | some (.v (.string s)) => some (.it st.length, st ++ [.sit s 0])
    | _ => none
  | .nxt x => match x.ev G e with
    | some (.it id) => match st[id]? with
      | some (.sit s pos) => if pos < s.size then
          some (.tup [.v (.bool true), .v (.int .i64 pos), .v (.int .i32 (Utf8.decode s pos).1)], st.set id (.sit s (pos + (Utf8.decode s pos).2)))
        else some (.tup [.v (.bool false)], st)
      | _ => none
    | _ => none
  | .mn xs => match Opd.evs G e xs with
    | some l => match vals l with
      | some vs => match minV vs with | some r => some (.v r, st) | none => none
      | none => none
    | none => none
  | .mx xs => match Opd.evs G e xs with
    | some l => match vals l with
      | some vs => match maxV vs with | some r => some (.v r, st) | none => none
      | none => none
    | none => none
  | .snp x => match x.ev G e with
    | some (.own id gen off ln) => match st[id]? with
      | some (.row k g xs nw) => if g = gen ∧ off + ln ≤ xs.length ∧ ross xs = true then some (.sl k ((xs.drop off).take ln), st.set id (.row k g xs true)) else none
      | _ => none
    | some a => if a.ro then some (a, st) else none
    | _ => none
  | .cvs x => match x.ev G e with
    | some (.own id gen off ln) => match st[id]? with
      | some (.row k g xs nw) => if g = gen ∧ off + ln ≤ xs.length ∧ ross xs = true ∧ 0 < ln then some (.sl k ((xs.drop off).take ln), st.set id (.row k g xs true)) else none
      | _ => none
    | _ => none
end
def AV.id? : AV → Option Nat
  | .own id _ _ _ => some id
  | .ref id _ _ _ => some id
  | .mp id => some id
  | .it id => some id
  | .yl id => some id
  | _ => none
def Prim.rdo : Prim → Opd
  | .load _ x => x
  | .store _ x _ => x
  | .nilck x => x
  | .isnil _ x => x
  | .fa _ x => x
  | .iap _ _ x _ => x
  | .ias _ x _ => x
  | .slx _ x _ _ => x
  | .len x => x
  | _ => .f 0
def boxQ (st : Store) (v : AV) : Bool :=
  match v.id? with
  | none => true
  | some id => match st[id]? with
    | some (.box _) => true
    | _ => false
def exA (v : AV) (w : Option AV) : Bool :=
  match v.id? with
  | none => true
  | some i => match w with
    | some w => (match w.id? with
      | some j => !(decide (i = j))
      | none => false)
    | none => false
def exQ (e : Env) (v : AV) (ex : List Nat) : Bool := ex.all fun t => exA v (e.get t)
def sameV : Value → Value → Bool
  | .int k n, .int k' n' => decide (k = k') && decide (n = n')
  | .bool a, .bool b => decide (a = b)
  | .string a, .string b => decide (a = b)
  | .slice none a b, .slice none c d => decide (a = c) && decide (b = d)
  | .map none, .map none => true
  | .pointer none, .pointer none => true
  | _, _ => false
mutual
def sameA : AV → AV → Bool
  | .v a, b => match b with
    | .v b => sameV a b
    | _ => false
  | .own a b c d, x => match x with
    | .own a' b' c' d' => decide (a = a') && decide (b = b') && decide (c = c') && decide (d = d')
    | _ => false
  | .ref a b c d, x => match x with
    | .ref a' b' c' d' => decide (a = a') && decide (b = b') && decide (c = c') && decide (d = d')
    | _ => false
  | .mp a, x => match x with
    | .mp b => decide (a = b)
    | _ => false
  | .sl e xs, x => match x with
    | .sl e' ys => decide (e = e') && sameLL xs ys
    | _ => false
  | _, _ => false
def sameL : List AV → List AV → Bool
  | [], m => m.isEmpty
  | a :: l, m => match m with
    | b :: m => sameA a b && sameL l m
    | [] => false
def sameLL : List (List AV) → List (List AV) → Bool
  | [], m => m.isEmpty
  | a :: l, m => match m with
    | b :: m => sameL a b && sameLL l m
    | [] => false
end
def sameO : Ob → Ob → Bool
  | .box a, .box b => sameL a b
  | .box _, _ => false
  | _, .box _ => false
  | _, _ => true
def sameObs : Store → Store → Bool
  | [], _ => true
  | a :: l, b :: m => sameO a b && sameObs l m
  | _ :: _, [] => false
inductive Sig where
  | norm
  | exit (id : Nat)
  | ret
  deriving Inhabited
abbrev Raw := Nat → List AV → List Nat → Store → Option (AV × Store)
def callM (raw : Raw) (m : Mode) (f : AV) (args : List AV) (bases : List Nat) (st : Store) : Option (AV × Store) :=
  match f with
  | .fn f caps =>
    match m with
    | .P => match snaps st (args ++ caps) with
      | some az => match raw f az [] [] with
        | some (r, st2) => match r.snap st2 with
          | some r' => if ros (args ++ caps) || r'.flat then some (r', st) else none
          | none => none
        | none => none
      | none => none
    | .N =>
      if bases.isEmpty = true then
        let az := args ++ caps
        let o := visit st 0 1000 (idss az) []
        if (closedB st o o && nodupB o && (idss az).all (fun j => o.contains j)) = true then
          match raw f (rens (pos o) az) [] (sel st (pos o) o) with
          | some (r, st2) => some (r.ren (backId o st.length), putAll st o ((st2.take o.length).map (Ob.ren (backId o st.length))) ++ (st2.drop o.length).map (Ob.ren (backId o st.length)))
          | none => none
        else none
      else none
    | .M => match raw f (args ++ caps) (st.length :: bases) st with
      | some (r, st2) => if r.under st.length then some (r, st2.take st.length)
        else match r.snap (mask st.length st2) with
          | some r' => some (r', st2.take st.length)
          | none => none
      | none => none
    | .L => raw f (args ++ caps) bases st
    | .Q => if ros (args ++ caps) = true then (match raw f (args ++ caps) [] [] with
      | some (r, st2) => match r.snap st2 with
        | some r' => some (r', st)
        | none => none
      | none => none) else none
    | .A => if (idss (args ++ caps)).isEmpty = true then (
      if bases.isEmpty = true then
        let az := args ++ caps
        let o := visit st 0 1000 (idss az) []
        if (closedB st o o && nodupB o && (idss az).all (fun j => o.contains j)) = true then
          match raw f (rens (pos o) az) [] (sel st (pos o) o) with
          | some (r, st2) => some (r.ren (backId o st.length), putAll st o ((st2.take o.length).map (Ob.ren (backId o st.length))) ++ (st2.drop o.length).map (Ob.ren (backId o st.length)))
          | none => none
        else none
      else none) else none
    | .B => if bases.isEmpty = true then
        let az := args ++ caps
        let o := visit st 0 1000 (idss az) []
        if (closedB st o o && nodupB o && (idss az).all (fun j => o.contains j)) = true then
          match raw f (rens (pos o) az) [] (sel st (pos o) o) with
          | some (r, st2) => if sameObs st (putAll st o ((st2.take o.length).map (Ob.ren (backId o st.length))) ++ (st2.drop o.length).map (Ob.ren (backId o st.length))) = true then some (r.ren (backId o st.length), putAll st o ((st2.take o.length).map (Ob.ren (backId o st.length))) ++ (st2.drop o.length).map (Ob.ren (backId o st.length))) else none
          | none => none
        else none
      else none
  | .yl id =>
    match m with
    | .N => if bases.isEmpty = true then (match st[id]? with
      | some (.loop k env .rdy) => (match raw k (args ++ env) [] (st.set id (.loop k env .busy)) with
        | some (.v (.int .i64 n), st2) => (match st2[id]? with
          | some (.loop _ env2 .busy) => if 0 ≤ n then some (.v (.bool (decide (n = 0))), st2.set id (.loop k env2 (if n = 0 then .rdy else .done n.toNat))) else none
          | _ => none)
        | _ => none)
      | _ => none) else none
    | _ => none
  | _ => none
theorem callM_A (raw : Raw) (f : Nat) (caps args : List AV) (bases : List Nat) (st : Store) : callM raw .A (.fn f caps) args bases st = if (idss (args ++ caps)).isEmpty = true then callM raw .N (.fn f caps) args bases st else none := rfl
theorem callM_B (raw : Raw) (f : Nat) (caps args : List AV) (bases : List Nat) (st : Store) : callM raw .B (.fn f caps) args bases st = (callM raw .N (.fn f caps) args bases st).bind fun q => if sameObs st q.2 = true then some q else none := by
  simp only [callM]
  split
  · split
    · cases raw f (rens (pos (visit st 0 1000 (idss (args ++ caps)) [])) (args ++ caps)) [] (sel st (pos (visit st 0 1000 (idss (args ++ caps)) [])) (visit st 0 1000 (idss (args ++ caps)) [])) with
      | none => rfl
      | some q => rfl
    · rfl
  · rfl
theorem callM_B_some {raw : Raw} {f : Nat} {caps args : List AV} {bases : List Nat} {st : Store} {q : AV × Store} : callM raw .B (.fn f caps) args bases st = some q ↔ callM raw .N (.fn f caps) args bases st = some q ∧ sameObs st q.2 = true := by
  rw [callM_B]
  cases callM raw .N (.fn f caps) args bases st with
  | none => simp
  | some p =>
    simp only [Option.bind_some, Option.some.injEq]
    constructor
    · intro h
      split at h
      · cases h; exact ⟨rfl, by assumption⟩
      · cases h
    · rintro ⟨rfl, h⟩
      rw [if_pos h]
section
variable (G : Nat → Option (List AV)) (raw : Raw) (bases : List Nat)
mutual
def Item.run : Item → Env → Store → Option (Env × Store)
  | .op d p, e, st => match p.ev G bases e st with
    | some (a, st') => some (Env.put e d a, st')
    | none => none
  | .call d m f args, e, st => match f.ev G e with
    | some fv => match Opd.evs G e args with
      | some az => match callM raw m fv az bases st with
        | some (a, st') => some (Env.put e d a, st')
        | none => none
      | none => none
    | none => none
  | .opr d p ex, e, st => match p.rdo.ev G e with
    | some v => if (boxQ st v && exQ e v ex) = true then (match p.ev G bases e st with
      | some (a, st') => some (Env.put e d a, st')
      | none => none) else none
    | none => none
  | .gand d c sub x, e, st => match c.ev G e with
    | some (.v (.bool b)) => if b then (match Item.runs sub e st with
        | some (e', st') => match x.ev G e' with
          | some a => some ((d, a) :: e, st')
          | none => none
        | none => none) else some ((d, .v (.bool false)) :: e, st)
    | _ => none
  | .gor d c sub x, e, st => match c.ev G e with
    | some (.v (.bool b)) => if b then some ((d, .v (.bool true)) :: e, st) else (match Item.runs sub e st with
        | some (e', st') => match x.ev G e' with
          | some a => some ((d, a) :: e, st')
          | none => none
        | none => none)
    | _ => none
  | .gif c want sub, e, st => match c.ev G e with
    | some (.v (.bool b)) => if b = want then Item.runs sub e st else some (e, st)
    | _ => none
def Item.runs : List Item → Env → Store → Option (Env × Store)
  | [], e, st => some (e, st)
  | i :: is, e, st => match Item.run i e st with
    | some (e', st') => Item.runs is e' st'
    | none => none
end
def sigOf : Nat → Sig
  | 0 => .norm
  | 1 => .ret
  | n + 2 => .exit n
def numOf : Sig → Nat
  | .norm => 0
  | .ret => 1
  | .exit n => n + 2
def getL (e : Env) : List Nat → Option (List AV)
  | [] => some []
  | t :: ts => match e.get t with
    | some a => match getL e ts with
      | some l => some (a :: l)
      | none => none
    | none => none
def bindEnv : List Nat → List AV → Env
  | t :: ts, a :: az => (t, a) :: bindEnv ts az
  | _, _ => []
def rfnK (bases : List Nat) (n0 k : Nat) (live : List Nat) (e : Env) (st2 : Store) : Option (Sig × Env × Store) :=
  match st2[n0]? with
  | some (.loop _ env s) => match s with
    | .rdy => some (.norm, compact bases n0 live e (st2.set n0 (.loop k env .over)))
    | .done n => some (sigOf n, compact bases n0 live e (st2.set n0 (.loop k env .over)))
    | _ => none
  | _ => none
def iter (body : Env → Store → Option (Sig × Env × Store)) (cp : Env → Store → Env × Store) : Nat → Env → Store → Option (Sig × Env × Store)
  | 0, _, _ => none
  | n + 1, e, st => match body (cp e st).1 (cp e st).2 with
    | some (.norm, e', st') => iter body cp n e' st'
    | r => r
def IR.run (n : Nat) : IR → Env → Store → Option (Sig × Env × Store)
  | .skip, e, st => some (.norm, e, st)
  | .items l, e, st => match Item.runs G raw bases l e st with
    | some (e', st') => some (.norm, e', st')
    | none => none
  | .seq a b, e, st => match IR.run n a e st with
    | some (.norm, e', st') => IR.run n b e' st'
    | r => r
  | .cond c a b, e, st => match c.ev G e with
    | some (.v (.bool t)) => if t then IR.run n a e st else IR.run n b e st
    | _ => none
  | .block id live b, e, st => match IR.run n b e st with
    | some (.norm, e', st') => some (.norm, compact bases st.length live e' st')
    | some (.exit i, e', st') => if i = id then some (.norm, compact bases st.length live e' st') else some (.exit i, e', st')
    | r => r
  | .loop live b, e, st => iter (IR.run n b) (compact bases st.length live) n e st
  | .exit id live, e, st => some (.exit id, e.keep live, st)
  | .ret live, e, st => some (.ret, e.keep live, st)
  | .rfn g k vars live, e, st => match g.ev G e with
    | some (.fn f caps) => match getL e vars with
      | some env => match callM raw .N (.fn f caps) [.yl st.length] bases (st ++ [.loop k env .rdy]) with
        | some (_, st2) => rfnK bases st.length k live e st2
        | none => none
      | none => none
    | _ => none
end
def RV.ev (st : Store) (e : Env) : RV → Option AV
  | .tmp t => e.get t
  | .cell t n => match e.get t with
    | some a => match ldAt st a with
      | some cs => aggOf n cs
      | none => none
    | none => none
def RV.evs (st : Store) (e : Env) : List RV → Option (List AV)
  | [] => some []
  | r :: rs => match r.ev st e with
    | some a => match RV.evs st e rs with
      | some az => some (a :: az)
      | none => none
    | none => none
def tupOf : List AV → AV
  | [a] => a
  | l => .tup l
def fin (rs : List RV) : Option (Sig × Env × Store) → Option (AV × Store)
  | some (.norm, e, st) => match RV.evs st e rs with | some l => some (tupOf l, st) | none => none
  | some (.ret, e, st) => match RV.evs st e rs with | some l => some (tupOf l, st) | none => none
  | _ => none
def finL : Option (Sig × Env × Store) → Option (AV × Store)
  | some (s, _, st) => some (.v (.int .i64 (numOf s)), st)
  | none => none
def argEnv : List AV → Nat → Env
  | [], _ => []
  | a :: az, i => (i, a) :: argEnv az (i + 1)
def compactV (bases : List Nat) (n0 : Nat) (q : AV × Store) : AV × Store :=
  match (compact bases n0 [0] [(0, q.1)] q.2).1.get 0 with
  | some v => (v, (compact bases n0 [0] [(0, q.1)] q.2).2)
  | none => q
def finC (bases : List Nat) (n0 : Nat) : Option (AV × Store) → Option (AV × Store)
  | some q => some (compactV bases n0 q)
  | none => none
def callF (P : Prog) : Nat → Raw
  | 0, _, _, _, _ => none
  | n + 1, f, args, bases, st =>
    match P.prim f with
    | some p => p args st
    | none => match P.fn f with
      | some fd => if args.length = fd.nargs then finC bases st.length (fin fd.results (IR.run P.glob (callF P n) bases n fd.body (argEnv args 0) st)) else none
      | none => match P.loop f with
        | some d => if args.length = d.vars.length ∧ bases = [] then finC [] st.length (finL (IR.run P.glob (callF P n) [] n d.body (bindEnv d.vars args) st)) else none
        | none => none
end Go.Proofs.YtoobogpbejdocaaGreatDoor.Ev
