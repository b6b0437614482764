import Derived.Test.YtoobogpbejdocaaDoorEvBase
import Derived.Laws.Sem
set_option linter.unusedVariables false
set_option linter.unusedSectionVars false
set_option linter.unusedSimpArgs false
namespace Go.Proofs.YtoobogpbejdocaaDoor.Ev
def okC : Value → Bool
  | .agg cs => cs.toList.all Value.oneCell'
  | .tuple _ => false
  | _ => true
def cOpd : Operand → Option Opd
  | .tmp t => some (.t t)
  | .const v => if okC v = true then some (.c (ofVal v)) else none
  | .global g => some (.g g)
  | .func f => if f < yB then some (.f f) else none
def cOpds : List Operand → Option (List Opd)
  | [] => some []
  | x :: xs => (cOpd x).bind fun y => (cOpds xs).bind fun ys => some (y :: ys)
def cOpdo : Option Operand → Option (Option Opd)
  | none => some none
  | some x => (cOpd x).bind fun y => some (some y)
def aggN (P : Program) (t : TypeId) : Option (Option Nat) :=
  match P.underlying t with
  | some (.struct _) => (P.info? t).bind fun i => some (some i.size)
  | some (.array _ _) => (P.info? t).bind fun i => some (some i.size)
  | some _ => some none
  | none => none
def zeroC (P : Program) (t : TypeId) : Option (List AV) :=
  (P.info? t).bind fun i => i.zero.bind fun z => if okC z = true then some (ofVal z).cells else none
def cParts (P : Program) (fs : Array Field) : List (Nat × Operand) → Option (List (Nat × Nat × Opd))
  | [] => some []
  | (i, x) :: r => (fs[i]?).bind fun f => (P.info? f.type).bind fun n => (cOpd x).bind fun y => (cParts P fs r).bind fun l => some ((f.offset, n.size, y) :: l)
def cPartsA (k : Nat) : List (Nat × Operand) → Option (List (Nat × Nat × Opd))
  | [] => some []
  | (i, x) :: r => (cOpd x).bind fun y => (cPartsA k r).bind fun l => some ((i * k, k, y) :: l)
def cRow (n : Nat) : List (Nat × Operand) → Option (List Opd)
  | [] => some []
  | (i, x) :: r => if i = n then (cOpd x).bind fun y => (cRow (n + 1) r).bind fun l => some (y :: l) else none
mutual
def plainN (P : Program) : Nat → TypeId → Option (List TK)
  | 0, _ => none
  | d + 1, t => match P.underlying t with
    | some .bool => some [.b]
    | some (.int _) => some [.i]
    | some .string => some [.s]
    | some (.struct fs) => if P.stoodInHeld t = false then (P.info? t).bind fun i => (plainFs P d fs.toList 0).bind fun l => if l.length = i.size then some l else none else none
    | _ => none
def plainFs (P : Program) : Nat → List Field → Nat → Option (List TK)
  | _, [], _ => some []
  | 0, _ :: _, _ => none
  | d + 1, f :: fs, n => if f.name ≠ "_" ∧ f.offset = n then (plainN P d f.type).bind fun k => (plainFs P d fs (n + k.length)).bind fun l => some (k ++ l) else none
end
def cU (x : Operand) (f : Opd → Prim) : Option Prim := (cOpd x).bind fun x => some (f x)
def cB (x y : Operand) (f : Opd → Opd → Prim) : Option Prim := (cOpd x).bind fun x => (cOpd y).bind fun y => some (f x y)
def cBuild (P : Program) (t : TypeId) (parts : Array (Nat × Operand)) : Option Prim :=
  (zeroC P t).bind fun z => match P.underlying t with
    | some (.struct fs) => if (fs.toList.all fun f => (P.info? f.type).isSome) = true then (cParts P fs parts.toList).bind fun l => some (.build z l) else none
    | some (.array _ e) => (P.info? e).bind fun i => (cPartsA i.size parts.toList).bind fun l => some (.build z l)
    | _ => none
def cBuildSlice (P : Program) (t : TypeId) (len : Nat) (parts : Array (Nat × Operand)) (h : Prim) : Option Prim :=
  match P.underlying t with
    | some (.slice e) => (P.info? e).bind fun i => (cRow 0 parts.toList).bind fun l =>
      if l.length = len ∧ len * i.size ≤ 16777216 ∧ i.zero.isSome = true ∧ 0 < i.size then (match h with
        | .bsl own _ _ => some (.bsl own i.size l)
        | _ => none) else none
    | _ => none
def cAeq (op : BinOp) (ks : List TK) (x y : Operand) : Option Prim :=
  match op with
  | .eql => cB x y (.aeq false ks)
  | .neq => cB x y (.aeq true ks)
  | _ => none
def cNil (op : BinOp) (x y : Operand) : Option Prim :=
  match y with
  | .const (.pointer none) => (match op with
    | .eql => cU x (.isnil false)
    | .neq => cU x (.isnil true)
    | _ => none)
  | _ => none
def cNilI (op : BinOp) (x y : Operand) : Option Prim :=
  match y with
  | .const .nilIface => (match op with
    | .eql => cU x (.isnilI false)
    | .neq => cU x (.isnilI true)
    | _ => none)
  | _ => none
def cNils (op : BinOp) (x y : Operand) : Option Prim :=
  match y with
  | .const (.slice none 0 0) => (match op with
    | .eql => cU x (.isnils false)
    | .neq => cU x (.isnils true)
    | _ => none)
  | _ => none
def arrKs (P : Program) (n : Nat) (e : TypeId) : Option (List TK) :=
  (P.info? e).bind fun i => (plainN P 200 e).bind fun ks => if ks.length = i.size then some (List.replicate n ks).flatten else none
def cNilM (op : BinOp) (x y : Operand) : Option Prim :=
  match y with
  | .const (.map none) => (match op with
    | .eql => cU x (.isnilm false)
    | .neq => cU x (.isnilm true)
    | _ => none)
  | _ => none
def kindOf : TypeDesc → Option TK
  | .int _ => some .i
  | .string => some .s
  | .bool => some .b
  | _ => none
def mapT (P : Program) (t : TypeId) : Option (TK × TypeId) :=
  match P.underlying t with
  | some (.map k e) => (P.underlying k).bind fun d => (kindOf d).bind fun t => some (t, e)
  | _ => none
def zeroA (P : Program) (t : TypeId) : Option AV :=
  (P.info? t).bind fun i => i.zero.bind fun z => if okC z = true then some (ofVal z) else none
def cLookup (P : Program) (t : TypeId) (m k : Operand) (ok : Bool) : Option Prim :=
  (mapT P t).bind fun q => (zeroA P q.2).bind fun z => cB m k (.lk q.1 ok z)
def cMup (P : Program) (t : TypeId) (m k x : Operand) : Option Prim :=
  (mapT P t).bind fun q => (cOpd m).bind fun m => (cOpd k).bind fun k => (cOpd x).bind fun x => some (.mup q.1 m k x)
def cDel (P : Program) (xs : List Operand) (ts : List TypeId) : Option Prim :=
  match xs, ts with
  | [m, k], t :: _ => (mapT P t).bind fun q => cB m k (.mdl q.1)
  | _, _ => none
def cBin (P : Program) (op : BinOp) (t : TypeId) (x y : Operand) : Option Prim :=
  match P.underlying t with
    | some (.int _) => cB x y (.bin op)
    | some .string => cB x y (.bin op)
    | some .bool => cB x y (.binb op)
    | some (.struct _) => if P.eqGuardType P.depth t = false then (plainN P 200 t).bind fun ks => cAeq op ks x y else none
    | some (.pointer _) => cNil op x y
    | some (.slice _) => cNils op x y
    | some (.map _ _) => cNilM op x y
    | some (.interface _) => cNilI op x y
    | some (.array n e) => if P.eqGuardType P.depth t = false then (arrKs P n e).bind fun ks => cAeq op ks x y else none
    | _ => none
def isU8 (P : Program) (e : TypeId) : Bool :=
  match P.underlying e with
  | some (.int .u8) => true
  | _ => false
def cConv (P : Program) (s d : TypeId) (x : Operand) : Option Prim :=
  match P.underlying s with
  | some (.int _) => (match P.underlying d with
    | some (.int k) => cU x (.i2i k)
    | some .string => cU x .i2t
    | _ => none)
  | some .string => (match P.underlying d with
    | some .string => cU x .s2s
    | some (.slice e) => if isU8 P e = true then cU x .s2b else none
    | _ => none)
  | some (.slice e) => (match P.underlying d with
    | some .string => if isU8 P e = true then cU x .b2s else none
    | some (.slice e') => if s = d ∧ isU8 P e' = true then cU x .cvs else none
    | _ => none)
  | _ => none
def cField (P : Program) (t : TypeId) (x : Operand) (i : Nat) : Option Prim :=
  match P.underlying t with
  | some (.struct fs) => (fs[i]?).bind fun f => (aggN P f.type).bind fun n => cU x (.fld f.offset n)
  | _ => none
def cIndex (P : Program) (t : TypeId) (x i : Operand) : Option Prim :=
  match P.underlying t with
  | some .string => cB x i .idxs
  | some (.array len e) => (P.info? e).bind fun j => (aggN P e).bind fun n => cB x i (.idxa j.size n len)
  | _ => none
def cFA (P : Program) (t : TypeId) (x : Operand) (i : Nat) : Option Prim :=
  match P.underlying t with
  | some (.struct fs) => (fs[i]?).bind fun f => (P.info? f.type).bind fun j => if 0 < j.size then cU x (.fa f.offset) else none
  | _ => none
def cIA (P : Program) (t : TypeId) (x i : Operand) : Option Prim :=
  match P.underlying t with
  | some (.array len e) => (P.info? e).bind fun j => cB x i (.iap j.size len)
  | some (.slice e) => (P.info? e).bind fun j => cB x i (.ias j.size)
  | _ => none
def cSlice (P : Program) (t : TypeId) (x : Operand) (lo hi : Option Operand) : Option Prim :=
  match P.underlying t with
  | some .string => (cOpd x).bind fun x => (cOpdo lo).bind fun lo => (cOpdo hi).bind fun hi => some (.sls x lo hi)
  | some (.slice e) => (P.info? e).bind fun j => (cOpd x).bind fun x => (cOpdo lo).bind fun lo => (cOpdo hi).bind fun hi => some (.slx j.size x lo hi)
  | _ => none
def cMkf (f : Fn) (first caps : Array Operand) : Option Prim :=
  match f with
  | .func f => if first = #[] ∧ f < yB then (cOpds caps.toList).bind fun l => some (.mkf f l) else none
  | _ => none
def cMakeSlice (P : Program) (t : TypeId) (l c : Operand) (h : Prim) : Option Prim :=
  match P.underlying t with
  | some (.slice e) => (P.info? e).bind fun j => (zeroC P e).bind fun z => (cOpd l).bind fun l => (cOpd c).bind fun c =>
    if 0 < j.size ∧ 0 < j.bytes ∧ z.length = j.size then (match h with
      | .mk own _ _ _ _ _ => some (.mk own j.size j.bytes z l c)
      | _ => none) else none
  | _ => none
def cRange (P : Program) (t : TypeId) (x : Operand) : Option Prim :=
  match P.underlying t with
  | some .string => cU x .rng
  | _ => none
def cLen (P : Program) (xs : List Operand) (ts : List TypeId) : Option Prim :=
  match xs, ts with
  | [x], [t] => (match P.underlying t with
    | some .string => cU x .lens
    | some (.slice _) => cU x .len
    | some (.map _ _) => cU x .lenm
    | _ => none)
  | _, _ => none
def isApp (P : Program) (u : TypeId) : Bool :=
  match P.underlying u with
  | some (.slice _) => true
  | some .string => true
  | _ => false
def cApp (P : Program) (xs : List Operand) (ts : List TypeId) : Option Prim :=
  match xs, ts with
  | [x, y], [t, u] => (match P.underlying t with
    | some (.slice e) => (P.info? e).bind fun j =>
      if (0 < j.size ∧ 0 < j.bytes ∧ (j.zero.map fun z => z.cells.size) = some j.size) ∧ isApp P u = true then cB x y (.app j.size j.bytes) else none
    | _ => none)
  | _, _ => none
def cBuiltin (P : Program) (b : Builtin) (xs : Array Operand) (ts : Array TypeId) : Option Prim :=
  match b with
  | .len => cLen P xs.toList ts.toList
  | .append => cApp P xs.toList ts.toList
  | .delete => cDel P xs.toList ts.toList
  | .min => (cOpds xs.toList).bind fun l => some (.mn l)
  | .max => (cOpds xs.toList).bind fun l => some (.mx l)
  | _ => none
def cCallB (P : Program) (c : Call) : Option Prim :=
  match c.callee with
  | .builtin b => cBuiltin P b c.args c.argTypes
  | _ => none
def cMov (x : Operand) (h : Prim) : Option Prim :=
  match h with
  | .snp _ => cU x .snp
  | _ => cU x .mov
def cPrim (P : Program) (o : Op) (h : Prim) : Option Prim :=
  match o with
  | .move x => cMov x h
  | .assign x => cMov x h
  | .pick c a b => (cOpd c).bind fun c => (cOpd a).bind fun a => (cOpd b).bind fun b => some (.pick c a b)
  | .alloc t => (zeroC P t).bind fun z => some (.alloc z)
  | .box _ x => cU x .box
  | .build t parts => cBuild P t parts
  | .buildSlice t len parts => cBuildSlice P t len parts h
  | .load t p => (aggN P t).bind fun n => cU p (.load n)
  | .store t p x => (P.info? t).bind fun i => cB p x (.store i.size)
  | .nilCheck x => cU x .nilck
  | .binOp op t x y _ => cBin P op t x y
  | .unOp op _ x => cU x (.un op)
  | .convert s d x => cConv P s d x
  | .extract x i => cU x (.ext i)
  | .field t x i => cField P t x i
  | .index t x i => cIndex P t x i
  | .fieldAddr t x i => cFA P t x i
  | .indexAddr t x i => cIA P t x i
  | .slice t x lo hi mx => if mx.isNone = true then cSlice P t x lo hi else none
  | .makeFunc f first caps => cMkf f first caps
  | .makeSlice t l c => cMakeSlice P t l c h
  | .range t x => cRange P t x
  | .makeMap _ r => if r.isNone = true then some .mkm else none
  | .lookup t m k ok => cLookup P t m k ok
  | .mapUpdate t m k x => cMup P t m k x
  | .next x s => if s = true then cU x .nxt else none
  | .call c => cCallB P c
  | _ => none
end Go.Proofs.YtoobogpbejdocaaDoor.Ev
