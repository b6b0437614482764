import Derived.Test.YtoobogpbejdocaaDoorEvPrimH
import Derived.Orders
set_option linter.unusedVariables false
set_option linter.unusedSectionVars false
set_option linter.unusedSimpArgs false
namespace Go.Proofs.YtoobogpbejdocaaDoor.Ev
inductive Bod where
  | prim (p : Prim)
  | primr (p : Prim) (ex : List Nat)
  | call (m : Mode) (f : Opd) (args : List Opd)
  deriving Inhabited
structure FO where
  d : Option Nat
  b : Bod
  g : Option (Nat × Bool)
  deriving Inhabited
mutual
def Item.fo (g : Option (Nat × Bool)) : Item → List FO
  | .op d p => [⟨d, .prim p, g⟩]
  | .opr d p ex => [⟨d, .primr p ex, g⟩]
  | .call d m f args => [⟨d, .call m f args, g⟩]
  | .gand d (.t c) sub x => Item.fos (some (c, true)) sub ++ [⟨some d, .prim (.pick (.t c) x (.c (.v (.bool false)))), g⟩]
  | .gor d (.t c) sub x => Item.fos (some (c, false)) sub ++ [⟨some d, .prim (.pick (.t c) (.c (.v (.bool true))) x), g⟩]
  | .gif (.t c) want sub => Item.fos (some (c, want)) sub
  | _ => []
def Item.fos (g : Option (Nat × Bool)) : List Item → List FO
  | [] => []
  | i :: is => Item.fo g i ++ Item.fos g is
end
section
variable (G : Nat → Option (List AV)) (raw : Raw) (bases : List Nat)
def Bod.ev (e : Env) (st : Store) : Bod → Option (AV × Store)
  | .prim p => p.ev G bases e st
  | .primr p ex => match p.rdo.ev G e with
    | some v => if (boxQ st v && exQ e v ex) = true then p.ev G bases e st else none
    | none => none
  | .call m f args => match f.ev G e with
    | some fv => match Opd.evs G e args with
      | some az => callM raw m fv az bases st
      | none => none
    | none => none
def FO.want (e : Env) (f : FO) : Option Bool :=
  match f.g with
  | none => some true
  | some (c, w) => match e.get c with
    | some (.v (.bool b)) => some (b == w)
    | some (.tup []) => some false
    | _ => none
def FO.run (e : Env) (st : Store) (f : FO) : Option (AV × Store) :=
  match f.want e with
  | some true => f.b.ev G raw bases e st
  | some false => some (.tup [], st)
  | none => none
def FO.runs : List FO → Env → Store → Option (Env × Store)
  | [], e, st => some (e, st)
  | f :: fs, e, st => match f.run G raw bases e st with
    | some (a, st') => FO.runs fs (Env.put e f.d a) st'
    | none => none
end
def Opd.tmps : Opd → List Nat
  | .t n => [n]
  | _ => []
def otmps : Option Opd → List Nat
  | some x => x.tmps
  | none => []
def Prim.tmps : Prim → List Nat
  | .mov x => x.tmps
  | .pick c a b => c.tmps ++ a.tmps ++ b.tmps
  | .alloc _ => []
  | .box x => x.tmps
  | .build _ ps => ps.flatMap fun p => p.2.2.tmps
  | .bsl _ _ ps => ps.flatMap Opd.tmps
  | .load _ p => p.tmps
  | .store _ p x => p.tmps ++ x.tmps
  | .nilck x => x.tmps
  | .bin _ x y => x.tmps ++ y.tmps
  | .binb _ x y => x.tmps ++ y.tmps
  | .aeq _ _ x y => x.tmps ++ y.tmps
  | .isnil _ x => x.tmps
  | .isnilI _ x => x.tmps
  | .isnils _ x => x.tmps
  | .un _ x => x.tmps
  | .i2i _ x => x.tmps
  | .i2t x => x.tmps
  | .s2b x => x.tmps
  | .b2s x => x.tmps
  | .ext _ x => x.tmps
  | .fld _ _ x => x.tmps
  | .idxs x i => x.tmps ++ i.tmps
  | .idxa _ _ _ x i => x.tmps ++ i.tmps
  | .fa _ p => p.tmps
  | .iap _ _ p i => p.tmps ++ i.tmps
  | .ias _ x i => x.tmps ++ i.tmps
  | .sls x lo hi => x.tmps ++ otmps lo ++ otmps hi
  | .slx _ x lo hi => x.tmps ++ otmps lo ++ otmps hi
  | .s2s x => x.tmps
  | .len x => x.tmps
  | .lens x => x.tmps
  | .app _ _ x y => x.tmps ++ y.tmps
  | .mkf _ caps => caps.flatMap Opd.tmps
  | .mk _ _ _ _ l c => l.tmps ++ c.tmps
  | .rng x => x.tmps
  | .nxt x => x.tmps
  | .mn xs => xs.flatMap Opd.tmps
  | .mx xs => xs.flatMap Opd.tmps
  | .snp x => x.tmps
  | .cvs x => x.tmps
  | .mkm => []
  | .lk _ _ _ m k => m.tmps ++ k.tmps
  | .mup _ m k x => m.tmps ++ k.tmps ++ x.tmps
  | .mdl _ m k => m.tmps ++ k.tmps
  | .isnilm _ x => x.tmps
  | .lenm x => x.tmps
def Bod.tmps : Bod → List Nat
  | .prim p => p.tmps
  | .primr p ex => p.rdo.tmps ++ (p.tmps ++ ex)
  | .call _ f args => f.tmps ++ args.flatMap Opd.tmps
def FO.tmps (f : FO) : List Nat := f.b.tmps ++ (match f.g with | some (c, _) => [c] | none => [])
section
variable {G : Nat → Option (List AV)} {raw : Raw} {bases : List Nat} {e e' : Env}
theorem Opd.congr {x : Opd} (h : ∀ t, t ∈ x.tmps → e.get t = e'.get t) : x.ev G e = x.ev G e' := by
  cases x with
  | t n => exact h n (by simp [Opd.tmps])
  | _ => rfl
theorem Opd.congrs : ∀ {l : List Opd}, (∀ t, t ∈ l.flatMap Opd.tmps → e.get t = e'.get t) → Opd.evs G e l = Opd.evs G e' l
  | [], _ => rfl
  | x :: xs, h => by
    have h1 : x.ev G e = x.ev G e' := Opd.congr fun t ht => h t (by simp [ht])
    have h2 : Opd.evs G e xs = Opd.evs G e' xs := Opd.congrs fun t ht => h t (by simp only [List.flatMap_cons, List.mem_append]; exact .inr ht)
    simp only [Opd.evs, h1, h2]
theorem Opd.congro {x : Option Opd} (h : ∀ t, t ∈ otmps x → e.get t = e'.get t) : Opd.evo G e x = Opd.evo G e' x := by
  cases x with
  | none => rfl
  | some x =>
    have h1 : x.ev G e = x.ev G e' := Opd.congr h
    simp only [Opd.evo, h1]
theorem parts_congr {n : Nat} : ∀ {l : List (Nat × Nat × Opd)}, (∀ t, t ∈ (l.flatMap fun p => p.2.2.tmps) → e.get t = e'.get t) → evParts G e n l = evParts G e' n l
  | [], _ => rfl
  | (o, k, x) :: r, h => by
    have h1 : x.ev G e = x.ev G e' := Opd.congr fun t ht => h t (by simp [ht])
    have h2 : evParts G e n r = evParts G e' n r := parts_congr fun t ht => h t (by simp only [List.flatMap_cons, List.mem_append]; exact .inr ht)
    simp only [evParts, h1, h2]
theorem Prim.congr {p : Prim} {st : Store} (h : ∀ t, t ∈ p.tmps → e.get t = e'.get t) : p.ev G bases e st = p.ev G bases e' st := by
  cases p
  case pick c a b =>
    simp only [Prim.tmps, List.mem_append] at h
    have h1 : c.ev G e = c.ev G e' := Opd.congr fun t ht => h t (.inl (.inl ht))
    have h2 : a.ev G e = a.ev G e' := Opd.congr fun t ht => h t (.inl (.inr ht))
    have h3 : b.ev G e = b.ev G e' := Opd.congr fun t ht => h t (.inr ht)
    simp only [Prim.ev, h1]
    split
    · rename_i t _
      cases t
      · simp only [Bool.false_eq_true, if_false, h3]
      · simp only [if_true, h2]
    · rfl
  case build z ps => simp only [Prim.ev, parts_congr h]
  case bsl o k ps => simp only [Prim.ev, Opd.congrs h]
  case mkf f ps => simp only [Prim.ev, Opd.congrs h]
  case mn ps => simp only [Prim.ev, Opd.congrs h]
  case mx ps => simp only [Prim.ev, Opd.congrs h]
  case alloc => rfl
  case mkm => rfl
  case mup t m k x =>
    simp only [Prim.tmps, List.mem_append] at h
    have h1 : m.ev G e = m.ev G e' := Opd.congr fun t ht => h t (.inl (.inl ht))
    have h2 : k.ev G e = k.ev G e' := Opd.congr fun t ht => h t (.inl (.inr ht))
    have h3 : x.ev G e = x.ev G e' := Opd.congr fun t ht => h t (.inr ht)
    simp only [Prim.ev, h1, h2, h3]
  case sls x lo hi =>
    simp only [Prim.tmps, List.mem_append] at h
    have h1 : x.ev G e = x.ev G e' := Opd.congr fun t ht => h t (.inl (.inl ht))
    have h2 : Opd.evo G e lo = Opd.evo G e' lo := Opd.congro fun t ht => h t (.inl (.inr ht))
    have h3 : Opd.evo G e hi = Opd.evo G e' hi := Opd.congro fun t ht => h t (.inr ht)
    simp only [Prim.ev, h1, h2, h3]
  case slx k x lo hi =>
    simp only [Prim.tmps, List.mem_append] at h
    have h1 : x.ev G e = x.ev G e' := Opd.congr fun t ht => h t (.inl (.inl ht))
    have h2 : Opd.evo G e lo = Opd.evo G e' lo := Opd.congro fun t ht => h t (.inl (.inr ht))
    have h3 : Opd.evo G e hi = Opd.evo G e' hi := Opd.congro fun t ht => h t (.inr ht)
    simp only [Prim.ev, h1, h2, h3]
  all_goals
    simp only [Prim.tmps, List.mem_append] at h
    first
      | (rename_i x
         have h1 : x.ev G e = x.ev G e' := Opd.congr h
         simp only [Prim.ev, h1]; done)
      | (rename_i x y
         have h1 : x.ev G e = x.ev G e' := Opd.congr fun t ht => h t (.inl ht)
         have h2 : y.ev G e = y.ev G e' := Opd.congr fun t ht => h t (.inr ht)
         simp only [Prim.ev, h1, h2]; done)
theorem Bod.congr {b : Bod} {st : Store} (h : ∀ t, t ∈ b.tmps → e.get t = e'.get t) : b.ev G raw bases e st = b.ev G raw bases e' st := by
  cases b with
  | prim p => exact Prim.congr h
  | primr p ex =>
    simp only [Bod.tmps, List.mem_append] at h
    have h1 : p.rdo.ev G e = p.rdo.ev G e' := Opd.congr fun t ht => h t (.inl ht)
    have h2 : p.ev G bases e st = p.ev G bases e' st := Prim.congr fun t ht => h t (.inr (.inl ht))
    have h3 : ∀ v, exQ e v ex = exQ e' v ex := fun v => by
      unfold exQ
      have h4 : ∀ t, t ∈ ex → e.get t = e'.get t := fun t ht => h t (.inr (.inr ht))
      clear h
      induction ex with
      | nil => rfl
      | cons t ex ih => simp only [List.all_cons, h4 t List.mem_cons_self, ih fun u hu => h4 u (List.mem_cons_of_mem _ hu)]
    simp only [Bod.ev, h1, h2, h3]
  | call m f args =>
    simp only [Bod.tmps, List.mem_append] at h
    have h1 : f.ev G e = f.ev G e' := Opd.congr fun t ht => h t (.inl ht)
    have h2 : Opd.evs G e args = Opd.evs G e' args := Opd.congrs fun t ht => h t (.inr ht)
    simp only [Bod.ev, h1, h2]
theorem FO.want_congr {f : FO} (h : ∀ t, t ∈ f.tmps → e.get t = e'.get t) : f.want e = f.want e' := by
  unfold FO.want
  cases hg : f.g with
  | none => rfl
  | some x =>
    obtain ⟨c, w⟩ := x
    simp only [h c (by simp [FO.tmps, hg])]
theorem FO.congr {f : FO} {st : Store} (h : ∀ t, t ∈ f.tmps → e.get t = e'.get t) : f.run G raw bases e st = f.run G raw bases e' st := by
  unfold FO.run
  rw [FO.want_congr h, Bod.congr fun t ht => h t (by simp [FO.tmps, ht])]
end
inductive Cl where
  | p | rd | rc | a | g | ap | rb
  deriving DecidableEq
def rdc : Opd → Cl
  | .c k => if k.id?.isSome = true then .g else .rd
  | _ => .rd
def Prim.cl : Prim → Cl
  | .mov _ | .pick .. | .build .. | .bin .. | .binb .. | .aeq .. | .un .. | .i2i .. | .i2t _ | .isnilI .. | .s2s _ | .s2b _ | .ext .. | .fld .. | .idxs .. | .idxa .. | .sls .. | .lens _ | .mkf .. | .mn _ | .mx _ => .p
  | .bsl own _ _ => if own then .a else .p
  | .mk own _ _ _ _ _ => if own then .a else .p
  | .alloc _ | .box _ | .rng _ | .mkm => .a
  | .load _ x => rdc x
  | .nilck x => rdc x
  | .isnil _ x => rdc x
  | .fa _ x => rdc x
  | .iap _ _ x _ => rdc x
  | .ias _ x _ => rdc x
  | .slx _ x _ _ => rdc x
  | .len x => rdc x
  | .b2s _ => .rc
  | .app .. => .ap
  | _ => .g
theorem rdc_or (x : Opd) : rdc x = .rd ∨ rdc x = .g := by
  cases x <;> simp only [rdc] <;> first | exact .inl trivial | (split <;> simp)
def Bod.cl : Bod → Cl
  | .prim p => p.cl
  | .primr p _ => match p.cl with
    | .rd => .rb
    | _ => .g
  | .call .P _ _ => .rc
  | .call .Q _ _ => .p
  | .call .A _ _ => .ap
  | .call .B _ _ => .ap
  | .call _ _ _ => .g
def Finds (st st2 : Store) (x : AV) : Prop := ∀ id ob, x.id? = some id → st[id]? = some ob → st2[id]? = some ob
section
variable {G : Nat → Option (List AV)} {raw : Raw} {bases : List Nat} {e : Env} {st st1 st2 : Store} {a : AV}
theorem cl_p {p : Prim} (hc : p.cl = .p) (h : p.ev G bases e st = some (a, st1)) : st1 = st ∧ ∀ st2, p.ev G bases e st2 = some (a, st2) := by
  have key : ∀ {st st1 : Store} {a : AV}, p.ev G bases e st = some (a, st1) → ∀ st2, st1 = st ∧ p.ev G bases e st2 = some (a, st2) := by
    clear h
    intro st st1 a h st2
    cases p <;> simp only [Prim.cl] at hc <;> (try (first | (cases hc; done) | (rename_i x; rcases rdc_or x with q | q <;> rw [q] at hc <;> cases hc; done) | (rename_i x _; rcases rdc_or x with q | q <;> rw [q] at hc <;> cases hc; done) | (rename_i x _ _; rcases rdc_or x with q | q <;> rw [q] at hc <;> cases hc; done))) <;> simp only [Prim.ev] at h ⊢
    case bsl own k ps =>
      cases own
      · simp only [Bool.false_eq_true, if_false] at h ⊢
        repeat' split at h
        all_goals first | (cases h; done) | skip
        all_goals simp_all
      · cases hc
    case mk own k b z l c =>
      cases own
      · simp only [Bool.false_eq_true, if_false] at h ⊢
        repeat' split at h
        all_goals first | (cases h; done) | skip
        all_goals simp_all
      · cases hc
    all_goals
      repeat' split at h
      all_goals first | (cases h; done) | skip
      all_goals simp_all
  exact ⟨(key h st).1, fun st2 => (key h st2).2⟩
theorem cl_rd {p : Prim} (hc : p.cl = .rd) (h : p.ev G bases e st = some (a, st1)) (hf : ∀ (v : AV), p.rdo.ev G e = some v → Finds st st2 v) : st1 = st ∧ p.ev G bases e st2 = some (a, st2) := by
  have hl : ∀ {id g}, liveRef st id g = true → (∀ ob, st[id]? = some ob → st2[id]? = some ob) → liveRef st2 id g = true := by
    intro id g h1 h2
    unfold liveRef at h1 ⊢
    cases h3 : st[id]? with
    | none => rw [h3] at h1; cases h1
    | some ob => rw [h2 ob h3]; rw [h3] at h1; exact h1
  have hd : ∀ {x cs}, ldAt st x = some cs → Finds st st2 x → ldAt st2 x = some cs := by
    intro x cs h1 h2
    cases x <;> simp only [ldAt] at h1 ⊢ <;> try (first | exact h1 | cases h1)
    rename_i id gen i off
    cases h3 : st[id]? with
    | none => rw [h3] at h1; cases h1
    | some ob => rw [h2 id ob rfl h3]; rw [h3] at h1; exact h1
  have hn : ∀ {x n}, lenAV st x = some n → Finds st st2 x → lenAV st2 x = some n := by
    intro x n h1 h2
    cases x
    case v w =>
      simp only [lenAV] at h1 ⊢
      split at h1 <;> first | (cases h1; done) | exact h1 | (simp_all; done)
    case sl k xs => exact h1
    case own id gen off len =>
      simp only [lenAV] at h1 ⊢
      cases h3 : st[id]? with
      | none => rw [h3] at h1; cases h1
      | some ob => rw [h2 id ob rfl h3]; rw [h3] at h1; exact h1
    all_goals cases h1
  cases p <;> simp only [Prim.cl] at hc <;> (try (first | (cases hc; done) | (split at hc <;> cases hc; done))) <;> simp only [Prim.ev] at h ⊢
  case load n p =>
    cases k1 : p.ev G e with
    | none => rw [k1] at h; cases h
    | some x =>
      rw [k1] at h
      dsimp only at h ⊢
      cases k2 : ldAt st x with
      | none => rw [k2] at h; cases h
      | some cs =>
        rw [hd k2 (hf _ k1)]
        rw [k2] at h
        dsimp only at h ⊢
        split at h
        · rename_i r k3
          simp only [Option.some.injEq, Prod.mk.injEq] at h
          obtain ⟨rfl, rfl⟩ := h
          simp [k3]
        · cases h
  case nilck x =>
    split at h
    · rename_i id g i o k1
      split at h
      · rename_i k2
        simp only [Option.some.injEq, Prod.mk.injEq] at h
        obtain ⟨rfl, rfl⟩ := h
        simp [k1, hl k2 fun ob ho => hf _ k1 id ob rfl ho]
      · cases h
    · rename_i cs k1
      simp only [Option.some.injEq, Prod.mk.injEq] at h
      obtain ⟨rfl, rfl⟩ := h
      simp [k1]
    · rename_i f cs k1
      simp only [Option.some.injEq, Prod.mk.injEq] at h
      obtain ⟨rfl, rfl⟩ := h
      simp [k1]
    · cases h
  case isnil neg x =>
    split at h
    · rename_i id g i o k1
      split at h
      · rename_i k2
        simp only [Option.some.injEq, Prod.mk.injEq] at h
        obtain ⟨rfl, rfl⟩ := h
        simp [k1, hl k2 fun ob ho => hf _ k1 id ob rfl ho]
      · cases h
    · rename_i k1
      simp only [Option.some.injEq, Prod.mk.injEq] at h
      obtain ⟨rfl, rfl⟩ := h
      simp [k1]
    · cases h
  case fa off p =>
    split at h
    · rename_i cs k1
      simp only [Option.some.injEq, Prod.mk.injEq] at h
      obtain ⟨rfl, rfl⟩ := h
      simp [k1]
    · rename_i id g i o k1
      split at h
      · rename_i k2
        simp only [Option.some.injEq, Prod.mk.injEq] at h
        obtain ⟨rfl, rfl⟩ := h
        simp [k1, hl k2 fun ob ho => hf _ k1 id ob rfl ho]
      · cases h
    · cases h
  case iap k ln p i =>
    cases k1 : p.ev G e with
    | none => rw [k1] at h; cases h
    | some x =>
      rw [k1] at h
      dsimp only at h ⊢
      split at h
      · rename_i kk j k2
        split at h
        · rename_i k3
          rw [if_pos k3]
          split at h
          · rename_i cs
            simp only [Option.some.injEq, Prod.mk.injEq] at h
            obtain ⟨rfl, rfl⟩ := h
            exact ⟨rfl, rfl⟩
          · rename_i id g r o
            split at h
            · rename_i k4
              simp only [Option.some.injEq, Prod.mk.injEq] at h
              obtain ⟨rfl, rfl⟩ := h
              simp [hl k4 fun ob ho => hf _ k1 id ob rfl ho]
            · cases h
          · cases h
        · cases h
      · cases h
  case ias k x i =>
    cases k1 : x.ev G e with
    | none => rw [k1] at h; cases h
    | some x' =>
      rw [k1] at h
      dsimp only at h ⊢
      split at h
      · rename_i kk j k2
        split at h
        · rename_i k3
          rw [if_pos k3]
          split at h
          · rename_i k' xs
            split at h
            · rename_i k4
              rw [if_pos k4]
              split at h
              · rename_i c k5
                simp only [Option.some.injEq, Prod.mk.injEq] at h
                obtain ⟨rfl, rfl⟩ := h
                simp [k5]
              · cases h
            · cases h
          · rename_i id gen off ln
            split at h
            · rename_i k' g xs nw k5
              rw [hf _ k1 id _ rfl k5]
              dsimp only
              split at h
              · rename_i k4
                rw [if_pos k4]
                simp only [Option.some.injEq, Prod.mk.injEq] at h
                obtain ⟨rfl, rfl⟩ := h
                exact ⟨rfl, rfl⟩
              · cases h
            · cases h
          · cases h
        · cases h
      · cases h
  case slx k x lo hi =>
    cases k1 : x.ev G e with
    | none => rw [k1] at h; cases h
    | some z =>
      rw [k1] at h
      dsimp only at h ⊢
      cases k2 : Opd.evo G e lo with
      | none => rw [k2] at h; cases h
      | some l =>
        rw [k2] at h
        dsimp only at h ⊢
        cases k3 : Opd.evo G e hi with
        | none => rw [k3] at h; cases h
        | some hh =>
          rw [k3] at h
          dsimp only at h ⊢
          cases k4 : lenAV st z with
          | none => rw [k4] at h; cases h
          | some n =>
            rw [hn k4 (hf _ k1)]
            rw [k4] at h
            dsimp only at h ⊢
            split at h
            · rename_i k5
              rw [if_pos k5]
              split at h
              · rename_i k' xs
                split at h
                · rename_i k6
                  rw [if_pos k6]
                  simp only [Option.some.injEq, Prod.mk.injEq] at h
                  obtain ⟨rfl, rfl⟩ := h
                  exact ⟨rfl, rfl⟩
                · cases h
              · rename_i id gen off ln
                split at h
                · rename_i k' g xs nw k7
                  rw [hf _ k1 id _ rfl k7]
                  dsimp only
                  split at h
                  · rename_i k6
                    rw [if_pos k6]
                    simp only [Option.some.injEq, Prod.mk.injEq] at h
                    obtain ⟨rfl, rfl⟩ := h
                    exact ⟨rfl, rfl⟩
                  · cases h
                · cases h
              · simp only [Option.some.injEq, Prod.mk.injEq] at h
                obtain ⟨rfl, rfl⟩ := h
                exact ⟨rfl, rfl⟩
              · cases h
            · cases h
  case len x =>
    cases k1 : x.ev G e with
    | none => rw [k1] at h; cases h
    | some z =>
      rw [k1] at h
      dsimp only at h ⊢
      cases k4 : lenAV st z with
      | none => rw [k4] at h; cases h
      | some n =>
        rw [hn k4 (hf _ k1)]
        rw [k4] at h
        dsimp only at h ⊢
        simp only [Option.some.injEq, Prod.mk.injEq] at h
        obtain ⟨rfl, rfl⟩ := h
        exact ⟨rfl, rfl⟩
theorem cl_a {p : Prim} (hc : p.cl = .a) (h : p.ev G bases e st = some (a, st1)) : ∃ l, st1 = st ++ l := by
  cases p <;> simp only [Prim.cl] at hc <;> (try (first | (cases hc; done) | (split at hc <;> cases hc; done) | (rename_i x; rcases rdc_or x with q | q <;> rw [q] at hc <;> cases hc; done) | (rename_i x _; rcases rdc_or x with q | q <;> rw [q] at hc <;> cases hc; done) | (rename_i x _ _; rcases rdc_or x with q | q <;> rw [q] at hc <;> cases hc; done))) <;> simp only [Prim.ev] at h
  all_goals
    repeat' split at h
    all_goals first | (cases h; done) | skip
    all_goals (simp only [Option.some.injEq, Prod.mk.injEq] at h; obtain ⟨_, rfl⟩ := h; first | exact ⟨_, rfl⟩ | exact ⟨[], by simp⟩)
theorem cl_b2s {x : Opd} (h : (Prim.b2s x).ev G bases e st = some (a, st1)) : st1 = st := by
  simp only [Prim.ev] at h
  repeat' split at h
  all_goals first | (cases h; done) | (simp only [Option.some.injEq, Prod.mk.injEq] at h; exact h.2.symm)
theorem cl_rc {b : Bod} (hc : b.cl = .rc) (h : b.ev G raw bases e st = some (a, st1)) : st1 = st := by
  cases b with
  | prim p =>
    simp only [Bod.cl] at hc
    cases p <;> simp only [Prim.cl] at hc <;> (try (first | (cases hc; done) | (split at hc <;> cases hc; done) | (rename_i x; rcases rdc_or x with q | q <;> rw [q] at hc <;> cases hc; done) | (rename_i x _; rcases rdc_or x with q | q <;> rw [q] at hc <;> cases hc; done) | (rename_i x _ _; rcases rdc_or x with q | q <;> rw [q] at hc <;> cases hc; done)))
    exact cl_b2s (bases := bases) h
  | primr p ex =>
    simp only [Bod.cl] at hc
    split at hc <;> cases hc
  | call m f args =>
    cases m <;> simp only [Bod.cl] at hc <;> try cases hc
    simp only [Bod.ev, callM] at h
    repeat' split at h
    all_goals first | (cases h; done) | (simp only [Option.some.injEq, Prod.mk.injEq] at h; exact h.2.symm)
theorem callQ_p {f : Opd} {args : List Opd} (h : (Bod.call .Q f args).ev G raw bases e st = some (a, st1)) : st1 = st ∧ ∀ st2, (Bod.call .Q f args).ev G raw bases e st2 = some (a, st2) := by
  simp only [Bod.ev] at h ⊢
  cases h1 : f.ev G e with
  | none => rw [h1] at h; cases h
  | some fv =>
    rw [h1] at h
    dsimp only at h ⊢
    cases h2 : Opd.evs G e args with
    | none => rw [h2] at h; cases h
    | some az =>
      rw [h2] at h
      dsimp only at h ⊢
      cases fv <;> simp only [callM] at h ⊢ <;> try (cases h; done)
      split at h
      · rename_i c
        simp only [c, if_true]
        split at h
        · rename_i r st3 h3
          split at h
          · rename_i r' h4
            simp only [Option.some.injEq, Prod.mk.injEq] at h
            obtain ⟨rfl, rfl⟩ := h
            exact ⟨rfl, fun st2 => by simp [h3, h4]⟩
          · cases h
        · cases h
      · cases h
def BoxLe (st st2 : Store) : Prop := st.length ≤ st2.length ∧ ∀ id, id < st.length → ∀ cs, st2[id]? = some (.box cs) ↔ st[id]? = some (.box cs)
theorem BoxLe.refl (st : Store) : BoxLe st st := ⟨Nat.le_refl _, fun _ _ _ => Iff.rfl⟩
theorem BoxLe.trans {a b c : Store} (h : BoxLe a b) (k : BoxLe b c) : BoxLe a c := ⟨Nat.le_trans h.1 k.1, fun id hid cs => (k.2 id (Nat.lt_of_lt_of_le hid h.1) cs).trans (h.2 id hid cs)⟩
theorem BoxLe.app (st l : Store) : BoxLe st (st ++ l) := ⟨by simp, fun id hid cs => by rw [List.getElem?_append_left hid]⟩
theorem BoxLe.row {st : Store} {id k g k' g' : Nat} {xs xs' : List (List AV)} {nw nw' : Bool} (h : st[id]? = some (.row k g xs nw)) : BoxLe st (st.set id (.row k' g' xs' nw')) := by
  refine ⟨by simp, fun j hj cs => ?_⟩
  by_cases hij : id = j
  · subst hij
    rw [List.getElem?_set_self (by simpa using hj), h]
    simp
  · rw [List.getElem?_set_ne hij]
theorem cl_ap {p : Prim} (hc : p.cl = .ap) (h : p.ev G bases e st = some (a, st1)) : BoxLe st st1 := by
  cases p <;> simp only [Prim.cl] at hc <;> (try (first | (cases hc; done) | (split at hc <;> cases hc; done) | (rename_i x; rcases rdc_or x with q | q <;> rw [q] at hc <;> cases hc; done) | (rename_i x _; rcases rdc_or x with q | q <;> rw [q] at hc <;> cases hc; done) | (rename_i x _ _; rcases rdc_or x with q | q <;> rw [q] at hc <;> cases hc; done)))
  simp only [Prim.ev] at h
  repeat' split at h
  all_goals first | (cases h; done) | skip
  all_goals (simp only [Option.some.injEq, Prod.mk.injEq] at h; obtain ⟨_, rfl⟩ := h; first | exact BoxLe.refl _ | exact BoxLe.app _ _ | exact BoxLe.row (by assumption))
theorem callA_app {f : Opd} {args : List Opd} (h : (Bod.call .A f args).ev G raw bases e st = some (a, st1)) : ∃ l, st1 = st ++ l := by
  simp only [Bod.ev] at h
  split at h
  · rename_i fv k1
    split at h
    · rename_i az k2
      cases fv with
      | fn g caps =>
        rw [callM_A] at h
        split at h
        · rename_i c
          simp only [callM] at h
          split at h
          · split at h
            · rw [List.isEmpty_iff.1 c] at h
              split at h
              · cases h
                exact ⟨_, rfl⟩
              · cases h
            · cases h
          · cases h
        · cases h
      | _ => cases h
    · cases h
  · cases h
theorem sameV_eq {a b : Value} (h : sameV a b = true) : a = b := by
  unfold sameV at h
  split at h
  all_goals first | (cases h; done) | rfl | (simp only [Bool.and_eq_true, decide_eq_true_eq] at h; simp_all)
mutual
theorem sameA_eq : ∀ {a b : AV}, sameA a b = true → a = b
  | .v a, b, h => by
    simp only [sameA] at h
    split at h
    · rw [sameV_eq h]
    · cases h
  | .own a b c d, x, h => by
    simp only [sameA] at h
    split at h
    · simp only [Bool.and_eq_true, decide_eq_true_eq] at h; simp_all
    · cases h
  | .ref a b c d, x, h => by
    simp only [sameA] at h
    split at h
    · simp only [Bool.and_eq_true, decide_eq_true_eq] at h; simp_all
    · cases h
  | .mp a, x, h => by
    simp only [sameA] at h
    split at h
    · simp only [decide_eq_true_eq] at h; simp_all
    · cases h
  | .sl e xs, x, h => by
    simp only [sameA] at h
    split at h
    · simp only [Bool.and_eq_true, decide_eq_true_eq] at h
      rw [h.1, sameLL_eq h.2]
    · cases h
  | .agg _, _, h => by simp only [sameA] at h; cases h
  | .tup _, _, h => by simp only [sameA] at h; cases h
  | .rop _, _, h => by simp only [sameA] at h; cases h
  | .fn _ _, _, h => by simp only [sameA] at h; cases h
  | .it _, _, h => by simp only [sameA] at h; cases h
  | .yl _, _, h => by simp only [sameA] at h; cases h
  | .ifc, _, h => by simp only [sameA] at h; cases h
theorem sameL_eq : ∀ {l m : List AV}, sameL l m = true → l = m
  | [], m, h => by
    simp only [sameL, List.isEmpty_iff] at h
    exact h.symm
  | a :: l, m, h => by
    cases m with
    | nil => simp only [sameL] at h; cases h
    | cons b m =>
      simp only [sameL, Bool.and_eq_true] at h
      rw [sameA_eq h.1, sameL_eq h.2]
theorem sameLL_eq : ∀ {l m : List (List AV)}, sameLL l m = true → l = m
  | [], m, h => by
    simp only [sameLL, List.isEmpty_iff] at h
    exact h.symm
  | a :: l, m, h => by
    cases m with
    | nil => simp only [sameLL] at h; cases h
    | cons b m =>
      simp only [sameLL, Bool.and_eq_true] at h
      rw [sameL_eq h.1, sameLL_eq h.2]
end
theorem sameO_box {a b : Ob} (h : sameO a b = true) (cs : List AV) : b = .box cs ↔ a = .box cs := by
  cases a <;> cases b <;> simp only [sameO] at h <;> first | (cases h; done) | (simp; done) | (rw [sameL_eq h])
theorem sameObs_box : ∀ {st st2 : Store}, sameObs st st2 = true → BoxLe st st2
  | [], st2, _ => ⟨by simp, fun id hid => by simp at hid⟩
  | a :: l, b :: m, h => by
    simp only [sameObs, Bool.and_eq_true] at h
    obtain ⟨h1, h2⟩ := sameObs_box h.2
    refine ⟨by simp only [List.length_cons]; omega, fun id hid cs => ?_⟩
    cases id with
    | zero => simp only [List.getElem?_cons_zero, Option.some.injEq]; exact sameO_box h.1 cs
    | succ id => simp only [List.getElem?_cons_succ]; exact h2 id (by simp only [List.length_cons] at hid; omega) cs
  | _ :: _, [], h => by cases h
theorem callB_box {f : Opd} {args : List Opd} (h : (Bod.call .B f args).ev G raw bases e st = some (a, st1)) : BoxLe st st1 := by
  simp only [Bod.ev] at h
  split at h
  · rename_i fv k1
    split at h
    · rename_i az k2
      cases fv with
      | fn g caps => exact sameObs_box (callM_B_some.1 h).2
      | _ => cases h
    · cases h
  · cases h
theorem primr_rb {p : Prim} {ex : List Nat} (hc : (Bod.primr p ex).cl = .rb) (h : (Bod.primr p ex).ev G raw bases e st = some (a, st1)) :
    st1 = st ∧ ∀ st2, (∀ v id cs, p.rdo.ev G e = some v → v.id? = some id → st[id]? = some (.box cs) → exQ e v ex = true → st2[id]? = some (.box cs)) → (Bod.primr p ex).ev G raw bases e st2 = some (a, st2) := by
  have hrd : p.cl = .rd := by
    simp only [Bod.cl] at hc
    split at hc
    · assumption
    · cases hc
  simp only [Bod.ev] at h ⊢
  split at h
  · rename_i v k1
    split at h
    · rename_i k2
      rw [Bool.and_eq_true] at k2
      obtain ⟨k2, k3⟩ := k2
      refine ⟨(cl_rd (st2 := st) hrd h (fun w hw id ob hid hob => hob)).1, fun st2 hb => ?_⟩
      have hq : boxQ st2 v = true := by
        unfold boxQ at k2 ⊢
        cases hid : v.id? with
        | none => rfl
        | some id =>
          rw [hid] at k2
          dsimp only at k2 ⊢
          split at k2
          · rename_i cs hcs
            rw [hb v id cs k1 hid hcs k3]
          · cases k2
      rw [if_pos (by rw [hq, k3]; rfl)]
      refine (cl_rd (st2 := st2) hrd h (fun w hw id ob hid hob => ?_)).2
      rw [k1] at hw
      cases hw
      unfold boxQ at k2
      rw [hid] at k2
      dsimp only at k2
      split at k2
      · rename_i cs hcs
        rw [hcs] at hob
        cases hob
        exact hb v id cs k1 hid hcs k3
      · cases k2
    · cases h
  · cases h
end
end Go.Proofs.YtoobogpbejdocaaDoor.Ev
