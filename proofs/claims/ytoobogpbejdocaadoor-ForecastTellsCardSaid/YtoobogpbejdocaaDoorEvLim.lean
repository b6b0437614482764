import Derived.Test.YtoobogpbejdocaaDoorEvBase
set_option linter.unusedVariables false
set_option linter.unusedSectionVars false
set_option linter.unusedSimpArgs false
namespace Go.Proofs.YtoobogpbejdocaaDoor.Ev
def LeO {α : Type} (a b : Option α) : Prop := ∀ r, a = some r → b = some r
theorem LeO.refl {α : Type} (a : Option α) : LeO a a := fun _ h => h
theorem LeO.trans {α : Type} {a b c : Option α} (h : LeO a b) (k : LeO b c) : LeO a c := fun _ e => k _ (h _ e)
def RawLe (r r' : Raw) : Prop := ∀ f az bs st, LeO (r f az bs st) (r' f az bs st)
theorem callM_mono0 {r r' : Raw} (h : RawLe r r') (m : Mode) (hm : m ≠ .A) (hm2 : m ≠ .B) (f : AV) (az : List AV) (bs : List Nat) (st : Store) : LeO (callM r m f az bs st) (callM r' m f az bs st) := by
  intro x hx
  unfold callM at hx ⊢
  cases f with
  | fn f caps =>
    cases m with
    | P =>
      dsimp only at hx ⊢
      cases h1 : snaps st (az ++ caps) with
      | none => rw [h1] at hx; cases hx
      | some l =>
        rw [h1] at hx
        dsimp only at hx ⊢
        cases h2 : r f l [] [] with
        | none => rw [h2] at hx; cases hx
        | some p => rw [h2] at hx; rw [h _ _ _ _ _ h2]; exact hx
    | N =>
      dsimp only at hx ⊢
      split at hx
      · rename_i c1
        rw [if_pos c1]
        split at hx
        · rename_i c2
          rw [if_pos c2]
          cases h2 : r f (rens (pos (visit st 0 1000 (idss (az ++ caps)) [])) (az ++ caps)) [] (sel st (pos (visit st 0 1000 (idss (az ++ caps)) [])) (visit st 0 1000 (idss (az ++ caps)) [])) with
          | none => rw [h2] at hx; cases hx
          | some p => rw [h2] at hx; rw [h _ _ _ _ _ h2]; exact hx
        · cases hx
      · cases hx
    | M =>
      dsimp only at hx ⊢
      cases h2 : r f (az ++ caps) (st.length :: bs) st with
      | none => rw [h2] at hx; cases hx
      | some p => rw [h2] at hx; rw [h _ _ _ _ _ h2]; exact hx
    | L => exact h _ _ _ _ _ hx
    | Q =>
      dsimp only at hx ⊢
      split at hx
      · rename_i c
        rw [if_pos c]
        cases h2 : r f (az ++ caps) [] [] with
        | none => rw [h2] at hx; cases hx
        | some p => rw [h2] at hx; rw [h _ _ _ _ _ h2]; exact hx
      · cases hx
    | A => exact absurd rfl hm
    | B => exact absurd rfl hm2
  | yl id =>
    cases m with
    | N =>
      dsimp only at hx ⊢
      split at hx
      · rename_i c1
        rw [if_pos c1]
        split at hx
        · rename_i k env hst
          cases h2 : r k (az ++ env) [] (st.set id (.loop k env .busy)) with
          | none => rw [h2] at hx; cases hx
          | some p => rw [h2] at hx; rw [h _ _ _ _ _ h2]; exact hx
        · cases hx
      · cases hx
    | _ => cases hx
  | _ => exact hx
theorem callM_mono {r r' : Raw} (h : RawLe r r') (m : Mode) (f : AV) (az : List AV) (bs : List Nat) (st : Store) : LeO (callM r m f az bs st) (callM r' m f az bs st) := by
  by_cases hm : m = .A
  · subst hm
    cases f with
    | fn f caps =>
      intro x hx
      rw [callM_A] at hx ⊢
      split at hx
      · rename_i c
        rw [if_pos c]
        exact callM_mono0 h .N (by simp) (by simp) (.fn f caps) az bs st x hx
      · cases hx
    | _ => exact fun _ hx => hx
  · by_cases hm2 : m = .B
    · subst hm2
      cases f with
      | fn f caps =>
        intro x hx
        rw [callM_B_some] at hx ⊢
        exact ⟨callM_mono0 h .N (by simp) (by simp) (.fn f caps) az bs st x hx.1, hx.2⟩
      | _ => exact fun _ hx => hx
    · exact callM_mono0 h m hm hm2 f az bs st
section
variable {G : Nat → Option (List AV)} {r r' : Raw} {bs : List Nat}
theorem Item.mono_all (h : RawLe r r') : (∀ (i : Item) (e : Env) (st : Store), LeO (Item.run G r bs i e st) (Item.run G r' bs i e st)) ∧ (∀ (l : List Item) (e : Env) (st : Store), LeO (Item.runs G r bs l e st) (Item.runs G r' bs l e st)) := by
  have key : ∀ n, (∀ (i : Item), SizeOf.sizeOf i < n → ∀ (e : Env) (st : Store), LeO (Item.run G r bs i e st) (Item.run G r' bs i e st)) ∧ (∀ (l : List Item), SizeOf.sizeOf l < n → ∀ (e : Env) (st : Store), LeO (Item.runs G r bs l e st) (Item.runs G r' bs l e st)) := by
    intro n
    induction n with
    | zero => exact ⟨fun _ h => absurd h (by omega), fun _ h => absurd h (by omega)⟩
    | succ n ih =>
      obtain ⟨ih1, ih2⟩ := ih
      constructor
      · intro i hi e st x hx
        cases i with
        | op d p => exact hx
        | opr d p ex => exact hx
        | call d m f az =>
          simp only [Item.run] at hx ⊢
          cases h1 : f.ev G e with
          | none => rw [h1] at hx; cases hx
          | some fv =>
            rw [h1] at hx
            dsimp only at hx ⊢
            cases h2 : Opd.evs G e az with
            | none => rw [h2] at hx; cases hx
            | some l =>
              rw [h2] at hx
              dsimp only at hx ⊢
              cases h3 : callM r m fv l bs st with
              | none => rw [h3] at hx; cases hx
              | some p => rw [h3] at hx; rw [callM_mono h _ _ _ _ _ _ h3]; exact hx
        | gand d c sub y =>
          simp only [Item.run] at hx ⊢
          have hs : SizeOf.sizeOf sub < n := by simp at hi; omega
          split at hx
          · rename_i b hb
            cases b with
            | false => exact hx
            | true =>
              simp only [if_true] at hx ⊢
              cases h3 : Item.runs G r bs sub e st with
              | none => rw [h3] at hx; cases hx
              | some p => rw [h3] at hx; rw [ih2 _ hs _ _ _ h3]; exact hx
          · cases hx
        | gor d c sub y =>
          simp only [Item.run] at hx ⊢
          have hs : SizeOf.sizeOf sub < n := by simp at hi; omega
          split at hx
          · rename_i b hb
            cases b with
            | true => exact hx
            | false =>
              simp only [Bool.false_eq_true, if_false] at hx ⊢
              cases h3 : Item.runs G r bs sub e st with
              | none => rw [h3] at hx; cases hx
              | some p => rw [h3] at hx; rw [ih2 _ hs _ _ _ h3]; exact hx
          · cases hx
        | gif c w sub =>
          simp only [Item.run] at hx ⊢
          have hs : SizeOf.sizeOf sub < n := by simp at hi; omega
          split at hx
          · rename_i b hb
            by_cases hw : b = w
            · rw [if_pos hw] at hx ⊢; exact ih2 _ hs _ _ _ hx
            · rw [if_neg hw] at hx ⊢; exact hx
          · cases hx
      · intro l hl e st x hx
        cases l with
        | nil => exact hx
        | cons i is =>
          simp only [Item.runs] at hx ⊢
          have hs1 : SizeOf.sizeOf i < n := by simp at hl; omega
          have hs2 : SizeOf.sizeOf is < n := by simp at hl; omega
          cases h3 : Item.run G r bs i e st with
          | none => rw [h3] at hx; cases hx
          | some p => rw [h3] at hx; rw [ih1 _ hs1 _ _ _ h3]; exact ih2 _ hs2 _ _ _ hx
  exact ⟨fun i => (key (SizeOf.sizeOf i + 1)).1 i (by omega), fun l => (key (SizeOf.sizeOf l + 1)).2 l (by omega)⟩
theorem Item.runs_mono (h : RawLe r r') (l : List Item) (e : Env) (st : Store) : LeO (Item.runs G r bs l e st) (Item.runs G r' bs l e st) := (Item.mono_all h).2 l e st
theorem iter_mono {b b' : Env → Store → Option (Sig × Env × Store)} (h : ∀ e st, LeO (b e st) (b' e st)) (cp : Env → Store → Env × Store) : ∀ {n m : Nat}, n ≤ m → ∀ (e : Env) (st : Store), LeO (iter b cp n e st) (iter b' cp m e st) := by
  intro n
  induction n with
  | zero => intro m _ e st x hx; cases hx
  | succ n ih =>
    intro m hm e st x hx
    cases m with
    | zero => omega
    | succ m =>
      simp only [iter] at hx ⊢
      cases h3 : b (cp e st).1 (cp e st).2 with
      | none => rw [h3] at hx; cases hx
      | some p =>
        rw [h3] at hx
        rw [h _ _ _ h3]
        obtain ⟨s, e', st'⟩ := p
        cases s with
        | norm => exact ih (by omega) _ _ _ hx
        | exit id => exact hx
        | ret => exact hx
theorem IR.run_mono (h : RawLe r r') {n m : Nat} (hnm : n ≤ m) (c : IR) : ∀ (e : Env) (st : Store), LeO (IR.run G r bs n c e st) (IR.run G r' bs m c e st) := by
  induction c with
  | skip => intro e st x hx; exact hx
  | items l =>
    intro e st x hx
    simp only [IR.run] at hx ⊢
    cases h3 : Item.runs G r bs l e st with
    | none => rw [h3] at hx; cases hx
    | some p => rw [h3] at hx; rw [Item.runs_mono h _ _ _ _ h3]; exact hx
  | seq a b iha ihb =>
    intro e st x hx
    simp only [IR.run] at hx ⊢
    cases h3 : IR.run G r bs n a e st with
    | none => rw [h3] at hx; cases hx
    | some p =>
      rw [h3] at hx
      rw [iha _ _ _ h3]
      obtain ⟨s, e', st'⟩ := p
      cases s with
      | norm => exact ihb _ _ _ hx
      | exit id => exact hx
      | ret => exact hx
  | cond c a b iha ihb =>
    intro e st x hx
    simp only [IR.run] at hx ⊢
    split at hx
    · rename_i t _
      cases t with
      | true => exact iha _ _ _ hx
      | false => exact ihb _ _ _ hx
    · cases hx
  | block id live b ih =>
    intro e st x hx
    simp only [IR.run] at hx ⊢
    cases h3 : IR.run G r bs n b e st with
    | none => rw [h3] at hx; cases hx
    | some p => rw [h3] at hx; rw [ih _ _ _ h3]; exact hx
  | loop live b ih => intro e st x hx; exact iter_mono ih _ hnm _ _ _ hx
  | exit id live => intro e st x hx; exact hx
  | ret live => intro e st x hx; exact hx
  | rfn g k vars live =>
    intro e st x hx
    simp only [IR.run] at hx ⊢
    split at hx
    · rename_i f caps hg
      split at hx
      · rename_i env hl
        cases h3 : callM r .N (.fn f caps) [.yl st.length] bs (st ++ [.loop k env .rdy]) with
        | none => rw [h3] at hx; cases hx
        | some p => rw [h3] at hx; rw [callM_mono h _ _ _ _ _ _ h3]; exact hx
      · cases hx
    · cases hx
end
theorem callF_succ {P : Prog} : ∀ n, RawLe (callF P n) (callF P (n + 1)) := by
  intro n
  induction n with
  | zero => intro f az bs st x hx; cases hx
  | succ n ih =>
    intro f az bs st x hx
    rw [callF] at hx ⊢
    split at hx
    · exact hx
    · split at hx
      · rename_i fd _
        by_cases ha : az.length = fd.nargs
        · rw [if_pos ha] at hx ⊢
          cases h3 : IR.run P.glob (callF P n) bs n fd.body (argEnv az 0) st with
          | none => rw [h3] at hx; cases hx
          | some p => rw [h3] at hx; rw [IR.run_mono ih (Nat.le_succ n) _ _ _ _ h3]; exact hx
        · rw [if_neg ha] at hx; cases hx
      · split at hx
        · rename_i d _
          by_cases ha : az.length = d.vars.length ∧ bs = []
          · rw [if_pos ha] at hx ⊢
            cases h3 : IR.run P.glob (callF P n) [] n d.body (bindEnv d.vars az) st with
            | none => rw [h3] at hx; cases hx
            | some p => rw [h3] at hx; rw [IR.run_mono ih (Nat.le_succ n) _ _ _ _ h3]; exact hx
          · rw [if_neg ha] at hx; cases hx
        · cases hx
theorem callF_mono {P : Prog} {n m : Nat} (h : n ≤ m) : RawLe (callF P n) (callF P m) := by
  induction h with
  | refl => exact fun _ _ _ _ => LeO.refl _
  | step _ ih => exact fun f az bs st => (ih f az bs st).trans (callF_succ _ f az bs st)
noncomputable def Lim {α : Type} (f : Nat → Option α) : Option α := by
  classical
  exact if h : ∃ n, (f n).isSome = true then f h.choose else none
theorem Lim_iff {α : Type} {f : Nat → Option α} (hm : ∀ n m, n ≤ m → LeO (f n) (f m)) (r : α) : Lim f = some r ↔ ∃ n, f n = some r := by
  classical
  unfold Lim
  constructor
  · intro h
    by_cases hx : ∃ n, (f n).isSome = true
    · rw [dif_pos hx] at h; exact ⟨_, h⟩
    · rw [dif_neg hx] at h; cases h
  · rintro ⟨n, hn⟩
    have hx : ∃ n, (f n).isSome = true := ⟨n, by rw [hn]; rfl⟩
    rw [dif_pos hx]
    obtain ⟨q, hq⟩ := Option.isSome_iff_exists.1 hx.choose_spec
    rw [hq]
    have h1 := hm _ _ (Nat.le_max_left n hx.choose) _ hn
    have h2 := hm _ _ (Nat.le_max_right n hx.choose) _ hq
    rw [← h1, ← h2]
noncomputable def callL (P : Prog) : Raw := fun f az bs st => Lim fun n => callF P n f az bs st
theorem call_iff {P : Prog} {f : Nat} {az : List AV} {bs : List Nat} {st : Store} {r : AV × Store} : callL P f az bs st = some r ↔ ∃ n, callF P n f az bs st = some r :=
  Lim_iff (fun n m h => callF_mono h f az bs st) r
theorem callF_le_call (P : Prog) (n : Nat) : RawLe (callF P n) (callL P) := fun f az bs st r h => call_iff.2 ⟨n, h⟩
theorem call_of {P : Prog} (n : Nat) {f : Nat} {az : List AV} {bs : List Nat} {st : Store} {r : AV × Store} (h : callF P n f az bs st = some r) : callL P f az bs st = some r := call_iff.2 ⟨n, h⟩
noncomputable def iterL (body : Env → Store → Option (Sig × Env × Store)) (cp : Env → Store → Env × Store) (e : Env) (st : Store) : Option (Sig × Env × Store) := Lim fun n => iter body cp n e st
theorem iterL_iff {body : Env → Store → Option (Sig × Env × Store)} {cp : Env → Store → Env × Store} {e : Env} {st : Store} {r : Sig × Env × Store} : iterL body cp e st = some r ↔ ∃ n, iter body cp n e st = some r :=
  Lim_iff (fun n m h => iter_mono (fun _ _ => LeO.refl _) cp h e st) r
theorem ext_some {α : Type} {a b : Option α} (h : ∀ r, a = some r ↔ b = some r) : a = b := by
  cases a with
  | none => cases b with
    | none => rfl
    | some y => exact absurd ((h y).2 rfl) (by simp)
  | some x => exact ((h x).1 rfl).symm
theorem iterL_eq (body : Env → Store → Option (Sig × Env × Store)) (cp : Env → Store → Env × Store) (e : Env) (st : Store) :
    iterL body cp e st = match body (cp e st).1 (cp e st).2 with
      | some (.norm, e', st') => iterL body cp e' st'
      | r => r := by
  apply ext_some
  intro r
  rw [iterL_iff]
  cases h3 : body (cp e st).1 (cp e st).2 with
  | none =>
    constructor
    · rintro ⟨n, hn⟩
      cases n with
      | zero => cases hn
      | succ n => simp [iter, h3] at hn
    · intro h; cases h
  | some p =>
    obtain ⟨s, e', st'⟩ := p
    cases s with
    | norm =>
      dsimp only
      rw [iterL_iff]
      constructor
      · rintro ⟨n, hn⟩
        cases n with
        | zero => cases hn
        | succ n => exact ⟨n, by simpa [iter, h3] using hn⟩
      · rintro ⟨n, hn⟩
        exact ⟨n + 1, by simpa [iter, h3] using hn⟩
    | exit id =>
      constructor
      · rintro ⟨n, hn⟩
        cases n with
        | zero => cases hn
        | succ n => simpa [iter, h3] using hn
      · intro h; exact ⟨1, by simpa [iter, h3] using h⟩
    | ret =>
      constructor
      · rintro ⟨n, hn⟩
        cases n with
        | zero => cases hn
        | succ n => simpa [iter, h3] using hn
      · intro h; exact ⟨1, by simpa [iter, h3] using h⟩
section
variable (G : Nat → Option (List AV)) (raw : Raw) (bases : List Nat)
noncomputable def IR.runL : IR → Env → Store → Option (Sig × Env × Store)
  | .skip, e, st => some (.norm, e, st)
  | .items l, e, st => match Item.runs G raw bases l e st with
    | some (e', st') => some (.norm, e', st')
    | none => none
  | .seq a b, e, st => match IR.runL a e st with
    | some (.norm, e', st') => IR.runL b e' st'
    | r => r
  | .cond c a b, e, st => match c.ev G e with
    | some (.v (.bool t)) => if t then IR.runL a e st else IR.runL b e st
    | _ => none
  | .block id live b, e, st => match IR.runL b e st with
    | some (.norm, e', st') => some (.norm, compact bases st.length live e' st')
    | some (.exit i, e', st') => if i = id then some (.norm, compact bases st.length live e' st') else some (.exit i, e', st')
    | r => r
  | .loop live b, e, st => iterL (IR.runL b) (compact bases st.length live) e st
  | .exit id live, e, st => some (.exit id, e.keep live, st)
  | .ret live, e, st => some (.ret, e.keep live, st)
  | .rfn g k vars live, e, st => match g.ev G e with
    | some (.fn f caps) => match getL e vars with
      | some env => match callM raw .N (.fn f caps) [.yl st.length] bases (st ++ [.loop k env .rdy]) with
        | some (_, st2) => rfnK bases st.length k live e st2
        | none => none
      | none => none
    | _ => none
end
theorem iterL_mono {b b' : Env → Store → Option (Sig × Env × Store)} (h : ∀ e st, LeO (b e st) (b' e st)) (cp : Env → Store → Env × Store) (n : Nat) (e : Env) (st : Store) : LeO (iter b cp n e st) (iterL b' cp e st) :=
  fun r hr => iterL_iff.2 ⟨n, iter_mono h cp (Nat.le_refl n) e st r hr⟩
theorem IR.run_le_runL {G : Nat → Option (List AV)} {r r' : Raw} {bs : List Nat} (h : RawLe r r') (n : Nat) (c : IR) : ∀ (e : Env) (st : Store), LeO (IR.run G r bs n c e st) (IR.runL G r' bs c e st) := by
  induction c with
  | skip => intro e st x hx; exact hx
  | items l =>
    intro e st x hx
    simp only [IR.run, IR.runL] at hx ⊢
    cases h3 : Item.runs G r bs l e st with
    | none => rw [h3] at hx; cases hx
    | some p => rw [h3] at hx; rw [Item.runs_mono h _ _ _ _ h3]; exact hx
  | seq a b iha ihb =>
    intro e st x hx
    simp only [IR.run, IR.runL] at hx ⊢
    cases h3 : IR.run G r bs n a e st with
    | none => rw [h3] at hx; cases hx
    | some p =>
      rw [h3] at hx
      rw [iha _ _ _ h3]
      obtain ⟨s, e', st'⟩ := p
      cases s with
      | norm => exact ihb _ _ _ hx
      | exit id => exact hx
      | ret => exact hx
  | cond c a b iha ihb =>
    intro e st x hx
    simp only [IR.run, IR.runL] at hx ⊢
    split at hx
    · rename_i t hb
      rw [hb]
      cases t with
      | true => exact iha _ _ _ hx
      | false => exact ihb _ _ _ hx
    · cases hx
  | block id live b ih =>
    intro e st x hx
    simp only [IR.run, IR.runL] at hx ⊢
    cases h3 : IR.run G r bs n b e st with
    | none => rw [h3] at hx; cases hx
    | some p => rw [h3] at hx; rw [ih _ _ _ h3]; exact hx
  | loop live b ih => intro e st x hx; exact iterL_mono ih _ n e st x hx
  | exit id live => intro e st x hx; exact hx
  | ret live => intro e st x hx; exact hx
  | rfn g k vars live =>
    intro e st x hx
    simp only [IR.run, IR.runL] at hx ⊢
    split at hx
    · rename_i f caps hg
      rw [hg]
      split at hx
      · rename_i env hl
        rw [hl]
        dsimp only
        cases h3 : callM r .N (.fn f caps) [.yl st.length] bs (st ++ [.loop k env .rdy]) with
        | none => rw [h3] at hx; cases hx
        | some p => rw [h3] at hx; rw [callM_mono h _ _ _ _ _ _ h3]; exact hx
      · cases hx
    · cases hx
section
variable {P : Prog} {G : Nat → Option (List AV)} {bs : List Nat}
theorem callM_cont0 {m : Mode} (hm : m ≠ .A) (hm2 : m ≠ .B) {f : AV} {az : List AV} {st : Store} {x : AV × Store} (hx : callM (callL P) m f az bs st = some x) : ∃ n, callM (callF P n) m f az bs st = some x := by
  unfold callM at hx ⊢
  cases f with
  | fn f caps =>
    cases m with
    | P =>
      dsimp only at hx ⊢
      cases h1 : snaps st (az ++ caps) with
      | none => rw [h1] at hx; cases hx
      | some l =>
        rw [h1] at hx
        dsimp only at hx ⊢
        cases h2 : callL P f l [] [] with
        | none => rw [h2] at hx; cases hx
        | some p =>
          rw [h2] at hx
          obtain ⟨n, hn⟩ := call_iff.1 h2
          exact ⟨n, by rw [hn]; exact hx⟩
    | N =>
      dsimp only at hx ⊢
      split at hx
      · rename_i c1
        split at hx
        · rename_i c2
          cases h2 : callL P f (rens (pos (visit st 0 1000 (idss (az ++ caps)) [])) (az ++ caps)) [] (sel st (pos (visit st 0 1000 (idss (az ++ caps)) [])) (visit st 0 1000 (idss (az ++ caps)) [])) with
          | none => rw [h2] at hx; cases hx
          | some p =>
            rw [h2] at hx
            obtain ⟨n, hn⟩ := call_iff.1 h2
            exact ⟨n, by rw [if_pos c1, if_pos c2, hn]; exact hx⟩
        · cases hx
      · cases hx
    | M =>
      dsimp only at hx ⊢
      cases h2 : callL P f (az ++ caps) (st.length :: bs) st with
      | none => rw [h2] at hx; cases hx
      | some p =>
        rw [h2] at hx
        obtain ⟨n, hn⟩ := call_iff.1 h2
        exact ⟨n, by rw [hn]; exact hx⟩
    | L => exact call_iff.1 hx
    | Q =>
      dsimp only at hx ⊢
      split at hx
      · rename_i c
        cases h2 : callL P f (az ++ caps) [] [] with
        | none => rw [h2] at hx; cases hx
        | some p =>
          rw [h2] at hx
          obtain ⟨n, hn⟩ := call_iff.1 h2
          exact ⟨n, by rw [if_pos c, hn]; exact hx⟩
      · cases hx
    | A => exact absurd rfl hm
    | B => exact absurd rfl hm2
  | yl id =>
    cases m with
    | N =>
      dsimp only at hx ⊢
      split at hx
      · rename_i c1
        split at hx
        · rename_i k env hst
          cases h2 : callL P k (az ++ env) [] (st.set id (.loop k env .busy)) with
          | none => rw [h2] at hx; cases hx
          | some p =>
            rw [h2] at hx
            obtain ⟨n, hn⟩ := call_iff.1 h2
            exact ⟨n, by rw [if_pos c1, hn]; exact hx⟩
        · cases hx
      · cases hx
    | _ => cases hx
  | _ => exact ⟨0, hx⟩
theorem callM_cont {m : Mode} {f : AV} {az : List AV} {st : Store} {x : AV × Store} (hx : callM (callL P) m f az bs st = some x) : ∃ n, callM (callF P n) m f az bs st = some x := by
  by_cases hm : m = .A
  · subst hm
    cases f with
    | fn f caps =>
      rw [callM_A] at hx
      split at hx
      · rename_i c
        obtain ⟨n, hn⟩ := callM_cont0 (m := .N) (by simp) (by simp) hx
        exact ⟨n, by rw [callM_A, if_pos c]; exact hn⟩
      · cases hx
    | _ => exact ⟨0, hx⟩
  · by_cases hm2 : m = .B
    · subst hm2
      cases f with
      | fn f caps =>
        rw [callM_B_some] at hx
        obtain ⟨n, hn⟩ := callM_cont0 (m := .N) (by simp) (by simp) hx.1
        exact ⟨n, callM_B_some.2 ⟨hn, hx.2⟩⟩
      | _ => exact ⟨0, hx⟩
    · exact callM_cont0 hm hm2 hx
theorem Item.cont_all : ∀ k, (∀ (i : Item), SizeOf.sizeOf i < k → ∀ (e : Env) (st : Store) x, Item.run G (callL P) bs i e st = some x → ∃ n, Item.run G (callF P n) bs i e st = some x) ∧ (∀ (l : List Item), SizeOf.sizeOf l < k → ∀ (e : Env) (st : Store) x, Item.runs G (callL P) bs l e st = some x → ∃ n, Item.runs G (callF P n) bs l e st = some x) := by
  intro k
  induction k with
  | zero => exact ⟨fun _ h => absurd h (by omega), fun _ h => absurd h (by omega)⟩
  | succ k ih =>
    obtain ⟨ih1, ih2⟩ := ih
    constructor
    · intro i hi e st x hx
      cases i with
      | op d p => exact ⟨0, hx⟩
      | opr d p ex => exact ⟨0, hx⟩
      | call d m f az =>
        simp only [Item.run] at hx ⊢
        cases h1 : f.ev G e with
        | none => rw [h1] at hx; cases hx
        | some fv =>
          rw [h1] at hx
          dsimp only at hx ⊢
          cases h2 : Opd.evs G e az with
          | none => rw [h2] at hx; cases hx
          | some l =>
            rw [h2] at hx
            dsimp only at hx ⊢
            cases h3 : callM (callL P) m fv l bs st with
            | none => rw [h3] at hx; cases hx
            | some p =>
              rw [h3] at hx
              obtain ⟨n, hn⟩ := callM_cont h3
              exact ⟨n, by rw [hn]; exact hx⟩
      | gand d c sub y =>
        simp only [Item.run] at hx ⊢
        have hs : SizeOf.sizeOf sub < k := by simp at hi; omega
        split at hx
        · rename_i b hb
          cases b with
          | false => exact ⟨0, hx⟩
          | true =>
            simp only [if_true] at hx ⊢
            cases h3 : Item.runs G (callL P) bs sub e st with
            | none => rw [h3] at hx; cases hx
            | some p => rw [h3] at hx; obtain ⟨n, hn⟩ := ih2 _ hs _ _ _ h3; exact ⟨n, by rw [hn]; exact hx⟩
        · cases hx
      | gor d c sub y =>
        simp only [Item.run] at hx ⊢
        have hs : SizeOf.sizeOf sub < k := by simp at hi; omega
        split at hx
        · rename_i b hb
          cases b with
          | true => exact ⟨0, hx⟩
          | false =>
            simp only [Bool.false_eq_true, if_false] at hx ⊢
            cases h3 : Item.runs G (callL P) bs sub e st with
            | none => rw [h3] at hx; cases hx
            | some p => rw [h3] at hx; obtain ⟨n, hn⟩ := ih2 _ hs _ _ _ h3; exact ⟨n, by rw [hn]; exact hx⟩
        · cases hx
      | gif c w sub =>
        simp only [Item.run] at hx ⊢
        have hs : SizeOf.sizeOf sub < k := by simp at hi; omega
        split at hx
        · rename_i b hb
          by_cases hw : b = w
          · rw [if_pos hw] at hx; obtain ⟨n, hn⟩ := ih2 _ hs _ _ _ hx; exact ⟨n, by rw [if_pos hw]; exact hn⟩
          · rw [if_neg hw] at hx; exact ⟨0, by rw [if_neg hw]; exact hx⟩
        · cases hx
    · intro l hl e st x hx
      cases l with
      | nil => exact ⟨0, hx⟩
      | cons i is =>
        simp only [Item.runs] at hx ⊢
        have hs1 : SizeOf.sizeOf i < k := by simp at hl; omega
        have hs2 : SizeOf.sizeOf is < k := by simp at hl; omega
        cases h3 : Item.run G (callL P) bs i e st with
        | none => rw [h3] at hx; cases hx
        | some p =>
          rw [h3] at hx
          obtain ⟨n, hn⟩ := ih1 _ hs1 _ _ _ h3
          obtain ⟨m, hm⟩ := ih2 _ hs2 _ _ _ hx
          refine ⟨max n m, ?_⟩
          rw [(Item.mono_all (callF_mono (Nat.le_max_left n m))).1 _ _ _ _ hn]
          exact (Item.mono_all (callF_mono (Nat.le_max_right n m))).2 _ _ _ _ hm
theorem IR.cont (c : IR) : ∀ (e : Env) (st : Store) x, IR.runL G (callL P) bs c e st = some x → ∃ n, IR.run G (callF P n) bs n c e st = some x := by
  induction c with
  | skip => intro e st x hx; exact ⟨0, hx⟩
  | items l =>
    intro e st x hx
    simp only [IR.run, IR.runL] at hx ⊢
    cases h3 : Item.runs G (callL P) bs l e st with
    | none => rw [h3] at hx; cases hx
    | some p =>
      rw [h3] at hx
      obtain ⟨n, hn⟩ := (Item.cont_all (SizeOf.sizeOf l + 1)).2 _ (by omega) _ _ _ h3
      exact ⟨n, by rw [hn]; exact hx⟩
  | seq a b iha ihb =>
    intro e st x hx
    simp only [IR.run, IR.runL] at hx ⊢
    cases h3 : IR.runL G (callL P) bs a e st with
    | none => rw [h3] at hx; cases hx
    | some p =>
      rw [h3] at hx
      obtain ⟨n, hn⟩ := iha _ _ _ h3
      obtain ⟨s, e', st'⟩ := p
      cases s with
      | norm =>
        obtain ⟨m, hm⟩ := ihb _ _ _ hx
        refine ⟨max n m, ?_⟩
        rw [IR.run_mono (callF_mono (Nat.le_max_left n m)) (Nat.le_max_left n m) _ _ _ _ hn]
        exact IR.run_mono (callF_mono (Nat.le_max_right n m)) (Nat.le_max_right n m) _ _ _ _ hm
      | exit id => exact ⟨n, by rw [hn]; exact hx⟩
      | ret => exact ⟨n, by rw [hn]; exact hx⟩
  | cond c a b iha ihb =>
    intro e st x hx
    simp only [IR.run, IR.runL] at hx ⊢
    split at hx
    · rename_i t hb
      rw [hb]
      cases t with
      | true => exact iha _ _ _ hx
      | false => exact ihb _ _ _ hx
    · cases hx
  | block id live b ih =>
    intro e st x hx
    simp only [IR.run, IR.runL] at hx ⊢
    cases h3 : IR.runL G (callL P) bs b e st with
    | none => rw [h3] at hx; cases hx
    | some p => rw [h3] at hx; obtain ⟨n, hn⟩ := ih _ _ _ h3; exact ⟨n, by rw [hn]; exact hx⟩
  | loop live b ih =>
    intro e st x hx
    simp only [IR.run, IR.runL] at hx ⊢
    obtain ⟨k, hk⟩ := iterL_iff.1 hx
    have key : ∀ cp k e st, iter (IR.runL G (callL P) bs b) cp k e st = some x → ∃ n, iter (IR.run G (callF P n) bs n b) cp n e st = some x := by
      intro cp k
      induction k with
      | zero => intro e st h; cases h
      | succ k ihk =>
        intro e st h
        simp only [iter] at h
        cases h3 : IR.runL G (callL P) bs b (cp e st).1 (cp e st).2 with
        | none => rw [h3] at h; cases h
        | some p =>
          rw [h3] at h
          obtain ⟨n, hn⟩ := ih _ _ _ h3
          obtain ⟨s, e', st'⟩ := p
          have up : ∀ q, n ≤ q → IR.run G (callF P q) bs q b (cp e st).1 (cp e st).2 = some (s, e', st') := fun q hq => IR.run_mono (callF_mono hq) hq _ _ _ _ hn
          cases s with
          | norm =>
            obtain ⟨m, hm⟩ := ihk _ _ h
            refine ⟨max n m + 1, ?_⟩
            simp only [iter]
            rw [up _ (by omega)]
            exact iter_mono (fun e st => IR.run_mono (callF_mono (by omega)) (by omega) b e st) cp (by omega) _ _ _ hm
          | exit id => exact ⟨n + 1, by simp only [iter]; rw [up _ (by omega)]; exact h⟩
          | ret => exact ⟨n + 1, by simp only [iter]; rw [up _ (by omega)]; exact h⟩
    exact key _ k e st hk
  | exit id live => intro e st x hx; exact ⟨0, hx⟩
  | ret live => intro e st x hx; exact ⟨0, hx⟩
  | rfn g k vars live =>
    intro e st x hx
    simp only [IR.run, IR.runL] at hx ⊢
    split at hx
    · rename_i f caps hg
      split at hx
      · rename_i env hl
        cases h3 : callM (callL P) .N (.fn f caps) [.yl st.length] bs (st ++ [.loop k env .rdy]) with
        | none => rw [h3] at hx; cases hx
        | some p =>
          rw [h3] at hx
          obtain ⟨n, hn⟩ := callM_cont h3
          exact ⟨n, by rw [hg, hl]; dsimp only; rw [hn]; exact hx⟩
      · cases hx
    · cases hx
end
theorem call_loop {P : Prog} {f : Nat} {d : LoopD} (hp : P.prim f = none) (hf : P.fn f = none) (hl : P.loop f = some d) (az : List AV) (st : Store) (ha : az.length = d.vars.length) :
    callL P f az [] st = finC [] st.length (finL (IR.runL P.glob (callL P) [] d.body (bindEnv d.vars az) st)) := by
  apply ext_some
  intro r
  rw [call_iff]
  constructor
  · rintro ⟨n, hn⟩
    cases n with
    | zero => cases hn
    | succ n =>
      rw [callF] at hn
      simp only [hp, hf, hl, ha, and_self, if_true] at hn
      cases h3 : IR.run P.glob (callF P n) [] n d.body (bindEnv d.vars az) st with
      | none => rw [h3] at hn; cases hn
      | some p => rw [h3] at hn; rw [IR.run_le_runL (callF_le_call P n) n _ _ _ _ h3]; exact hn
  · intro h
    cases h3 : IR.runL P.glob (callL P) [] d.body (bindEnv d.vars az) st with
    | none => rw [h3] at h; cases h
    | some p =>
      rw [h3] at h
      obtain ⟨n, hn⟩ := IR.cont _ _ _ _ h3
      refine ⟨n + 1, ?_⟩
      rw [callF]
      simp only [hp, hf, hl, ha, and_self, if_true]
      rw [hn]; exact h
theorem call_fn {P : Prog} {f : Nat} {fd : FnD} (hp : P.prim f = none) (hf : P.fn f = some fd) (az : List AV) (bs : List Nat) (st : Store) (ha : az.length = fd.nargs) :
    callL P f az bs st = finC bs st.length (fin fd.results (IR.runL P.glob (callL P) bs fd.body (argEnv az 0) st)) := by
  apply ext_some
  intro r
  rw [call_iff]
  constructor
  · rintro ⟨n, hn⟩
    cases n with
    | zero => cases hn
    | succ n =>
      rw [callF] at hn
      simp only [hp, hf, ha, if_true] at hn
      cases h3 : IR.run P.glob (callF P n) bs n fd.body (argEnv az 0) st with
      | none => rw [h3] at hn; cases hn
      | some p => rw [h3] at hn; rw [IR.run_le_runL (callF_le_call P n) n _ _ _ _ h3]; exact hn
  · intro h
    cases h3 : IR.runL P.glob (callL P) bs fd.body (argEnv az 0) st with
    | none => rw [h3] at h; cases h
    | some p =>
      rw [h3] at h
      obtain ⟨n, hn⟩ := IR.cont _ _ _ _ h3
      refine ⟨n + 1, ?_⟩
      rw [callF]
      simp only [hp, hf, ha, if_true]
      rw [hn]; exact h
theorem call_prim {P : Prog} {f : Nat} {p : List AV → Store → Option (AV × Store)} (hp : P.prim f = some p) (az : List AV) (bs : List Nat) (st : Store) : callL P f az bs st = p az st := by
  apply ext_some
  intro r
  rw [call_iff]
  constructor
  · rintro ⟨n, hn⟩
    cases n with
    | zero => cases hn
    | succ n => rw [callF] at hn; simpa only [hp] using hn
  · intro h; exact ⟨1, by rw [callF]; simpa only [hp] using h⟩
end Go.Proofs.YtoobogpbejdocaaDoor.Ev
