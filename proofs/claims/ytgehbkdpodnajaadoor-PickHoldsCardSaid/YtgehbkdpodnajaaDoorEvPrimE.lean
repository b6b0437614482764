/-
  Aggregates; stores; append; make.
-/
import Derived.Test.YtgehbkdpodnajaaDoorEvPrimD
set_option linter.unusedVariables false
set_option linter.unusedSimpArgs false
namespace Go.Proofs.YtgehbkdpodnajaaDoor.Ev
open Go.RowKit
section
variable {P : Program} {G : Nat → Option (List AV)} {bases : List Nat} {C : Ctx} {e : Env} {a : Act}

theorem run_places (w : World) : ∀ (l : List Field), (∀ f, f ∈ l → (P.info? f.type).isSome = true) →
    ∃ ps : List (Nat × Nat), (l.mapM fun f => (do pure (f.offset, ← sizeOf f.type) : Sem (Nat × Nat))).run P w = .ok ps w ∧ ∀ (i : Nat) (f : Field) (n : TypeInfo), l[i]? = some f → P.info? f.type = some n → ps[i]? = some (f.offset, n.size)
  | [], _ => ⟨[], by simp, by simp⟩
  | f :: l, h => by
    obtain ⟨ps, h1, h2⟩ := run_places w l (fun g hg => h g (by simp [hg]))
    obtain ⟨n, hn⟩ := Option.isSome_iff_exists.1 (h f (by simp))
    refine ⟨(f.offset, n.size) :: ps, ?_, fun i g m hi hm => ?_⟩
    · simp only [List.mapM_cons, Sem.run_bind, run_sizeOf' hn, Result.andThen_ok, Sem.run_pure, h1]
    · cases i with
      | zero => simp at hi; subst hi; rw [hn] at hm; cases hm; rfl
      | succ i => simp at hi; simpa using h2 i g m hi hm
theorem VRs_put {as bs : List AV} {cs ds : List Value} (h : VRs C as cs) (k : VRs C bs ds) (o : Nat) : VRs C (as.take o ++ bs ++ as.drop (o + bs.length)) (cs.take o ++ ds ++ cs.drop (o + ds.length)) := by
  rw [← VRs_length k]
  exact VRs_append (VRs_append (VRs_take h o) k) (VRs_drop h _)
theorem fill_parts (place : Nat → Option (Nat × Nat)) {n : Nat} : ∀ {l : List (Nat × Operand)} {xs : List (Nat × Nat × Opd)} {rs : List (Nat × List AV)} {zs : List AV} {cs : Array Value},
    (∀ i : Nat, ∀ p x, l[i]? = some p → xs[i]? = some x → place p.1 = some (x.1, x.2.1) ∧ cOpd p.2 = some x.2.2) → l.length = xs.length → GlobR C G → EnvR C e a → evParts G e n xs = some rs → cs.size = n → VRs C zs cs.toList →
    ∃ cs', Instr.fill place cs (l.map fun p => (p.1, a.eval p.2)) = some cs' ∧ VRs C (fills zs rs) cs'.toList
  | [], xs, rs, zs, cs, hp, hl, hg, hE, h, hn, hv => by
    have : xs = [] := List.eq_nil_of_length_eq_zero hl.symm
    subst this
    simp only [evParts, Option.some.injEq] at h; subst h
    exact ⟨cs, by simp [Instr.fill], by simpa [fills] using hv⟩
  | p :: l, xs, rs, zs, cs, hp, hl, hg, hE, h, hn, hv => by
    cases xs with
    | nil => simp at hl
    | cons x xs =>
      obtain ⟨o, k, y⟩ := x
      obtain ⟨hp1, hp2⟩ := hp 0 p (o, k, y) rfl rfl
      simp only [evParts] at h
      cases k1 : y.ev G e with
      | none => rw [k1] at h; cases h
      | some r =>
        rw [k1] at h
        dsimp only at h
        split at h
        · rename_i hq
          obtain ⟨q1, q2, q3⟩ := hq
          cases k2 : evParts G e n xs with
          | none => rw [k2] at h; cases h
          | some rs' =>
            rw [k2] at h
            simp only [Option.some.injEq] at h; subst h
            have hr := cOpd_ok hp2 hg hE k1
            have hcs := VR_csize hr q3
            obtain ⟨cs1, m1, m2⟩ := fill_cons place cs p.1 (a.eval p.2) (l.map fun p => (p.1, a.eval p.2)) o k hp1 (by omega) (by omega)
            have hcs1 : cs1.size = n := by
              rw [← Array.length_toList, m1]; simp; omega
            have hv1 : VRs C (zs.take o ++ r.cells ++ zs.drop (o + r.cells.length)) cs1.toList := by
              rw [m1, show (a.eval p.2).cells.size = (a.eval p.2).cells.toList.length by simp]
              exact VRs_put hv (VR_cells hr q3) o
            obtain ⟨cs', n1, n2⟩ := fill_parts place (l := l) (xs := xs) (fun i p x h1 h2 => hp (i + 1) p x (by simpa using h1) (by simpa using h2)) (by simpa using hl) hg hE k2 hcs1 hv1
            exact ⟨cs', by simp only [List.map_cons]; rw [m2]; exact n1, by simpa [fills] using n2⟩
        · cases h
theorem cParts_get {fs : Array Field} : ∀ {l : List (Nat × Operand)} {xs : List (Nat × Nat × Opd)}, cParts P fs l = some xs → l.length = xs.length ∧ ∀ i : Nat, ∀ p x, l[i]? = some p → xs[i]? = some x → ∃ f n, fs[p.1]? = some f ∧ P.info? f.type = some n ∧ x.1 = f.offset ∧ x.2.1 = n.size ∧ cOpd p.2 = some x.2.2
  | [], xs, h => by simp only [cParts, Option.some.injEq] at h; subst h; exact ⟨rfl, by simp⟩
  | (i, y) :: l, xs, h => by
    simp only [cParts, Option.bind_eq_some_iff, Option.some.injEq] at h
    obtain ⟨f, h1, n, h2, z, h3, ys, h4, rfl⟩ := h
    obtain ⟨k1, k2⟩ := cParts_get h4
    refine ⟨by simp [k1], fun j p x hp hx => ?_⟩
    cases j with
    | zero => simp at hp hx; subst hp; subst hx; exact ⟨f, n, h1, h2, rfl, rfl, h3⟩
    | succ j => simp at hp hx; exact k2 j p x hp hx
theorem cPartsA_get {k : Nat} : ∀ {l : List (Nat × Operand)} {xs : List (Nat × Nat × Opd)}, cPartsA k l = some xs → l.length = xs.length ∧ ∀ i : Nat, ∀ p x, l[i]? = some p → xs[i]? = some x → x.1 = p.1 * k ∧ x.2.1 = k ∧ cOpd p.2 = some x.2.2
  | [], xs, h => by simp only [cPartsA, Option.some.injEq] at h; subst h; exact ⟨rfl, by simp⟩
  | (i, y) :: l, xs, h => by
    simp only [cPartsA, Option.bind_eq_some_iff, Option.some.injEq] at h
    obtain ⟨z, h3, ys, h4, rfl⟩ := h
    obtain ⟨k1, k2⟩ := cPartsA_get h4
    refine ⟨by simp [k1], fun j p x hp hx => ?_⟩
    cases j with
    | zero => simp at hp hx; subst hp; subst hx; exact ⟨rfl, rfl, h3⟩
    | succ j => simp at hp hx; exact k2 j p x hp hx
theorem ps_build {t : TypeId} {parts : Array (Nat × Operand)} {z : List AV} {fs : Array Field} {l : List (Nat × Nat × Opd)} (hz : zeroC P t = some z) (hu : P.underlying t = some (.struct fs)) (hf : (fs.toList.all fun f => (P.info? f.type).isSome) = true)
    (hl : cParts P fs parts.toList = some l) : PS P G bases (.build t parts) (.build z l) := by
  intro C e a oo r st' hoo hO hg hE h
  obtain ⟨x, hx, rfl, hq⟩ := zero_run hz
  simp only [Prim.ev] at h
  split at h
  · rename_i rs k1
    simp only [Option.some.injEq, Prod.mk.injEq] at h
    obtain ⟨rfl, rfl⟩ := h
    obtain ⟨ps, m1, m2⟩ := run_places (P := P) C.w fs.toList (List.all_eq_true.1 hf)
    have m1' : (fs.mapM fun f => (do pure (f.offset, ← sizeOf f.type) : Sem (Nat × Nat))).run P C.w = .ok ps.toArray C.w := by
      obtain ⟨fl⟩ := fs
      rw [List.mapM_toArray]
      rw [Sem.run_map, m1]; rfl
    have hv := VR_cells (C := C) (VR_ofVal hq) (ofVal_tuple hq)
    obtain ⟨c1, c2⟩ := cParts_get hl
    obtain ⟨cs', n1, n2⟩ := fill_parts (fun i => ps.toArray[i]?) (l := parts.toList) (xs := l) (cs := x.cells) (zs := (ofVal x).cells) (fun i p y hp hy => by
      obtain ⟨f, n, h1, h2, h3, h4, h5⟩ := c2 i p y hp hy
      refine ⟨?_, h5⟩
      have := m2 p.1 f n (by simpa using h1) h2
      simpa [h3, h4] using this) c1 hg hE k1 (by simpa using (VRs_length hv).symm) hv
    refine Does.stay hO (x := .agg cs') ?_ (by simp only [VR]; exact ⟨_, rfl, n2⟩)
    simp only [execOp, hoo, Instr.build, Sem.run_bind, hx, run_underlying hu, Result.andThen_ok, m1']
    rw [show (parts.map fun (i, x) => (i, a.eval x)).toList = parts.toList.map fun p => (p.1, a.eval p.2) by simp]
    rw [n1]
    rfl
  · cases h
theorem ps_buildA {t el : TypeId} {ln : Nat} {j : TypeInfo} {parts : Array (Nat × Operand)} {z : List AV} {l : List (Nat × Nat × Opd)} (hz : zeroC P t = some z) (hu : P.underlying t = some (.array ln el)) (hj : P.info? el = some j)
    (hl : cPartsA j.size parts.toList = some l) : PS P G bases (.build t parts) (.build z l) := by
  intro C e a oo r st' hoo hO hg hE h
  obtain ⟨x, hx, rfl, hq⟩ := zero_run hz
  simp only [Prim.ev] at h
  split at h
  · rename_i rs k1
    simp only [Option.some.injEq, Prod.mk.injEq] at h
    obtain ⟨rfl, rfl⟩ := h
    have hv := VR_cells (C := C) (VR_ofVal hq) (ofVal_tuple hq)
    obtain ⟨c1, c2⟩ := cPartsA_get hl
    obtain ⟨cs', n1, n2⟩ := fill_parts (fun i => some (i * j.size, j.size)) (l := parts.toList) (xs := l) (cs := x.cells) (zs := (ofVal x).cells) (fun i p y hp hy => by
      obtain ⟨h1, h2, h3⟩ := c2 i p y hp hy
      exact ⟨by rw [h1, h2], h3⟩) c1 hg hE k1 (by simpa using (VRs_length hv).symm) hv
    refine Does.stay hO (x := .agg cs') ?_ (by simp only [VR]; exact ⟨_, rfl, n2⟩)
    simp only [execOp, hoo, Instr.build, Sem.run_bind, hx, run_underlying hu, Result.andThen_ok, run_sizeOf' hj]
    rw [show (parts.map fun (i, x) => (i, a.eval x)).toList = parts.toList.map fun p => (p.1, a.eval p.2) by simp]
    rw [n1]
    rfl
  · cases h
end
end Go.Proofs.YtgehbkdpodnajaaDoor.Ev
