/-
  More operations that turn no memory.
-/
import Derived.Test.YtgehbkdpodnajaaDoorEvPrimA
set_option linter.unusedVariables false
set_option linter.unusedSimpArgs false
namespace Go.Proofs.YtgehbkdpodnajaaDoor.Ev
open Go.RowKit
section
variable {P : Program} {G : Nat → Option (List AV)} {bases : List Nat} {C : Ctx} {e : Env} {a : Act}

theorem unV_run {op : UnOp} {x z : Value} (h : unV op x = some z) (w : World) : (Op.unary op x).run P w = .ok z w ∧ z.oneCell' = true := by
  unfold unV at h
  split at h
  · split at h
    · cases h; exact ⟨by simp [Op.unary, Op.intArith], rfl⟩
    · cases h
  · split at h
    · cases h; exact ⟨by simp [Op.unary], rfl⟩
    · cases h
  · cases h
theorem ps_un {op : UnOp} {t : TypeId} {x : Operand} {p : Prim} (hc : ((cOpd x).bind fun x => some (Prim.un op x)) = some p) : PS P G bases (.unOp op t x) p := by
  intro C e a oo r st' hoo hO hg hE h
  simp only [Option.bind_eq_some_iff, Option.some.injEq] at hc
  obtain ⟨y, h1, rfl⟩ := hc
  simp only [Prim.ev] at h
  split at h
  · rename_i u k1
    split at h
    · rename_i z k2
      simp only [Option.some.injEq, Prod.mk.injEq] at h
      obtain ⟨rfl, rfl⟩ := h
      have e1 := VR_plain (cOpd_ok h1 hg hE k1)
      obtain ⟨hr, ho⟩ := unV_run (P := P) k2 C.w
      exact Does.stay hO (by simp only [execOp, hoo, e1, Sem.run_bind, hr, Result.andThen_ok, Sem.run_pure]) (VR_v ho)
    · cases h
  · cases h
theorem ps_i2i {s d : TypeId} {ks k : IntKind} {x : Operand} {p : Prim} (hs : P.underlying s = some (.int ks)) (hd : P.underlying d = some (.int k)) (hc : ((cOpd x).bind fun x => some (Prim.i2i k x)) = some p) : PS P G bases (.convert s d x) p := by
  intro C e a oo r st' hoo hO hg hE h
  simp only [Option.bind_eq_some_iff, Option.some.injEq] at hc
  obtain ⟨y, h1, rfl⟩ := hc
  simp only [Prim.ev] at h
  split at h
  · rename_i ks' n k1
    simp only [Option.some.injEq, Prod.mk.injEq] at h
    obtain ⟨rfl, rfl⟩ := h
    have e1 := VR_plain (cOpd_ok h1 hg hE k1)
    exact Does.stay hO (x := .int k (k.wrap n)) (by simp [execOp, hoo, e1, convert, run_underlying hs, run_underlying hd, Conv.intToInt]) (VR_v rfl)
  · cases h
theorem ps_i2t {s d : TypeId} {ks : IntKind} {x : Operand} {p : Prim} (hs : P.underlying s = some (.int ks)) (hd : P.underlying d = some .string) (hc : ((cOpd x).bind fun x => some (Prim.i2t x)) = some p) : PS P G bases (.convert s d x) p := by
  intro C e a oo r st' hoo hO hg hE h
  simp only [Option.bind_eq_some_iff, Option.some.injEq] at hc
  obtain ⟨y, h1, rfl⟩ := hc
  simp only [Prim.ev] at h
  split at h
  · rename_i ks' n k1
    simp only [Option.some.injEq, Prod.mk.injEq] at h
    obtain ⟨rfl, rfl⟩ := h
    have e1 := VR_plain (cOpd_ok h1 hg hE k1)
    exact Does.stay hO (x := .string (Utf8.encode n)) (by simp [execOp, hoo, e1, convert, run_underlying hs, run_underlying hd, Conv.intToString]) (VR_v rfl)
  · cases h
theorem ps_s2s {s d : TypeId} {x : Operand} {p : Prim} (hs : P.underlying s = some .string) (hd : P.underlying d = some .string) (hc : ((cOpd x).bind fun x => some (Prim.s2s x)) = some p) : PS P G bases (.convert s d x) p := by
  intro C e a oo r st' hoo hO hg hE h
  simp only [Option.bind_eq_some_iff, Option.some.injEq] at hc
  obtain ⟨y, h1, rfl⟩ := hc
  simp only [Prim.ev] at h
  split at h
  · rename_i n k1
    simp only [Option.some.injEq, Prod.mk.injEq] at h
    obtain ⟨rfl, rfl⟩ := h
    have e1 := VR_plain (cOpd_ok h1 hg hE k1)
    exact Does.stay hO (x := .string n) (by simp [execOp, hoo, e1, convert, run_underlying hs, run_underlying hd]) (VR_v rfl)
  · cases h
theorem ps_ext {i : Nat} {x : Operand} {p : Prim} (hc : ((cOpd x).bind fun x => some (Prim.ext i x)) = some p) : PS P G bases (.extract x i) p := by
  intro C e a oo r st' hoo hO hg hE h
  simp only [Option.bind_eq_some_iff, Option.some.injEq] at hc
  obtain ⟨y, h1, rfl⟩ := hc
  simp only [Prim.ev] at h
  split at h
  · rename_i cs k1
    split at h
    · rename_i q k2
      simp only [Option.some.injEq, Prod.mk.injEq] at h
      obtain ⟨rfl, rfl⟩ := h
      have e1 := cOpd_ok h1 hg hE k1
      simp only [VR] at e1
      obtain ⟨ccs, e1, f1⟩ := e1
      obtain ⟨c, m1, m2⟩ := VRt_get f1 i _ k2
      have m1' : ccs[i]? = some c := by simpa using m1
      exact Does.stay hO (x := c) (by simp [execOp, hoo, e1, Instr.extract, m1']) m2
    · cases h
  · cases h

/-- The cells that a part is made of. -/
theorem aggN_part {t : TypeId} {n : Option Nat} (hn : aggN P t = some n) {X : Array Value} {cs : List AV} {off : Nat} {r : AV} (hX : VRs C cs X.toList) (h : aggOf n (cs.drop off) = some r) :
    ∃ x, (part t X off).run P C.w = .ok x C.w ∧ VR C r x := by
  have hl := VRs_length hX
  have ag : ∀ {i : TypeInfo} {d : TypeDesc}, P.underlying t = some d → aggD d = true → P.info? t = some i → n = some i.size → ∃ x, (part t X off).run P C.w = .ok x C.w ∧ VR C r x := by
    intro i d hu hd hi hni
    subst hni
    simp only [aggOf] at h
    split at h
    · rename_i hle
      simp only [Option.some.injEq] at h; subst h
      refine ⟨_, part_agg hu hd hi C.w, ?_⟩
      simp only [VR]
      refine ⟨_, rfl, ?_⟩
      rw [ext_toList]
      exact VRs_take (VRs_drop hX off) _
    · cases h
  unfold aggN at hn
  split at hn
  · rename_i fs hu
    simp only [Option.bind_eq_some_iff, Option.some.injEq] at hn
    obtain ⟨i, hi, hn⟩ := hn
    exact ag hu rfl hi hn.symm
  · rename_i k q hu
    simp only [Option.bind_eq_some_iff, Option.some.injEq] at hn
    obtain ⟨i, hi, hn⟩ := hn
    exact ag hu rfl hi hn.symm
  · rename_i d h1 h2 hu
    simp only [Option.some.injEq] at hn; subst hn
    cases hq : cs.drop off with
    | nil => rw [hq] at h; simp [aggOf] at h
    | cons q qs =>
      rw [hq] at h
      simp only [aggOf, Option.some.injEq] at h; subst h
      have hd := VRs_drop hX off
      rw [hq] at hd
      obtain ⟨c, m1, m2, _⟩ := VRs_get hd 0 q rfl
      have m1' : X[off]? = some c := by simpa [List.getElem?_drop] using m1
      refine ⟨c, part_leaf hu ?_ m1' C.w, m2⟩
      cases d <;> first | rfl | (exact (h1 _ rfl).elim) | (exact (h2 _ _ rfl).elim)
  · cases hn
theorem ps_fld {t : TypeId} {i : Nat} {f : Field} {n : Option Nat} {fs : Array Field} {x : Operand} {p : Prim} (hu : P.underlying t = some (.struct fs)) (hf : fs[i]? = some f) (hn : aggN P f.type = some n)
    (hc : ((cOpd x).bind fun x => some (Prim.fld f.offset n x)) = some p) : PS P G bases (.field t x i) p := by
  intro C e a oo r st' hoo hO hg hE h
  simp only [Option.bind_eq_some_iff, Option.some.injEq] at hc
  obtain ⟨y, h1, rfl⟩ := hc
  simp only [Prim.ev] at h
  split at h
  · rename_i cs k1
    split at h
    · rename_i q k2
      simp only [Option.some.injEq, Prod.mk.injEq] at h
      obtain ⟨rfl, rfl⟩ := h
      have e1 := cOpd_ok h1 hg hE k1
      simp only [VR] at e1
      obtain ⟨ccs, e1, f1⟩ := e1
      obtain ⟨c, m1, m2⟩ := aggN_part hn f1 k2
      exact Does.stay hO (x := c) (by simp [execOp, hoo, e1, Instr.field, run_underlying hu, hf, asAgg, m1]) m2
    · cases h
  · cases h
theorem ps_idxs {t : TypeId} {x i : Operand} {p : Prim} (hu : P.underlying t = some .string) (hc : ((cOpd x).bind fun x => (cOpd i).bind fun i => some (Prim.idxs x i)) = some p) : PS P G bases (.index t x i) p := by
  intro C e a oo r st' hoo hO hg hE h
  simp only [Option.bind_eq_some_iff, Option.some.injEq] at hc
  obtain ⟨y, h1, z, h2, rfl⟩ := hc
  simp only [Prim.ev] at h
  split at h
  · rename_i s k1
    split at h
    · rename_i k n k2
      split at h
      · rename_i hn
        simp only [Option.some.injEq, Prod.mk.injEq] at h
        obtain ⟨rfl, rfl⟩ := h
        have e1 := VR_plain (cOpd_ok h1 hg hE k1)
        have e2 := VR_plain (cOpd_ok h2 hg hE k2)
        refine Does.stay hO (x := .int .u8 ((s[n.toNat]'hn.2).toNat : Int)) ?_ (VR_v rfl)
        have h3 : s[n.toNat]? = some (s[n.toNat]'hn.2) := ByteArray.getElem?_lt' s _ hn.2
        simp [execOp, hoo, e1, e2, Instr.index, run_underlying hu, asIntOf, hn.1, h3]
      · cases h
    · cases h
  · cases h
theorem ps_idxa {t el : TypeId} {ln : Nat} {j : TypeInfo} {n : Option Nat} {x i : Operand} {p : Prim} (hu : P.underlying t = some (.array ln el)) (hj : P.info? el = some j) (hn : aggN P el = some n)
    (hc : ((cOpd x).bind fun x => (cOpd i).bind fun i => some (Prim.idxa j.size n ln x i)) = some p) : PS P G bases (.index t x i) p := by
  intro C e a oo r st' hoo hO hg hE h
  simp only [Option.bind_eq_some_iff, Option.some.injEq] at hc
  obtain ⟨y, h1, z, h2, rfl⟩ := hc
  simp only [Prim.ev] at h
  split at h
  · rename_i cs k1
    split at h
    · rename_i k m k2
      split at h
      · rename_i hm
        split at h
        · rename_i q k3
          simp only [Option.some.injEq, Prod.mk.injEq] at h
          obtain ⟨rfl, rfl⟩ := h
          have e1 := cOpd_ok h1 hg hE k1
          simp only [VR] at e1
          obtain ⟨ccs, e1, f1⟩ := e1
          have e2 := VR_plain (cOpd_ok h2 hg hE k2)
          obtain ⟨c, m1, m2⟩ := aggN_part hn f1 k3
          refine Does.stay hO (x := c) ?_ m2
          simp only [execOp, hoo, e1, e2, Instr.index, Sem.run_bind, run_underlying hu, asIntOf, Sem.run_pure, Result.andThen_ok]
          rw [if_pos (by exact hm)]
          simp [run_sizeOf' hj, m1]
        · cases h
      · cases h
    · cases h
  · cases h
theorem add_eq (ad : Addr) (h : ad.spot = none) (n : Nat) : ad.add n = ⟨ad.block, ad.off + n, none⟩ := by
  obtain ⟨b, o, s⟩ := ad
  cases h
  exact add_plain b o n
theorem add_add (ad : Addr) (h : ad.spot = none) (m n : Nat) : (ad.add m).add n = ad.add (m + n) := by
  obtain ⟨b, o, s⟩ := ad
  cases h
  rw [add_plain, add_plain, add_plain, Nat.add_assoc]
theorem ps_fa {t : TypeId} {i : Nat} {f : Field} {j : TypeInfo} {fs : Array Field} {x : Operand} {p : Prim} (hu : P.underlying t = some (.struct fs)) (hf : fs[i]? = some f) (hj : P.info? f.type = some j) (h0 : 0 < j.size)
    (hc : ((cOpd x).bind fun x => some (Prim.fa f.offset x)) = some p) : PS P G bases (.fieldAddr t x i) p := by
  intro C e a oo r st' hoo hO hg hE h
  simp only [Option.bind_eq_some_iff, Option.some.injEq] at hc
  obtain ⟨y, h1, rfl⟩ := hc
  have hrun : ∀ ad, a.eval x = .pointer (some ad) → (execOp a.eval oo).run P C.w = .ok (.value (.pointer (some (ad.add f.offset)))) C.w := by
    intro ad e1
    simp only [execOp, hoo, e1, Instr.fieldAt, Sem.run_bind, run_underlying hu, Result.andThen_ok, hf, Instr.sureAddr, Sem.run_pure, fieldPlace, run_sizeOf' hj]
    rw [if_neg (by omega)]
    rfl
  simp only [Prim.ev] at h
  split at h
  · rename_i cs k1
    simp only [Option.some.injEq, Prod.mk.injEq] at h
    obtain ⟨rfl, rfl⟩ := h
    have e1 := cOpd_ok h1 hg hE k1
    simp only [VR] at e1
    obtain ⟨ad, e1, hs, f1⟩ := e1
    refine Does.stay hO (hrun ad e1) ?_
    simp only [VR]
    refine ⟨_, rfl, by rw [add_eq _ hs], VRat_mk fun k q hk => ?_⟩
    rw [List.getElem?_drop] at hk
    obtain ⟨c, m1, m2⟩ := VRat_get f1 _ q hk
    rw [add_add _ hs]
    exact ⟨c, by rw [show f.offset + (0 + k) = 0 + (f.offset + k) by omega]; exact m1, m2⟩
  · rename_i id g i' o k1
    split at h
    · rename_i hl
      simp only [Option.some.injEq, Prod.mk.injEq] at h
      obtain ⟨rfl, rfl⟩ := h
      have e1 := cOpd_ok h1 hg hE k1
      obtain ⟨b, o', k, q1, e2, q2, _⟩ := VR_ref e1 hl
      refine Does.stay hO (hrun _ e2) ?_
      rw [add_plain]
      have := q2 (o + f.offset)
      rwa [show k + (o + f.offset) = k + o + f.offset by omega] at this
    · cases h
  · cases h
theorem VRat_drop {ad : Addr} (hs : ad.spot = none) {cs : List AV} {k : Nat} (h : VRat C ad cs k) (n : Nat) : VRat C (ad.add (k + n)) (cs.drop n) 0 :=
  VRat_mk fun i q hq => by
    rw [List.getElem?_drop] at hq
    obtain ⟨c, m1, m2⟩ := VRat_get h _ q hq
    refine ⟨c, ?_, m2⟩
    rw [add_add _ hs, show k + n + (0 + i) = k + (n + i) by omega]; exact m1
theorem ps_iap {t el : TypeId} {ln : Nat} {j : TypeInfo} {x i : Operand} {p : Prim} (hu : P.underlying t = some (.array ln el)) (hj : P.info? el = some j)
    (hc : ((cOpd x).bind fun x => (cOpd i).bind fun i => some (Prim.iap j.size ln x i)) = some p) : PS P G bases (.indexAddr t x i) p := by
  intro C e a oo r st' hoo hO hg hE h
  simp only [Option.bind_eq_some_iff, Option.some.injEq] at hc
  obtain ⟨y, h1, z, h2, rfl⟩ := hc
  simp only [Prim.ev] at h
  split at h
  · rename_i v k1
    split at h
    · rename_i k m k2
      split at h
      · rename_i hm
        have e2 := VR_plain (cOpd_ok h2 hg hE k2)
        have hrun : ∀ ad, a.eval x = .pointer (some ad) → (execOp a.eval oo).run P C.w = .ok (.value (.pointer (some (ad.add (m.toNat * j.size))))) C.w := by
          intro ad e1
          simp only [execOp, hoo, e1, e2, Instr.indexAt, Sem.run_bind, asIntOf, Sem.run_pure, run_underlying hu, Result.andThen_ok, Instr.sureAddr, Sem.run_ite]
          rw [if_pos hm]
          simp [run_sizeOf' hj]
        have e1 := cOpd_ok h1 hg hE k1
        split at h
        · rename_i cs
          simp only [Option.some.injEq, Prod.mk.injEq] at h
          obtain ⟨rfl, rfl⟩ := h
          simp only [VR] at e1
          obtain ⟨ad, e1, hs, f1⟩ := e1
          refine Does.stay hO (hrun ad e1) ?_
          simp only [VR]
          have := VRat_drop hs f1 (m.toNat * j.size)
          rw [Nat.zero_add] at this
          exact ⟨_, rfl, by rw [add_eq _ hs], this⟩
        · rename_i id g r' o
          split at h
          · rename_i hl
            simp only [Option.some.injEq, Prod.mk.injEq] at h
            obtain ⟨rfl, rfl⟩ := h
            obtain ⟨b, o', k, q1, e2, q2, _⟩ := VR_ref e1 hl
            refine Does.stay hO (hrun _ e2) ?_
            rw [add_plain]
            have := q2 (o + m.toNat * j.size)
            rwa [show k + (o + m.toNat * j.size) = k + o + m.toNat * j.size by omega] at this
          · cases h
        · cases h
      · cases h
    · cases h
  · cases h
theorem VR_own {id gen off ln : Nat} {c : Value} (h : VR C (.own id gen off ln) c) {k : Nat} {xs : List (List AV)} {nw : Bool} (hs : C.st[id]? = some (.row k gen xs nw)) :
    ∃ b o cap t n ad, C.B[id]? = some (b, o) ∧ (c = .slice (some ad) ln cap ∧ (0 < cap → ad = ⟨b, o + off * k, none⟩)) ∧ ln ≤ cap ∧ C.w.shape? b = some (t, n) ∧ o + (off + cap) * k ≤ n ∧ off + ln ≤ xs.length := by
  simp only [VR] at h
  obtain ⟨_, e, g, ys, nw', h1, h2, h3⟩ := h
  rw [hs] at h1
  injection h1 with h1
  injection h1 with q1 q2 q3 q4
  subst q1; subst q2; subst q3
  exact h3 rfl
theorem ps_ias {t el : TypeId} {j : TypeInfo} {x i : Operand} {p : Prim} (hu : P.underlying t = some (.slice el)) (hj : P.info? el = some j)
    (hc : ((cOpd x).bind fun x => (cOpd i).bind fun i => some (Prim.ias j.size x i)) = some p) : PS P G bases (.indexAddr t x i) p := by
  intro C e a oo r st' hoo hO hg hE h
  simp only [Option.bind_eq_some_iff, Option.some.injEq] at hc
  obtain ⟨y, h1, z, h2, rfl⟩ := hc
  simp only [Prim.ev] at h
  split at h
  · rename_i v k1
    split at h
    · rename_i k m k2
      split at h
      · rename_i hm
        have e2 := VR_plain (cOpd_ok h2 hg hE k2)
        have hrun : ∀ ad ln cap, a.eval x = .slice (some ad) ln cap → m < ln → (execOp a.eval oo).run P C.w = .ok (.value (.pointer (some (ad.add (m.toNat * j.size))))) C.w := by
          intro ad ln cap e1 hlt
          simp only [execOp, hoo, e1, e2, Instr.indexAt, Sem.run_bind, asIntOf, Sem.run_pure, run_underlying hu, Result.andThen_ok, Sem.run_ite]
          rw [if_pos ⟨hm, hlt⟩]
          simp [run_sizeOf' hj]
        have e1 := cOpd_ok h1 hg hE k1
        split at h
        · rename_i k' xs
          split at h
          · rename_i hk
            subst hk
            split at h
            · rename_i c hcc
              simp only [Option.some.injEq, Prod.mk.injEq] at h
              obtain ⟨rfl, rfl⟩ := h
              simp only [VR] at e1
              obtain ⟨ao, cap, e1, _, f1⟩ := e1
              obtain ⟨hcl, ad, rfl, hs, f2⟩ := VRrow_get f1 _ c hcc
              have hlt := (List.getElem?_eq_some_iff.1 hcc).1
              refine Does.stay hO (hrun ad _ cap e1 (by omega)) ?_
              simp only [VR]
              rw [Nat.zero_add] at f2
              have := VRat_drop hs f2 0
              exact ⟨_, rfl, by rw [add_eq _ hs], by simpa using this⟩
            · cases h
          · cases h
        · rename_i id gen off ln
          split at h
          · rename_i k' g xs nw hst
            split at h
            · rename_i hq
              obtain ⟨rfl, rfl, hlt⟩ := hq
              simp only [Option.some.injEq, Prod.mk.injEq] at h
              obtain ⟨rfl, rfl⟩ := h
              obtain ⟨b, o, cap, t', n, ad, q1, ⟨q2, qa⟩, q3, q4, q5, q6⟩ := VR_own e1 hst
              obtain rfl := qa (by omega)
              refine Does.stay hO (hrun _ _ cap q2 (by omega)) ?_
              rw [add_plain]
              simp only [VR]
              refine .inr ⟨rfl, j.size, g, xs, nw, hst, Nat.le_refl _, fun _ => ⟨b, o, q1, ?_⟩⟩
              rw [Nat.add_mul]
              congr 3
              omega
            · cases h
          · cases h
        · cases h
      · cases h
    · cases h
  · cases h
end
end Go.Proofs.YtgehbkdpodnajaaDoor.Ev
