import Derived.Test.YtoobogpbejdocaaDoorEvSa
import Derived.Test.YtoobogpbejdocaaDoorEvKey1
import Derived.Test.YtoobogpbejdocaaDoorEvCheck3
set_option linter.unusedVariables false
set_option linter.unusedSectionVars false
set_option linter.unusedSimpArgs false
namespace Go.Proofs.YtoobogpbejdocaaDoor.Ev
attribute [local congr] bind_congr_head
attribute [local go_sem] AV.cells AV.tuple elems boxQ callN_any compact_same compact_new aggOf
theorem ba_app (a b : List UInt8) : BA a ++ BA b = BA (a ++ b) := by
  rw [← ba_of (BA a ++ BA b)]
  rw [ba_inj, ByteArray.data_append, Array.toList_append, ba_data, ba_data]
def b2sF (st : Store) (a : AV) : Option ByteArray :=
  match a with
  | .v (.string _) => none
  | a => match elems st a with
    | some xs => match vals xs.flatten with
      | some vs => if vs.length = xs.length ∧ vs.all (fun | .int .u8 _ => true | _ => false) = true then some ⟨(vs.map fun | .int _ n => UInt8.ofNat n.toNat | _ => 0).toArray⟩ else none
      | none => none
    | none => none
theorem ev_b2s {G : Nat → Option (List AV)} {bs : List Nat} {e : Env} {st : Store} (x : Opd) : Prim.ev G bs e st (.b2s x) = (x.ev G e).bind fun a => (b2sF st a).bind fun s => some (.v (.string s), st) := by
  simp only [Prim.ev]
  cases x.ev G e with
  | none => rfl
  | some a =>
    have aux : ∀ o : Option (List (List AV)), (match o with
      | some xs => match vals xs.flatten with
        | some vs => if vs.length = xs.length ∧ vs.all (fun | .int .u8 _ => true | _ => false) = true then some (AV.v (.string ⟨(vs.map fun | .int _ n => UInt8.ofNat n.toNat | _ => 0).toArray⟩), st) else none
        | none => none
      | none => none) = (match o with
      | some xs => match vals xs.flatten with
        | some vs => if vs.length = xs.length ∧ vs.all (fun | .int .u8 _ => true | _ => false) = true then some (⟨(vs.map fun | .int _ n => UInt8.ofNat n.toNat | _ => 0).toArray⟩ : ByteArray) else none
        | none => none
      | none => none : Option ByteArray).bind fun s => some (.v (.string s), st) := by
      intro o
      cases o with
      | none => rfl
      | some xs => dsimp only; cases vals xs.flatten with
        | none => rfl
        | some vs => dsimp only; split <;> rfl
    have aux' := aux (elems st a)
    cases a with
    | v p => cases p with
      | string s => rfl
      | _ => exact aux'
    | _ => exact aux'
theorem b2s_one (st : Store) (n : Int) : b2sF st (.sl 1 [[.v (.int .u8 n)]]) = some (BA [UInt8.ofNat n.toNat]) := rfl
theorem decimal_loop {G : Nat → Option (List AV)} {raw : Raw} {L : Env × Store → Option (Sig × Env × Store)}
    (hL : ∀ e st, L (e, st) = (IR.runL G raw [] ir_usufructref13_Decimal_L0 e st).bind (seqK fun e st => L (compact [] 0 [0, 3] e st))) :
    ∀ (u : Nat) (t : List UInt8), u ≤ 9223372036854775807 → t.length + Lib.nDigits u ≤ 1000 → L ([(0, vi u), (3, vs (BA t))], []) = some (.ret, [(2, vs (BA (Lib.decDigits u ++ t)))], []) := by
  intro u
  induction u using Nat.strongRecOn with
  | _ u ih =>
    intro t hu ht
    have hp := Lib.nDigits_pos u
    have r1 : Int.tmod (u : Int) 10 = ((u % 10 : Nat) : Int) := by rw [Int.tmod_eq_emod_of_nonneg (by omega)]; omega
    have r2 : Int.tdiv (u : Int) 10 = ((u / 10 : Nat) : Int) := by rw [Int.tdiv_eq_ediv_of_nonneg (by omega)]; omega
    have w1 : IntKind.i64.wrap (48 + ((u % 10 : Nat) : Int)) = ((48 + u % 10 : Nat) : Int) := by rw [IntWalk.i64_in _ (by omega)]; omega
    have w2 : IntKind.u8.wrap ((48 + u % 10 : Nat) : Int) = ((48 + u % 10 : Nat) : Int) := by rw [IntKind.wrap_u8]; omega
    have w3 : IntKind.i64.wrap ((u / 10 : Nat) : Int) = ((u / 10 : Nat) : Int) := IntWalk.i64_in _ (by omega)
    have hs : ¬ (9223372036854775807 : Int) < (((BA [UInt8.ofNat (48 + u % 10)]).size + (BA t).size : Nat) : Int) := by
      rw [ba_size, ba_size]; simp only [List.length_cons, List.length_nil]; omega
    have w0 : IntKind.i64.wrap 0 = 0 := rfl
    rw [hL]
    by_cases c : u < 10
    · have c1 : u / 10 = 0 := by omega
      have c2 : u % 10 = u := by omega
      have hd : Lib.decDigits u = [UInt8.ofNat (48 + u)] := by rw [Lib.decDigits, dif_pos c]
      rw [hd]
      simp only [c2, c1] at r1 r2 w1 w2 w3 hs
      simp -implicitDefEqProofs only [go_sem, ir_usufructref13_Decimal_L0, ev_b2s, b2s_one, r1, r2, w1, w2, w3, hs, ba_app, c1, c2, w0, Int.natCast_zero, List.singleton_append]
    · have c1 : ¬ ((u / 10 : Nat) : Int) = 0 := by omega
      have hd : Lib.decDigits u = Lib.decDigits (u / 10) ++ [UInt8.ofNat (48 + u % 10)] := by rw [Lib.decDigits, dif_neg c]
      have hn := Lib.nDigits_big c
      have ih' := ih (u / 10) (by omega) (UInt8.ofNat (48 + u % 10) :: t) (by omega) (by simp only [List.length_cons]; omega)
      rw [hd, List.append_assoc, List.singleton_append]
      simp -implicitDefEqProofs only [go_sem, ir_usufructref13_Decimal_L0, ev_b2s, b2s_one, r1, r2, w1, w2, w3, hs, ba_app, c1, List.singleton_append, ih']
theorem fn_decimal {E : Prog} (hE : Std E fns) (n : Int) (h0 : 0 ≤ n) (h1 : n ≤ 9223372036854775807) : callP E f_usufructref13_Decimal [vi n] = some (vs (BA (Lib.itoa n))) := by
  obtain ⟨u, rfl⟩ := Int.eq_ofNat_of_zero_le h0
  have hd := nDigits_le 18 u (by
    have : (10 : Nat) ^ (18 + 1) = 10000000000000000000 := by decide
    omega)
  have h := decimal_loop (loopL_eq (IR.runL E.glob (callL E) [] ir_usufructref13_Decimal_L0) (compact [] 0 [0, 3])) u [] (by omega) (by simp only [List.length_nil]; omega)
  have e : Lib.itoa (u : Int) = Lib.decDigits u := by unfold Lib.itoa; rw [if_neg (by omega), Int.toNat_natCast]
  rw [hE.run rfl rfl, e]
  rw [List.append_nil] at h
  have hb : BA [] = ⟨#[]⟩ := rfl
  rw [hb] at h
  simp -implicitDefEqProofs only [go_sem, ir_usufructref13_Decimal, h]
def keyS (saga : Int) (d : DefT) (step : Int) (u : Bool) : List UInt8 :=
  if saga < 0 ∨ step < 0 then [] else match d.steps.list[step.toNat]? with
  | some s => Lib.itoa saga ++ 47 :: (s.name.data.toList ++ 47 :: wayL u)
  | none => []
theorem itoa_len {n : Int} (h0 : 0 ≤ n) (h1 : n ≤ 9223372036854775807) : (Lib.itoa n).length ≤ 19 := by
  obtain ⟨u, rfl⟩ := Int.eq_ofNat_of_zero_le h0
  have e : Lib.itoa (u : Int) = Lib.decDigits u := by unfold Lib.itoa; rw [if_neg (by omega), Int.toNat_natCast]
  rw [e, Lib.decDigits_length]
  exact nDigits_le 18 u (by
    have : (10 : Nat) ^ (18 + 1) = 10000000000000000000 := by decide
    omega)
theorem way_len (u : Bool) : (wayL u).length ≤ 4 := by cases u <;> decide
theorem fn_keyRef {E : Prog} (hE : Std E fns) 
    (d : DefT) (hd : shortD d) (saga step : Int) (hs : saga ≤ 9223372036854775807) (u : Bool) : callP E f_usufructref13_Key [vi saga, .agg d.cells, vi step, vb u] = some (vs (BA (keyS saga d step u))) := by
  have hb : BA [] = ⟨#[]⟩ := rfl
  rw [hE.run rfl rfl]
  by_cases c1 : saga < 0
  · simp -implicitDefEqProofs only [go_sem, ir_usufructref13_Key, DefT.cells, c1, keyS, ro_step, hb]
  · by_cases c2 : step < 0
    · simp -implicitDefEqProofs only [go_sem, ir_usufructref13_Key, DefT.cells, c1, c2, keyS, ro_step, hb]
    · cases hg : d.steps.list[step.toNat]? with
      | none =>
        have c3 : (d.steps.list.length : Int) ≤ step := by have := List.getElem?_eq_none_iff.1 hg; omega
        simp -implicitDefEqProofs only [go_sem, ir_usufructref13_Key, DefT.cells, c1, c2, c3, keyS, hg, ro_step, hb]
      | some s =>
        have hlt := (List.getElem?_eq_some_iff.1 hg).1
        have c3 : ¬ (d.steps.list.length : Int) ≤ step := by omega
        have c4 : 0 ≤ step := by omega
        have hm := hd.2.2 s (List.mem_of_getElem? hg)
        have hil := itoa_len (by omega) hs
        have hw := way_len u
        have e0 : (⟨#[47]⟩ : ByteArray) = BA [47] := rfl
        have e1 : (⟨#[47, 117, 110, 100, 111]⟩ : ByteArray) = BA [47, 117, 110, 100, 111] := rfl
        have e2 : (⟨#[47, 100, 111]⟩ : ByteArray) = BA [47, 100, 111] := rfl
        have hsz : s.name.data.toList.length ≤ 100 := by rw [← ba_size, ba_of]; exact hm.1
        have s1 : ¬ (9223372036854775807 : Int) < (((BA (Lib.itoa saga)).size + (BA [47]).size : Nat) : Int) := by simp only [ba_size, List.length_cons, List.length_nil]; omega
        have s2 : ¬ (9223372036854775807 : Int) < (((BA (Lib.itoa saga ++ [47])).size + (BA s.name.data.toList).size : Nat) : Int) := by simp only [ba_size, List.length_append, List.length_cons, List.length_nil]; omega
        have s3 : ¬ (9223372036854775807 : Int) < (((BA (Lib.itoa saga ++ [47] ++ s.name.data.toList)).size + (BA [47, 117, 110, 100, 111]).size : Nat) : Int) := by simp only [ba_size, List.length_append, List.length_cons, List.length_nil]; omega
        have s4 : ¬ (9223372036854775807 : Int) < (((BA (Lib.itoa saga ++ [47] ++ s.name.data.toList)).size + (BA [47, 100, 111]).size : Nat) : Int) := by simp only [ba_size, List.length_append, List.length_cons, List.length_nil]; omega
        have hi' := fn_decimal hE saga (by omega) hs
        have hcells : s.cells = [vs (BA s.name.data.toList), vs s.party, vi s.timeout, vi s.tr.ret, vi s.tr.base, vi s.tr.fac, vi s.tr.cap, vi s.un.ret, vi s.un.base, vi s.un.fac, vi s.un.cap, vi s.prio] := by rw [ba_of]; rfl
        simp only [List.append_assoc, List.cons_append, List.nil_append] at s2 s3 s4
        rw [keyS, if_neg (by omega), hg]
        dsimp only
        cases u
        · simp -implicitDefEqProofs only [go_sem, ir_usufructref13_Key, DefT.cells, c1, c2, c3, c4, hg, ro_step, hi', e0, e1, e2, hcells, ba_app, List.append_assoc, s1, s2, s3, s4, wayL]
        · simp -implicitDefEqProofs only [go_sem, ir_usufructref13_Key, DefT.cells, c1, c2, c3, c4, hg, ro_step, hi', e0, e1, e2, hcells, ba_app, List.append_assoc, s1, s2, s3, s4, wayL]
end Go.Proofs.YtoobogpbejdocaaDoor.Ev
