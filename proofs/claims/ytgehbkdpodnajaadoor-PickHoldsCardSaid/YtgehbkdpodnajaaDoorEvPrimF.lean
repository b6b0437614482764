/-
  Stores and append.
-/
import Derived.Test.YtgehbkdpodnajaaDoorEvPrimE
set_option linter.unusedVariables false
set_option linter.unusedSimpArgs false
namespace Go.Proofs.YtgehbkdpodnajaaDoor.Ev
open Go.RowKit

theorem put_len {α : Type} {cs l : List α} {o : Nat} (h : o + l.length ≤ cs.length) : (cs.take o ++ l ++ cs.drop (o + l.length)).length = cs.length := by simp; omega
theorem put_get {α : Type} {cs l : List α} {o : Nat} (h : o + l.length ≤ cs.length) (i : Nat) : (cs.take o ++ l ++ cs.drop (o + l.length))[i]? = if i < o then cs[i]? else if i < o + l.length then l[i - o]? else cs[i]? := by
  have h1 : (cs.take o).length = o := by rw [List.length_take]; omega
  rw [List.append_assoc, List.getElem?_append, h1]
  split
  · rename_i hi; rw [List.getElem?_take, if_pos hi]
  · rename_i hi
    rw [List.getElem?_append]
    by_cases h2 : i < o + l.length
    · rw [if_pos (by omega), if_pos h2]
    · rw [if_neg (by omega), if_neg h2, List.getElem?_drop]
      congr 1; omega
theorem flat_div {α : Type} {k : Nat} (hk : 0 < k) {xs : List (List α)} (hx : ∀ c, c ∈ xs → c.length = k) {i : Nat} {q : α} (h : xs.flatten[i]? = some q) : ∃ c, xs[i / k]? = some c ∧ c[i % k]? = some q := by
  have hl := (List.getElem?_eq_some_iff.1 h).1
  rw [flat_len hx] at hl
  have h1 : i / k < xs.length := by rwa [Nat.div_lt_iff_lt_mul hk]
  refine ⟨xs[i / k], List.getElem?_eq_getElem h1, ?_⟩
  rw [← flat_get hx (i / k) (i % k) _ (List.getElem?_eq_getElem h1) (Nat.mod_lt _ hk), Nat.mul_comm, Nat.div_add_mod]
  exact h
theorem flat_set {α : Type} {k : Nat} : ∀ {xs : List (List α)}, (∀ c, c ∈ xs → c.length = k) → ∀ {i off : Nat} {c l : List α}, xs[i]? = some c → off + l.length ≤ k →
    (xs.set i (c.take off ++ l ++ c.drop (off + l.length))).flatten = xs.flatten.take (i * k + off) ++ l ++ xs.flatten.drop (i * k + off + l.length)
  | [], _, i, off, c, l, h, _ => by simp at h
  | x :: xs, hx, 0, off, c, l, h, hl => by
    simp at h; subst h
    have := hx x (by simp)
    simp only [List.set_cons_zero, List.flatten_cons, Nat.zero_mul, Nat.zero_add]
    rw [List.take_append_of_le_length (by omega), List.drop_append_of_le_length (by omega), List.append_assoc (x.take off ++ l)]
  | x :: xs, hx, i + 1, off, c, l, h, hl => by
    simp at h
    have h1 := hx x (by simp)
    simp only [List.set_cons_succ, List.flatten_cons]
    rw [flat_set (fun c hc => hx c (by simp [hc])) h hl]
    have e1 : (i + 1) * k + off = x.length + (i * k + off) := by rw [h1, Nat.add_mul]; omega
    have t1 : ∀ j, (x ++ xs.flatten).take (x.length + j) = x ++ xs.flatten.take j := fun j => by rw [List.take_append, List.take_of_length_le (by omega)]; simp
    have t2 : ∀ j, (x ++ xs.flatten).drop (x.length + j) = xs.flatten.drop j := fun j => by rw [List.drop_append]; simp
    rw [e1, t1, Nat.add_assoc x.length, t2]
    simp [List.append_assoc]
theorem seg_put {α : Type} {cs l : List α} {o i n : Nat} (h : i + l.length ≤ n) (hn : o + n ≤ cs.length) :
    ((cs.take (o + i) ++ l ++ cs.drop (o + i + l.length)).drop o).take n = ((cs.drop o).take n).take i ++ l ++ ((cs.drop o).take n).drop (i + l.length) := by
  have h2 : ((cs.drop o).take n).length = n := by simp; omega
  apply List.ext_getElem?
  intro j
  rw [put_get (by omega), List.getElem?_take, List.getElem?_drop, put_get (by omega)]
  simp only [List.getElem?_take, List.getElem?_drop]
  by_cases h1 : j < n
  · simp only [h1, if_true]
    by_cases h3 : j < i
    · rw [if_pos (by omega), if_pos h3]
    · rw [if_neg (by omega), if_neg h3]
      by_cases h4 : j < i + l.length
      · rw [if_pos (by omega), if_pos h4]; congr 1; omega
      · rw [if_neg (by omega), if_neg h4]
  · simp only [h1, if_false]
    rw [if_neg (by omega), if_neg (by omega)]

section
variable {P : Program} {G : Nat → Option (List AV)} {bases : List Nat} {C : Ctx} {e : Env} {a : Act}

/-- A store into an object's cells. -/
theorem does_store {oo : Oper} (hO : C.OK) {p b : AV} {pv bv : Value} {n : Nat} {st' : Store} (hp : VR C p pv) (hb : VR C b bv) (ht : b.tuple = false) (h : stAt bases C.st n b.cells p = some st')
    (hr : ∀ ad w', pv = .pointer (some ad) → bv.cells.size = n → (storeCells ad bv.cells.toList 0).run P C.w = .ok () w' → (execOp a.eval oo).run P C.w = .ok .skip w') : Does P a oo C (.tup []) st' := by
  have hv := VR_cells hb ht
  have hone := VRs_one hv
  have hlen := VRs_length hv
  have hsz : bv.cells.toList.length = bv.cells.size := by simp
  cases p with
  | ref id gen i off =>
    simp only [stAt] at h
    split at h
    · rename_i hq
      split at h
      · rename_i cs hst
        split at h
        · rename_i hgi
          simp only [Option.some.injEq] at h; subst h
          obtain ⟨bb, o, hB, rfl, ccs, t, f2, f3⟩ := hO.get hst
          have hccs := VRs_length f3
          simp only [Array.length_toList] at hccs
          have hpv : pv = .pointer (some ⟨bb, off, none⟩) := by
            simp only [VR] at hp
            rcases hp with ⟨cs', b', k1, k2, e1⟩ | ⟨_, k, g, xs, nw, k1, _⟩
            · rw [hB] at k2; injection k2 with k2; injection k2 with k2 _; subst k2; exact e1
            · rw [hst] at k1; cases k1
          obtain ⟨w', ccs', r1, u, r2⟩ := run_storeCells P bv.cells.toList 0 C.w ccs t bb off f2 (by omega) hone
          rw [Nat.add_zero] at r2
          have hcs' : ccs'.size = ccs.size := by rw [← Array.length_toList, r2, put_len (by simp; omega)]; simp
          have T : Turn C w' id bb 0 bb 0 (.box cs) (.box (putCells cs off b.cells)) := by
            refine ⟨hst, hB, by simp [Ob.next], .inl ⟨by simp [Ob.still], rfl, rfl⟩, u.os, u.tape, u.out, by rw [u.size]; exact Nat.le_refl _, fun k _ hk => u.other k hk, ?_, fun ad c hb' hs => ?_, fun _ _ => .inl ⟨rfl, trivial⟩, .inl rfl⟩
            · simp [World.shape?, f2, u.at_, hcs']
            · exact absurd ⟨id, 0, _, by rw [hb']; exact hB, hst, trivial⟩ hs.2.1
          have hx := ext_set hO T
          refine ⟨_, _, _, hr _ w' hpv (by omega) r1, .inr ⟨rfl, rfl⟩, hx, ok_set hO T ⟨rfl, ccs', t, u.at_, ?_⟩, rfl, by simp only [VR]; exact ⟨#[], rfl, by simp [VRt]⟩⟩
          rw [r2]
          unfold putCells
          exact VRs_put (VRs_ext hx f3) (VRs_ext hx hv) off
        · cases h
      · rename_i k g xs nw hst
        split at h
        · rename_i hg
          obtain ⟨rfl, rfl⟩ := hg
          split at h
          · rename_i c hc
            split at h
            · rename_i hle
              simp only [Option.some.injEq] at h; subst h
              obtain ⟨bb, o, hB, ccs, t, f1, f2, f3, f4⟩ := hO.get hst
              have hcl := f2 c (List.mem_of_getElem? hc)
              have hil := (List.getElem?_eq_some_iff.1 hc).1
              have hik : (i + 1) * k ≤ xs.length * k := Nat.mul_le_mul_right k hil
              rw [Nat.add_mul] at hik
              have hpv : pv = .pointer (some ⟨bb, o + i * k + off, none⟩) := by
                simp only [VR] at hp
                rcases hp with ⟨cs', b', k1, _⟩ | ⟨_, k', g', xs', nw', k1, _, k3⟩
                · rw [hst] at k1; cases k1
                · rw [hst] at k1
                  injection k1 with k1
                  injection k1 with q1 q2 q3 q4
                  subst q1; subst q2
                  obtain ⟨b', o', m1, m2⟩ := k3 rfl
                  rw [hB] at m1; injection m1 with m1; injection m1 with m1 m3
                  subst m1; subst m3
                  exact m2
              obtain ⟨w', ccs', r1, u, r2⟩ := run_storeCells P bv.cells.toList 0 C.w ccs t bb (o + i * k + off) f1 (by omega) hone
              rw [Nat.add_zero] at r2
              have hcs' : ccs'.size = ccs.size := by rw [← Array.length_toList, r2, put_len (by simp; omega)]; simp
              have T : Turn C w' id bb o bb o (.row k g xs false) (.row k g (xs.set i (putCells c off b.cells)) false) := by
                refine ⟨hst, hB, by simp [Ob.next], .inl ⟨by simp [Ob.still], rfl, rfl⟩, u.os, u.tape, u.out, by rw [u.size]; exact Nat.le_refl _, fun k _ hk => u.other k hk, ?_, fun ad c hb' hs => ?_, fun _ _ => .inl ⟨rfl, by simp [Ob.wr]⟩, .inl rfl⟩
                · simp [World.shape?, f1, u.at_, hcs']
                · exact absurd ⟨id, o, _, by rw [hb']; exact hB, hst, by simp [Ob.wr]⟩ hs.2.1
              have hx := ext_set hO T
              refine ⟨_, _, _, hr _ w' hpv (by omega) r1, .inr ⟨rfl, rfl⟩, hx, ok_set hO T ⟨ccs', t, u.at_, ?_, ?_, ?_⟩, rfl, by simp only [VR]; exact ⟨#[], rfl, by simp [VRt]⟩⟩
              · intro d hd
                rcases List.mem_or_eq_of_mem_set hd with hd | rfl
                · exact f2 d hd
                · unfold putCells; rw [put_len (by omega)]; exact hcl
              · rw [hcs']; simpa using f3
              · rw [r2, List.length_set]
                unfold putCells
                rw [flat_set f2 hc (by omega)]
                rw [show o + i * k + off = o + (i * k + off) by omega]
                rw [seg_put (by omega) (by simp; omega)]
                exact VRs_put (VRs_ext hx f4) (VRs_ext hx hv) _
            · cases h
          · cases h
        · cases h
      · cases h
    · cases h
  | _ => simp [stAt] at h
theorem ps_store {t : TypeId} {i : TypeInfo} {x y : Operand} {p : Prim} (hi : P.info? t = some i) (hc : ((cOpd x).bind fun p => (cOpd y).bind fun x => some (Prim.store i.size p x)) = some p) : PS P G bases (.store t x y) p := by
  intro C e a oo r st' hoo hO hg hE h
  simp only [Option.bind_eq_some_iff, Option.some.injEq] at hc
  obtain ⟨x', h1, y', h2, rfl⟩ := hc
  simp only [Prim.ev] at h
  obtain ⟨z, k1, h⟩ := ev1 h
  split at h
  · rename_i b k2
    split at h
    · cases h
    · rename_i ht
      split at h
      · rename_i st2 k3
        simp only [Option.some.injEq, Prod.mk.injEq] at h
        obtain ⟨rfl, rfl⟩ := h
        refine does_store hO (cOpd_ok h1 hg hE k1) (cOpd_ok h2 hg hE k2) (by simpa using ht) k3 fun ad w' e1 e2 e3 => ?_
        simp only [execOp, hoo, e1, Instr.storeAt, Instr.sureAddr, Sem.run_bind, Sem.run_pure, Result.andThen_ok, storeVar, run_sizeOf' hi]
        rw [if_neg (by omega), e3]
        rfl
      · cases h
  · cases h
end
end Go.Proofs.YtgehbkdpodnajaaDoor.Ev
