/-
  Whether two arrays are the same.
-/
import Derived.Test.YtbpndomfipdhdaaDoorEvPrimD
set_option linter.unusedVariables false
set_option linter.unusedSimpArgs false
namespace Go.Proofs.YtbpndomfipdhdaaDoor.Ev
open Go.RowKit
section
variable {P : Program} {G : Nat → Option (List AV)} {bases : List Nat}

theorem eq_items (w : World) {e : TypeId} {ks : List TK} (hk : plainN P 200 e = some ks) (hc : P.cellsOf e = ks.length) (X Y : Array Value) : ∀ (m j : Nat) (b : Bool), (j + m) * ks.length ≤ X.size → (j + m) * ks.length ≤ Y.size →
    eqVs (List.replicate m ks).flatten ((X.toList.drop (j * ks.length)).take (m * ks.length)) ((Y.toList.drop (j * ks.length)).take (m * ks.length)) = some b →
    (Op.eqItems 9999 e (P.cellsOf e) X Y (List.range' j m)).run P w = .ok b w
  | 0, j, b, hX, hY, h => by
    simp [eqVs] at h
    subst h
    simp [Op.eqItems]
  | m + 1, j, b, hX, hY, h => by
    have hm : (j + (m + 1)) * ks.length = j * ks.length + ks.length + m * ks.length := by rw [Nat.add_mul, Nat.succ_mul]; omega
    have hm2 : (j + 1 + m) * ks.length = j * ks.length + ks.length + m * ks.length := by rw [Nat.add_mul, Nat.succ_mul]
    have hm3 : (m + 1) * ks.length = ks.length + m * ks.length := by rw [Nat.succ_mul]; omega
    have hj : (j + 1) * ks.length = j * ks.length + ks.length := Nat.succ_mul _ _
    rw [List.replicate_succ, List.flatten_cons] at h
    obtain ⟨b1, b2, e1, e2, rfl⟩ := eqVs_split h
    rw [hm3, List.take_take, Nat.min_eq_left (by omega), List.take_take, Nat.min_eq_left (by omega)] at e1
    rw [hm3, List.drop_take, List.drop_drop, List.drop_take, List.drop_drop] at e2
    rw [show ks.length + m * ks.length - ks.length = m * ks.length by omega, ← hj] at e2
    obtain ⟨x, y, p1, p2, p3⟩ := (eq_plain (P := P) w 200).1 e ks hk 9999 (by omega) X Y (j * ks.length) b1 (by omega) (by omega) e1
    have p4 := eq_items w hk hc X Y m (j + 1) b2 (by omega) (by omega) e2
    rw [List.range'_succ, Op.eqItems, hc]
    rw [hc] at p4
    simp only [Sem.run_bind, p1, p2, p3, Result.andThen_ok]
    cases b1
    · simp
    · simpa using p4
theorem ps_aeqa {neg : Bool} {op : BinOp} {t yt e : TypeId} {n : Nat} {i : TypeInfo} {x y : Operand} {p : Prim} {ks : List TK} (ht : P.underlying t = some (.array n e)) (hi : P.info? e = some i) (hs : ks.length = i.size) (hop : op = (if neg then .neq else .eql)) (hk : plainN P 200 e = some ks) (hq : P.eqGuardType P.depth t = false)
    (hc : ((cOpd x).bind fun x => (cOpd y).bind fun y => some (Prim.aeq neg (List.replicate n ks).flatten x y)) = some p) : PS P G bases (.binOp op t x y yt) p := by
  intro C e' a oo r st' hoo hO hg hE h
  simp only [Option.bind_eq_some_iff, Option.some.injEq] at hc
  obtain ⟨x', h1, y', h2, rfl⟩ := hc
  simp only [Prim.ev] at h
  split at h
  · rename_i u k1
    split at h
    · rename_i v k2
      split at h
      · rename_i b k3
        simp only [Option.some.injEq, Prod.mk.injEq] at h
        obtain ⟨rfl, rfl⟩ := h
        have e1 := cOpd_ok h1 hg hE k1
        have e2 := cOpd_ok h2 hg hE k2
        simp only [VR] at e1 e2
        obtain ⟨X, e1, f1⟩ := e1
        obtain ⟨Y, e2, f2⟩ := e2
        have he := eqVs_of f1 f2 k3
        obtain ⟨l1, l2⟩ := eqVs_len he
        have hl : (List.replicate n ks).flatten.length = n * ks.length := by simp
        have s1 : X.size = n * ks.length := by rw [← hl, ← l1]; simp
        have s2 : Y.size = n * ks.length := by rw [← hl, ← l2]; simp
        have hcell : P.cellsOf e = ks.length := by simp [Program.cellsOf, hi, hs]
        have hr : (Op.equalIn 10000 t (.agg X) (.agg Y)).run P C.w = .ok b C.w := by
          rw [show (10000 : Nat) = 9999 + 1 from rfl, run_equalIn_array (w := C.w) 9999 X Y ht hi, List.range_eq_range']
          refine eq_items C.w hk hcell X Y n 0 b (by rw [Nat.zero_add]; omega) (by rw [Nat.zero_add]; omega) ?_
          rw [Nat.zero_mul, List.drop_zero, List.drop_zero, List.take_of_length_le (by simp; omega), List.take_of_length_le (by simp; omega)]
          exact he
        refine Does.stay hO (x := .bool (if neg then !b else b)) ?_ (VR_v rfl)
        simp only [execOp, hoo, e1, e2, Sem.run_bind, run_eqGuard_agg C.w op t x y X Y hq, Result.andThen_ok, Sem.run_pure]
        cases neg <;> simp at hop <;> subst hop <;> simp only [run_eql_struct, run_neq_struct, hr, Result.andThen_ok] <;> rfl
      · cases h
    · cases h
  · cases h
end
end Go.Proofs.YtbpndomfipdhdaaDoor.Ev
