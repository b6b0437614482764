import Derived.Test.YtoobogpbejdocaaDoorEvSa
import Derived.Test.YtoobogpbejdocaaDoorEvFc7
set_option linter.unusedVariables false
set_option linter.unusedSectionVars false
set_option linter.unusedSimpArgs false
set_option linter.unusedSectionVars false
namespace Go.Proofs.YtoobogpbejdocaaDoor.Ev
attribute [local congr] bind_congr_head
attribute [local go_sem] AV.cells AV.tuple elems boxQ callN_any compact_same compact_new aggOf
section
variable {E : Prog} (hE : Std E fns) (d : DefT) (e : Int) {L : Env × Store → Option (Sig × Env × Store)} (hL : ∀ e st, L (e, st) = (IR.runL E.glob (callL E) [] ir_usufructref30_Play_L0 e st).bind (seqK fun e st => L (compact [] 3 [3, 7, 8, 9, 10, 11, 12] e st)))
  (turn : Nat) (now : Int) (g : Nat) (ht : turn < 5000) (i1 : Int) (i2 : ByteArray) (i3 ph i5 i6 du sk : Int) (o : Bool) (hp : ph ≤ 1)
include hL ht hp
theorem tn001010 (r1 r2 r3 : SgT) (e1 e2 : Int) (c : CmT) (k1 : Int) (k2 : ByteArray) (k3 k4 k5 k6 k8 k9 : Int) (c2 : e < du) (hm : ¬ 1099511627776 ≤ e) (c3 :  now < e) (h0 : callP E f_usufructref14_Do [dA d, sA (⟨i1, i2, i3, 0, i5, i6, false, du, sk⟩ : SgT), vi 0, vi e] = some (.tup [sA r1, vi e1])) (c4 : ¬ e1 = 0) (h1 : callP E f_usufructref14_Do [dA d, sA (⟨i1, i2, i3, 0, i5, i6, false, du, sk⟩ : SgT), vi 1, vi e] = some (.tup [sA r2, vi 0])) (c5 : True) (h2 : callP E f_usufructref14_May [dA d, sA r2, vi e] = some (vb true)) (h3 : callP E f_usufructref14_Emit [dA d, sA r2, vi e] = some (.tup [sA r3, cA c])) (w1 : IntKind.i64.wrap (r2.tries + 1) = r2.tries + 1) : L (plE e (plO g []) now turn, plS d sg0 (⟨i1, i2, i3, 0, i5, i6, false, du, sk⟩ : SgT) g []) = L (plE e (plO 0 ([] ++ [winS r2 e])) e ((turn + 1 : Nat) : Int), plS d sg0 r3 0 ([] ++ [winS r2 e])) := by
  have h6 := wrap_succ (i := turn) (by omega)
  have htt : (turn : Int) < 5000 := by omega
  rw [hL, (pl_nil d sg0 (⟨i1, i2, i3, 0, i5, i6, false, du, sk⟩ : SgT) g).1, (pl_nil d sg0 (⟨i1, i2, i3, 0, i5, i6, false, du, sk⟩ : SgT) g).2, (pl_ne d sg0 r3 0 (by simp)).1, (pl_ne d sg0 r3 0 (by simp)).2]
  simp only [List.nil_append, List.map_cons, List.map_nil, List.length_cons, List.length_nil]
  simp -implicitDefEqProofs only [go_sem, ↓reduceIte, ir_usufructref30_Play_L0, WnT.cells, SgT.cells, h6, htt, hp, hm, c3, h0, h1, h2, c4, c2, h3, w1, ro_step, ro_wn, gand_b, Bool.and_eq_true, Int.natCast_nonneg]
  try rfl
theorem tn001011 (r1 r2 r3 : SgT) (e1 e2 : Int) (c : CmT) (k1 : Int) (k2 : ByteArray) (k3 k4 k5 k6 k8 k9 : Int) (c2 : e < du) (hm : ¬ 1099511627776 ≤ e) (c3 :  now < e) (h0 : callP E f_usufructref14_Do [dA d, sA (⟨i1, i2, i3, 0, i5, i6, false, du, sk⟩ : SgT), vi 0, vi e] = some (.tup [sA r1, vi e1])) (c4 : ¬ e1 = 0) (h1 : callP E f_usufructref14_Do [dA d, sA (⟨i1, i2, i3, 0, i5, i6, false, du, sk⟩ : SgT), vi 1, vi e] = some (.tup [sA r2, vi 0])) (c5 : True) (h2 : callP E f_usufructref14_May [dA d, sA r2, vi e] = some (vb false)) : L (plE e (plO g []) now turn, plS d sg0 (⟨i1, i2, i3, 0, i5, i6, false, du, sk⟩ : SgT) g []) = L (plE e (plO g []) e ((turn + 1 : Nat) : Int), plS d sg0 r2 g []) := by
  have h6 := wrap_succ (i := turn) (by omega)
  have htt : (turn : Int) < 5000 := by omega
  rw [hL, (pl_nil d sg0 (⟨i1, i2, i3, 0, i5, i6, false, du, sk⟩ : SgT) g).1, (pl_nil d sg0 (⟨i1, i2, i3, 0, i5, i6, false, du, sk⟩ : SgT) g).2, (pl_nil d sg0 r2 g).1]
  simp -implicitDefEqProofs only [go_sem, ↓reduceIte, ir_usufructref30_Play_L0, WnT.cells, SgT.cells, h6, htt, hp, hm, c3, h0, h1, h2, c4, c2, ro_step, ro_wn, gand_b, Bool.and_eq_true, Int.natCast_nonneg]
  try rfl
theorem tn001110 (r1 r2 r3 : SgT) (e1 e2 : Int) (c : CmT) (k1 : Int) (k2 : ByteArray) (k3 k4 k5 k6 k8 k9 : Int) (c2 : e < du) (hm : ¬ 1099511627776 ≤ e) (c3 :  now < e) (h0 : callP E f_usufructref14_Do [dA d, sA (⟨i1, i2, i3, 0, i5, i6, false, du, sk⟩ : SgT), vi 0, vi e] = some (.tup [sA r1, vi e1])) (c4 : ¬ e1 = 0) (h1 : callP E f_usufructref14_Do [dA d, sA (⟨i1, i2, i3, 0, i5, i6, false, du, sk⟩ : SgT), vi 1, vi e] = some (.tup [sA r2, vi e2])) (c5 : ¬ e2 = 0) (h2 : callP E f_usufructref14_May [dA d, sA (⟨i1, i2, i3, 0, i5, i6, false, du, sk⟩ : SgT), vi e] = some (vb true)) (h3 : callP E f_usufructref14_Emit [dA d, sA (⟨i1, i2, i3, 0, i5, i6, false, du, sk⟩ : SgT), vi e] = some (.tup [sA r3, cA c])) (w1 : IntKind.i64.wrap ((⟨i1, i2, i3, 0, i5, i6, false, du, sk⟩ : SgT).tries + 1) = (⟨i1, i2, i3, 0, i5, i6, false, du, sk⟩ : SgT).tries + 1) : L (plE e (plO g []) now turn, plS d sg0 (⟨i1, i2, i3, 0, i5, i6, false, du, sk⟩ : SgT) g []) = L (plE e (plO 0 ([] ++ [winS (⟨i1, i2, i3, 0, i5, i6, false, du, sk⟩ : SgT) e])) e ((turn + 1 : Nat) : Int), plS d sg0 r3 0 ([] ++ [winS (⟨i1, i2, i3, 0, i5, i6, false, du, sk⟩ : SgT) e])) := by
  have h6 := wrap_succ (i := turn) (by omega)
  have htt : (turn : Int) < 5000 := by omega
  rw [hL, (pl_nil d sg0 (⟨i1, i2, i3, 0, i5, i6, false, du, sk⟩ : SgT) g).1, (pl_nil d sg0 (⟨i1, i2, i3, 0, i5, i6, false, du, sk⟩ : SgT) g).2, (pl_ne d sg0 r3 0 (by simp)).1, (pl_ne d sg0 r3 0 (by simp)).2]
  simp only [List.nil_append, List.map_cons, List.map_nil, List.length_cons, List.length_nil]
  simp -implicitDefEqProofs only [go_sem, ↓reduceIte, ir_usufructref30_Play_L0, WnT.cells, SgT.cells, h6, htt, hp, hm, c3, h0, h1, h2, c4, c5, c2, h3, w1, ro_step, ro_wn, gand_b, Bool.and_eq_true, Int.natCast_nonneg]
  try rfl
theorem tn001111 (r1 r2 r3 : SgT) (e1 e2 : Int) (c : CmT) (k1 : Int) (k2 : ByteArray) (k3 k4 k5 k6 k8 k9 : Int) (c2 : e < du) (hm : ¬ 1099511627776 ≤ e) (c3 :  now < e) (h0 : callP E f_usufructref14_Do [dA d, sA (⟨i1, i2, i3, 0, i5, i6, false, du, sk⟩ : SgT), vi 0, vi e] = some (.tup [sA r1, vi e1])) (c4 : ¬ e1 = 0) (h1 : callP E f_usufructref14_Do [dA d, sA (⟨i1, i2, i3, 0, i5, i6, false, du, sk⟩ : SgT), vi 1, vi e] = some (.tup [sA r2, vi e2])) (c5 : ¬ e2 = 0) (h2 : callP E f_usufructref14_May [dA d, sA (⟨i1, i2, i3, 0, i5, i6, false, du, sk⟩ : SgT), vi e] = some (vb false)) : L (plE e (plO g []) now turn, plS d sg0 (⟨i1, i2, i3, 0, i5, i6, false, du, sk⟩ : SgT) g []) = L (plE e (plO g []) e ((turn + 1 : Nat) : Int), plS d sg0 (⟨i1, i2, i3, 0, i5, i6, false, du, sk⟩ : SgT) g []) := by
  have h6 := wrap_succ (i := turn) (by omega)
  have htt : (turn : Int) < 5000 := by omega
  rw [hL, (pl_nil d sg0 (⟨i1, i2, i3, 0, i5, i6, false, du, sk⟩ : SgT) g).1, (pl_nil d sg0 (⟨i1, i2, i3, 0, i5, i6, false, du, sk⟩ : SgT) g).2]
  simp -implicitDefEqProofs only [go_sem, ↓reduceIte, ir_usufructref30_Play_L0, WnT.cells, SgT.cells, h6, htt, hp, hm, c3, h0, h1, h2, c4, c5, c2, ro_step, ro_wn, gand_b, Bool.and_eq_true, Int.natCast_nonneg]
  try rfl
theorem tn011010 (r1 r2 r3 : SgT) (e1 e2 : Int) (c : CmT) (k1 : Int) (k2 : ByteArray) (k3 k4 k5 k6 k8 k9 : Int) (c2 : e < du) (hm : ¬ 1099511627776 ≤ e) (c3 : ¬ now < e) (h0 : callP E f_usufructref14_Do [dA d, sA (⟨i1, i2, i3, 0, i5, i6, false, du, sk⟩ : SgT), vi 0, vi now] = some (.tup [sA r1, vi e1])) (c4 : ¬ e1 = 0) (h1 : callP E f_usufructref14_Do [dA d, sA (⟨i1, i2, i3, 0, i5, i6, false, du, sk⟩ : SgT), vi 1, vi now] = some (.tup [sA r2, vi 0])) (c5 : True) (h2 : callP E f_usufructref14_May [dA d, sA r2, vi now] = some (vb true)) (h3 : callP E f_usufructref14_Emit [dA d, sA r2, vi now] = some (.tup [sA r3, cA c])) (w1 : IntKind.i64.wrap (r2.tries + 1) = r2.tries + 1) : L (plE e (plO g []) now turn, plS d sg0 (⟨i1, i2, i3, 0, i5, i6, false, du, sk⟩ : SgT) g []) = L (plE e (plO 0 ([] ++ [winS r2 now])) now ((turn + 1 : Nat) : Int), plS d sg0 r3 0 ([] ++ [winS r2 now])) := by
  have h6 := wrap_succ (i := turn) (by omega)
  have htt : (turn : Int) < 5000 := by omega
  rw [hL, (pl_nil d sg0 (⟨i1, i2, i3, 0, i5, i6, false, du, sk⟩ : SgT) g).1, (pl_nil d sg0 (⟨i1, i2, i3, 0, i5, i6, false, du, sk⟩ : SgT) g).2, (pl_ne d sg0 r3 0 (by simp)).1, (pl_ne d sg0 r3 0 (by simp)).2]
  simp only [List.nil_append, List.map_cons, List.map_nil, List.length_cons, List.length_nil]
  simp -implicitDefEqProofs only [go_sem, ↓reduceIte, ir_usufructref30_Play_L0, WnT.cells, SgT.cells, h6, htt, hp, hm, c3, h0, h1, h2, c4, c2, h3, w1, ro_step, ro_wn, gand_b, Bool.and_eq_true, Int.natCast_nonneg]
  try rfl
theorem tn011011 (r1 r2 r3 : SgT) (e1 e2 : Int) (c : CmT) (k1 : Int) (k2 : ByteArray) (k3 k4 k5 k6 k8 k9 : Int) (c2 : e < du) (hm : ¬ 1099511627776 ≤ e) (c3 : ¬ now < e) (h0 : callP E f_usufructref14_Do [dA d, sA (⟨i1, i2, i3, 0, i5, i6, false, du, sk⟩ : SgT), vi 0, vi now] = some (.tup [sA r1, vi e1])) (c4 : ¬ e1 = 0) (h1 : callP E f_usufructref14_Do [dA d, sA (⟨i1, i2, i3, 0, i5, i6, false, du, sk⟩ : SgT), vi 1, vi now] = some (.tup [sA r2, vi 0])) (c5 : True) (h2 : callP E f_usufructref14_May [dA d, sA r2, vi now] = some (vb false)) : L (plE e (plO g []) now turn, plS d sg0 (⟨i1, i2, i3, 0, i5, i6, false, du, sk⟩ : SgT) g []) = L (plE e (plO g []) now ((turn + 1 : Nat) : Int), plS d sg0 r2 g []) := by
  have h6 := wrap_succ (i := turn) (by omega)
  have htt : (turn : Int) < 5000 := by omega
  rw [hL, (pl_nil d sg0 (⟨i1, i2, i3, 0, i5, i6, false, du, sk⟩ : SgT) g).1, (pl_nil d sg0 (⟨i1, i2, i3, 0, i5, i6, false, du, sk⟩ : SgT) g).2, (pl_nil d sg0 r2 g).1]
  simp -implicitDefEqProofs only [go_sem, ↓reduceIte, ir_usufructref30_Play_L0, WnT.cells, SgT.cells, h6, htt, hp, hm, c3, h0, h1, h2, c4, c2, ro_step, ro_wn, gand_b, Bool.and_eq_true, Int.natCast_nonneg]
  try rfl
theorem tn011110 (r1 r2 r3 : SgT) (e1 e2 : Int) (c : CmT) (k1 : Int) (k2 : ByteArray) (k3 k4 k5 k6 k8 k9 : Int) (c2 : e < du) (hm : ¬ 1099511627776 ≤ e) (c3 : ¬ now < e) (h0 : callP E f_usufructref14_Do [dA d, sA (⟨i1, i2, i3, 0, i5, i6, false, du, sk⟩ : SgT), vi 0, vi now] = some (.tup [sA r1, vi e1])) (c4 : ¬ e1 = 0) (h1 : callP E f_usufructref14_Do [dA d, sA (⟨i1, i2, i3, 0, i5, i6, false, du, sk⟩ : SgT), vi 1, vi now] = some (.tup [sA r2, vi e2])) (c5 : ¬ e2 = 0) (h2 : callP E f_usufructref14_May [dA d, sA (⟨i1, i2, i3, 0, i5, i6, false, du, sk⟩ : SgT), vi now] = some (vb true)) (h3 : callP E f_usufructref14_Emit [dA d, sA (⟨i1, i2, i3, 0, i5, i6, false, du, sk⟩ : SgT), vi now] = some (.tup [sA r3, cA c])) (w1 : IntKind.i64.wrap ((⟨i1, i2, i3, 0, i5, i6, false, du, sk⟩ : SgT).tries + 1) = (⟨i1, i2, i3, 0, i5, i6, false, du, sk⟩ : SgT).tries + 1) : L (plE e (plO g []) now turn, plS d sg0 (⟨i1, i2, i3, 0, i5, i6, false, du, sk⟩ : SgT) g []) = L (plE e (plO 0 ([] ++ [winS (⟨i1, i2, i3, 0, i5, i6, false, du, sk⟩ : SgT) now])) now ((turn + 1 : Nat) : Int), plS d sg0 r3 0 ([] ++ [winS (⟨i1, i2, i3, 0, i5, i6, false, du, sk⟩ : SgT) now])) := by
  have h6 := wrap_succ (i := turn) (by omega)
  have htt : (turn : Int) < 5000 := by omega
  rw [hL, (pl_nil d sg0 (⟨i1, i2, i3, 0, i5, i6, false, du, sk⟩ : SgT) g).1, (pl_nil d sg0 (⟨i1, i2, i3, 0, i5, i6, false, du, sk⟩ : SgT) g).2, (pl_ne d sg0 r3 0 (by simp)).1, (pl_ne d sg0 r3 0 (by simp)).2]
  simp only [List.nil_append, List.map_cons, List.map_nil, List.length_cons, List.length_nil]
  simp -implicitDefEqProofs only [go_sem, ↓reduceIte, ir_usufructref30_Play_L0, WnT.cells, SgT.cells, h6, htt, hp, hm, c3, h0, h1, h2, c4, c5, c2, h3, w1, ro_step, ro_wn, gand_b, Bool.and_eq_true, Int.natCast_nonneg]
  try rfl
theorem tn011111 (r1 r2 r3 : SgT) (e1 e2 : Int) (c : CmT) (k1 : Int) (k2 : ByteArray) (k3 k4 k5 k6 k8 k9 : Int) (c2 : e < du) (hm : ¬ 1099511627776 ≤ e) (c3 : ¬ now < e) (h0 : callP E f_usufructref14_Do [dA d, sA (⟨i1, i2, i3, 0, i5, i6, false, du, sk⟩ : SgT), vi 0, vi now] = some (.tup [sA r1, vi e1])) (c4 : ¬ e1 = 0) (h1 : callP E f_usufructref14_Do [dA d, sA (⟨i1, i2, i3, 0, i5, i6, false, du, sk⟩ : SgT), vi 1, vi now] = some (.tup [sA r2, vi e2])) (c5 : ¬ e2 = 0) (h2 : callP E f_usufructref14_May [dA d, sA (⟨i1, i2, i3, 0, i5, i6, false, du, sk⟩ : SgT), vi now] = some (vb false)) : L (plE e (plO g []) now turn, plS d sg0 (⟨i1, i2, i3, 0, i5, i6, false, du, sk⟩ : SgT) g []) = L (plE e (plO g []) now ((turn + 1 : Nat) : Int), plS d sg0 (⟨i1, i2, i3, 0, i5, i6, false, du, sk⟩ : SgT) g []) := by
  have h6 := wrap_succ (i := turn) (by omega)
  have htt : (turn : Int) < 5000 := by omega
  rw [hL, (pl_nil d sg0 (⟨i1, i2, i3, 0, i5, i6, false, du, sk⟩ : SgT) g).1, (pl_nil d sg0 (⟨i1, i2, i3, 0, i5, i6, false, du, sk⟩ : SgT) g).2]
  simp -implicitDefEqProofs only [go_sem, ↓reduceIte, ir_usufructref30_Play_L0, WnT.cells, SgT.cells, h6, htt, hp, hm, c3, h0, h1, h2, c4, c5, c2, ro_step, ro_wn, gand_b, Bool.and_eq_true, Int.natCast_nonneg]
  try rfl
theorem tn101010 (r1 r2 r3 : SgT) (e1 e2 : Int) (c : CmT) (k1 : Int) (k2 : ByteArray) (k3 k4 k5 k6 k8 k9 : Int) (c1 : ¬ (ph = 0 ∧ e < du)) (hm : ¬ 1099511627776 ≤ du) (c3 :  now < du) (h0 : callP E f_usufructref14_Do [dA d, sA (⟨i1, i2, i3, ph, i5, i6, false, du, sk⟩ : SgT), vi 0, vi du] = some (.tup [sA r1, vi e1])) (c4 : ¬ e1 = 0) (h1 : callP E f_usufructref14_Do [dA d, sA (⟨i1, i2, i3, ph, i5, i6, false, du, sk⟩ : SgT), vi 1, vi du] = some (.tup [sA r2, vi 0])) (c5 : True) (h2 : callP E f_usufructref14_May [dA d, sA r2, vi du] = some (vb true)) (h3 : callP E f_usufructref14_Emit [dA d, sA r2, vi du] = some (.tup [sA r3, cA c])) (w1 : IntKind.i64.wrap (r2.tries + 1) = r2.tries + 1) : L (plE e (plO g []) now turn, plS d sg0 (⟨i1, i2, i3, ph, i5, i6, false, du, sk⟩ : SgT) g []) = L (plE e (plO 0 ([] ++ [winS r2 du])) du ((turn + 1 : Nat) : Int), plS d sg0 r3 0 ([] ++ [winS r2 du])) := by
  have h6 := wrap_succ (i := turn) (by omega)
  have htt : (turn : Int) < 5000 := by omega
  rw [hL, (pl_nil d sg0 (⟨i1, i2, i3, ph, i5, i6, false, du, sk⟩ : SgT) g).1, (pl_nil d sg0 (⟨i1, i2, i3, ph, i5, i6, false, du, sk⟩ : SgT) g).2, (pl_ne d sg0 r3 0 (by simp)).1, (pl_ne d sg0 r3 0 (by simp)).2]
  simp only [List.nil_append, List.map_cons, List.map_nil, List.length_cons, List.length_nil]
  simp -implicitDefEqProofs only [go_sem, ↓reduceIte, ir_usufructref30_Play_L0, WnT.cells, SgT.cells, h6, htt, hp, hm, c3, h0, h1, h2, c1, c4, h3, w1, ro_step, ro_wn, gand_b, Bool.and_eq_true, Int.natCast_nonneg]
  try rfl
theorem tn101011 (r1 r2 r3 : SgT) (e1 e2 : Int) (c : CmT) (k1 : Int) (k2 : ByteArray) (k3 k4 k5 k6 k8 k9 : Int) (c1 : ¬ (ph = 0 ∧ e < du)) (hm : ¬ 1099511627776 ≤ du) (c3 :  now < du) (h0 : callP E f_usufructref14_Do [dA d, sA (⟨i1, i2, i3, ph, i5, i6, false, du, sk⟩ : SgT), vi 0, vi du] = some (.tup [sA r1, vi e1])) (c4 : ¬ e1 = 0) (h1 : callP E f_usufructref14_Do [dA d, sA (⟨i1, i2, i3, ph, i5, i6, false, du, sk⟩ : SgT), vi 1, vi du] = some (.tup [sA r2, vi 0])) (c5 : True) (h2 : callP E f_usufructref14_May [dA d, sA r2, vi du] = some (vb false)) : L (plE e (plO g []) now turn, plS d sg0 (⟨i1, i2, i3, ph, i5, i6, false, du, sk⟩ : SgT) g []) = L (plE e (plO g []) du ((turn + 1 : Nat) : Int), plS d sg0 r2 g []) := by
  have h6 := wrap_succ (i := turn) (by omega)
  have htt : (turn : Int) < 5000 := by omega
  rw [hL, (pl_nil d sg0 (⟨i1, i2, i3, ph, i5, i6, false, du, sk⟩ : SgT) g).1, (pl_nil d sg0 (⟨i1, i2, i3, ph, i5, i6, false, du, sk⟩ : SgT) g).2, (pl_nil d sg0 r2 g).1]
  simp -implicitDefEqProofs only [go_sem, ↓reduceIte, ir_usufructref30_Play_L0, WnT.cells, SgT.cells, h6, htt, hp, hm, c3, h0, h1, h2, c1, c4, ro_step, ro_wn, gand_b, Bool.and_eq_true, Int.natCast_nonneg]
  try rfl
theorem tn101110 (r1 r2 r3 : SgT) (e1 e2 : Int) (c : CmT) (k1 : Int) (k2 : ByteArray) (k3 k4 k5 k6 k8 k9 : Int) (c1 : ¬ (ph = 0 ∧ e < du)) (hm : ¬ 1099511627776 ≤ du) (c3 :  now < du) (h0 : callP E f_usufructref14_Do [dA d, sA (⟨i1, i2, i3, ph, i5, i6, false, du, sk⟩ : SgT), vi 0, vi du] = some (.tup [sA r1, vi e1])) (c4 : ¬ e1 = 0) (h1 : callP E f_usufructref14_Do [dA d, sA (⟨i1, i2, i3, ph, i5, i6, false, du, sk⟩ : SgT), vi 1, vi du] = some (.tup [sA r2, vi e2])) (c5 : ¬ e2 = 0) (h2 : callP E f_usufructref14_May [dA d, sA (⟨i1, i2, i3, ph, i5, i6, false, du, sk⟩ : SgT), vi du] = some (vb true)) (h3 : callP E f_usufructref14_Emit [dA d, sA (⟨i1, i2, i3, ph, i5, i6, false, du, sk⟩ : SgT), vi du] = some (.tup [sA r3, cA c])) (w1 : IntKind.i64.wrap ((⟨i1, i2, i3, ph, i5, i6, false, du, sk⟩ : SgT).tries + 1) = (⟨i1, i2, i3, ph, i5, i6, false, du, sk⟩ : SgT).tries + 1) : L (plE e (plO g []) now turn, plS d sg0 (⟨i1, i2, i3, ph, i5, i6, false, du, sk⟩ : SgT) g []) = L (plE e (plO 0 ([] ++ [winS (⟨i1, i2, i3, ph, i5, i6, false, du, sk⟩ : SgT) du])) du ((turn + 1 : Nat) : Int), plS d sg0 r3 0 ([] ++ [winS (⟨i1, i2, i3, ph, i5, i6, false, du, sk⟩ : SgT) du])) := by
  have h6 := wrap_succ (i := turn) (by omega)
  have htt : (turn : Int) < 5000 := by omega
  rw [hL, (pl_nil d sg0 (⟨i1, i2, i3, ph, i5, i6, false, du, sk⟩ : SgT) g).1, (pl_nil d sg0 (⟨i1, i2, i3, ph, i5, i6, false, du, sk⟩ : SgT) g).2, (pl_ne d sg0 r3 0 (by simp)).1, (pl_ne d sg0 r3 0 (by simp)).2]
  simp only [List.nil_append, List.map_cons, List.map_nil, List.length_cons, List.length_nil]
  simp -implicitDefEqProofs only [go_sem, ↓reduceIte, ir_usufructref30_Play_L0, WnT.cells, SgT.cells, h6, htt, hp, hm, c3, h0, h1, h2, c1, c4, c5, h3, w1, ro_step, ro_wn, gand_b, Bool.and_eq_true, Int.natCast_nonneg]
  try rfl
theorem tn101111 (r1 r2 r3 : SgT) (e1 e2 : Int) (c : CmT) (k1 : Int) (k2 : ByteArray) (k3 k4 k5 k6 k8 k9 : Int) (c1 : ¬ (ph = 0 ∧ e < du)) (hm : ¬ 1099511627776 ≤ du) (c3 :  now < du) (h0 : callP E f_usufructref14_Do [dA d, sA (⟨i1, i2, i3, ph, i5, i6, false, du, sk⟩ : SgT), vi 0, vi du] = some (.tup [sA r1, vi e1])) (c4 : ¬ e1 = 0) (h1 : callP E f_usufructref14_Do [dA d, sA (⟨i1, i2, i3, ph, i5, i6, false, du, sk⟩ : SgT), vi 1, vi du] = some (.tup [sA r2, vi e2])) (c5 : ¬ e2 = 0) (h2 : callP E f_usufructref14_May [dA d, sA (⟨i1, i2, i3, ph, i5, i6, false, du, sk⟩ : SgT), vi du] = some (vb false)) : L (plE e (plO g []) now turn, plS d sg0 (⟨i1, i2, i3, ph, i5, i6, false, du, sk⟩ : SgT) g []) = L (plE e (plO g []) du ((turn + 1 : Nat) : Int), plS d sg0 (⟨i1, i2, i3, ph, i5, i6, false, du, sk⟩ : SgT) g []) := by
  have h6 := wrap_succ (i := turn) (by omega)
  have htt : (turn : Int) < 5000 := by omega
  rw [hL, (pl_nil d sg0 (⟨i1, i2, i3, ph, i5, i6, false, du, sk⟩ : SgT) g).1, (pl_nil d sg0 (⟨i1, i2, i3, ph, i5, i6, false, du, sk⟩ : SgT) g).2]
  simp -implicitDefEqProofs only [go_sem, ↓reduceIte, ir_usufructref30_Play_L0, WnT.cells, SgT.cells, h6, htt, hp, hm, c3, h0, h1, h2, c1, c4, c5, ro_step, ro_wn, gand_b, Bool.and_eq_true, Int.natCast_nonneg]
  try rfl
theorem tn111010 (r1 r2 r3 : SgT) (e1 e2 : Int) (c : CmT) (k1 : Int) (k2 : ByteArray) (k3 k4 k5 k6 k8 k9 : Int) (c1 : ¬ (ph = 0 ∧ e < du)) (hm : ¬ 1099511627776 ≤ du) (c3 : ¬ now < du) (h0 : callP E f_usufructref14_Do [dA d, sA (⟨i1, i2, i3, ph, i5, i6, false, du, sk⟩ : SgT), vi 0, vi now] = some (.tup [sA r1, vi e1])) (c4 : ¬ e1 = 0) (h1 : callP E f_usufructref14_Do [dA d, sA (⟨i1, i2, i3, ph, i5, i6, false, du, sk⟩ : SgT), vi 1, vi now] = some (.tup [sA r2, vi 0])) (c5 : True) (h2 : callP E f_usufructref14_May [dA d, sA r2, vi now] = some (vb true)) (h3 : callP E f_usufructref14_Emit [dA d, sA r2, vi now] = some (.tup [sA r3, cA c])) (w1 : IntKind.i64.wrap (r2.tries + 1) = r2.tries + 1) : L (plE e (plO g []) now turn, plS d sg0 (⟨i1, i2, i3, ph, i5, i6, false, du, sk⟩ : SgT) g []) = L (plE e (plO 0 ([] ++ [winS r2 now])) now ((turn + 1 : Nat) : Int), plS d sg0 r3 0 ([] ++ [winS r2 now])) := by
  have h6 := wrap_succ (i := turn) (by omega)
  have htt : (turn : Int) < 5000 := by omega
  rw [hL, (pl_nil d sg0 (⟨i1, i2, i3, ph, i5, i6, false, du, sk⟩ : SgT) g).1, (pl_nil d sg0 (⟨i1, i2, i3, ph, i5, i6, false, du, sk⟩ : SgT) g).2, (pl_ne d sg0 r3 0 (by simp)).1, (pl_ne d sg0 r3 0 (by simp)).2]
  simp only [List.nil_append, List.map_cons, List.map_nil, List.length_cons, List.length_nil]
  simp -implicitDefEqProofs only [go_sem, ↓reduceIte, ir_usufructref30_Play_L0, WnT.cells, SgT.cells, h6, htt, hp, hm, c3, h0, h1, h2, c1, c4, h3, w1, ro_step, ro_wn, gand_b, Bool.and_eq_true, Int.natCast_nonneg]
  try rfl
theorem tn111011 (r1 r2 r3 : SgT) (e1 e2 : Int) (c : CmT) (k1 : Int) (k2 : ByteArray) (k3 k4 k5 k6 k8 k9 : Int) (c1 : ¬ (ph = 0 ∧ e < du)) (hm : ¬ 1099511627776 ≤ du) (c3 : ¬ now < du) (h0 : callP E f_usufructref14_Do [dA d, sA (⟨i1, i2, i3, ph, i5, i6, false, du, sk⟩ : SgT), vi 0, vi now] = some (.tup [sA r1, vi e1])) (c4 : ¬ e1 = 0) (h1 : callP E f_usufructref14_Do [dA d, sA (⟨i1, i2, i3, ph, i5, i6, false, du, sk⟩ : SgT), vi 1, vi now] = some (.tup [sA r2, vi 0])) (c5 : True) (h2 : callP E f_usufructref14_May [dA d, sA r2, vi now] = some (vb false)) : L (plE e (plO g []) now turn, plS d sg0 (⟨i1, i2, i3, ph, i5, i6, false, du, sk⟩ : SgT) g []) = L (plE e (plO g []) now ((turn + 1 : Nat) : Int), plS d sg0 r2 g []) := by
  have h6 := wrap_succ (i := turn) (by omega)
  have htt : (turn : Int) < 5000 := by omega
  rw [hL, (pl_nil d sg0 (⟨i1, i2, i3, ph, i5, i6, false, du, sk⟩ : SgT) g).1, (pl_nil d sg0 (⟨i1, i2, i3, ph, i5, i6, false, du, sk⟩ : SgT) g).2, (pl_nil d sg0 r2 g).1]
  simp -implicitDefEqProofs only [go_sem, ↓reduceIte, ir_usufructref30_Play_L0, WnT.cells, SgT.cells, h6, htt, hp, hm, c3, h0, h1, h2, c1, c4, ro_step, ro_wn, gand_b, Bool.and_eq_true, Int.natCast_nonneg]
  try rfl
theorem tn111110 (r1 r2 r3 : SgT) (e1 e2 : Int) (c : CmT) (k1 : Int) (k2 : ByteArray) (k3 k4 k5 k6 k8 k9 : Int) (c1 : ¬ (ph = 0 ∧ e < du)) (hm : ¬ 1099511627776 ≤ du) (c3 : ¬ now < du) (h0 : callP E f_usufructref14_Do [dA d, sA (⟨i1, i2, i3, ph, i5, i6, false, du, sk⟩ : SgT), vi 0, vi now] = some (.tup [sA r1, vi e1])) (c4 : ¬ e1 = 0) (h1 : callP E f_usufructref14_Do [dA d, sA (⟨i1, i2, i3, ph, i5, i6, false, du, sk⟩ : SgT), vi 1, vi now] = some (.tup [sA r2, vi e2])) (c5 : ¬ e2 = 0) (h2 : callP E f_usufructref14_May [dA d, sA (⟨i1, i2, i3, ph, i5, i6, false, du, sk⟩ : SgT), vi now] = some (vb true)) (h3 : callP E f_usufructref14_Emit [dA d, sA (⟨i1, i2, i3, ph, i5, i6, false, du, sk⟩ : SgT), vi now] = some (.tup [sA r3, cA c])) (w1 : IntKind.i64.wrap ((⟨i1, i2, i3, ph, i5, i6, false, du, sk⟩ : SgT).tries + 1) = (⟨i1, i2, i3, ph, i5, i6, false, du, sk⟩ : SgT).tries + 1) : L (plE e (plO g []) now turn, plS d sg0 (⟨i1, i2, i3, ph, i5, i6, false, du, sk⟩ : SgT) g []) = L (plE e (plO 0 ([] ++ [winS (⟨i1, i2, i3, ph, i5, i6, false, du, sk⟩ : SgT) now])) now ((turn + 1 : Nat) : Int), plS d sg0 r3 0 ([] ++ [winS (⟨i1, i2, i3, ph, i5, i6, false, du, sk⟩ : SgT) now])) := by
  have h6 := wrap_succ (i := turn) (by omega)
  have htt : (turn : Int) < 5000 := by omega
  rw [hL, (pl_nil d sg0 (⟨i1, i2, i3, ph, i5, i6, false, du, sk⟩ : SgT) g).1, (pl_nil d sg0 (⟨i1, i2, i3, ph, i5, i6, false, du, sk⟩ : SgT) g).2, (pl_ne d sg0 r3 0 (by simp)).1, (pl_ne d sg0 r3 0 (by simp)).2]
  simp only [List.nil_append, List.map_cons, List.map_nil, List.length_cons, List.length_nil]
  simp -implicitDefEqProofs only [go_sem, ↓reduceIte, ir_usufructref30_Play_L0, WnT.cells, SgT.cells, h6, htt, hp, hm, c3, h0, h1, h2, c1, c4, c5, h3, w1, ro_step, ro_wn, gand_b, Bool.and_eq_true, Int.natCast_nonneg]
  try rfl
theorem tn111111 (r1 r2 r3 : SgT) (e1 e2 : Int) (c : CmT) (k1 : Int) (k2 : ByteArray) (k3 k4 k5 k6 k8 k9 : Int) (c1 : ¬ (ph = 0 ∧ e < du)) (hm : ¬ 1099511627776 ≤ du) (c3 : ¬ now < du) (h0 : callP E f_usufructref14_Do [dA d, sA (⟨i1, i2, i3, ph, i5, i6, false, du, sk⟩ : SgT), vi 0, vi now] = some (.tup [sA r1, vi e1])) (c4 : ¬ e1 = 0) (h1 : callP E f_usufructref14_Do [dA d, sA (⟨i1, i2, i3, ph, i5, i6, false, du, sk⟩ : SgT), vi 1, vi now] = some (.tup [sA r2, vi e2])) (c5 : ¬ e2 = 0) (h2 : callP E f_usufructref14_May [dA d, sA (⟨i1, i2, i3, ph, i5, i6, false, du, sk⟩ : SgT), vi now] = some (vb false)) : L (plE e (plO g []) now turn, plS d sg0 (⟨i1, i2, i3, ph, i5, i6, false, du, sk⟩ : SgT) g []) = L (plE e (plO g []) now ((turn + 1 : Nat) : Int), plS d sg0 (⟨i1, i2, i3, ph, i5, i6, false, du, sk⟩ : SgT) g []) := by
  have h6 := wrap_succ (i := turn) (by omega)
  have htt : (turn : Int) < 5000 := by omega
  rw [hL, (pl_nil d sg0 (⟨i1, i2, i3, ph, i5, i6, false, du, sk⟩ : SgT) g).1, (pl_nil d sg0 (⟨i1, i2, i3, ph, i5, i6, false, du, sk⟩ : SgT) g).2]
  simp -implicitDefEqProofs only [go_sem, ↓reduceIte, ir_usufructref30_Play_L0, WnT.cells, SgT.cells, h6, htt, hp, hm, c3, h0, h1, h2, c1, c4, c5, ro_step, ro_wn, gand_b, Bool.and_eq_true, Int.natCast_nonneg]
  try rfl
theorem tr000000 (r1 r2 r3 : SgT) (e1 e2 : Int) (c : CmT) (k1 : Int) (k2 : ByteArray) (k3 k4 k5 k6 k8 k9 : Int) (c2 : e < du) (hm : ¬ 1099511627776 ≤ e) (c3 :  now < e) (h0 : callP E f_usufructref14_Do [dA d, sA (⟨i1, i2, i3, 0, i5, i6, true, du, sk⟩ : SgT), vi 0, vi e] = some (.tup [sA r1, vi 0])) (c4 : True) (h1 : callP E f_usufructref14_Do [dA d, sA r1, vi 1, vi e] = some (.tup [sA (⟨k1, k2, k3, k4, k5, k6, false, k8, k9⟩ : SgT), vi 0])) (c5 : True) (P : List WnT) (hP : P ≠ []) (hPl : P.length ≤ 6000) (h2 : callP E f_usufructref14_May [dA d, sA (⟨k1, k2, k3, k4, k5, k6, false, k8, k9⟩ : SgT), vi e] = some (vb true)) (h3 : callP E f_usufructref14_Emit [dA d, sA (⟨k1, k2, k3, k4, k5, k6, false, k8, k9⟩ : SgT), vi e] = some (.tup [sA r3, cA c])) (w1 : IntKind.i64.wrap ((⟨k1, k2, k3, k4, k5, k6, false, k8, k9⟩ : SgT).tries + 1) = (⟨k1, k2, k3, k4, k5, k6, false, k8, k9⟩ : SgT).tries + 1) : L (plE e (plO g P) now turn, plS d sg0 (⟨i1, i2, i3, 0, i5, i6, true, du, sk⟩ : SgT) g P) = L (plE e (plO (g + 1) ((setTo P e) ++ [winS (⟨k1, k2, k3, k4, k5, k6, false, k8, k9⟩ : SgT) e])) e ((turn + 1 : Nat) : Int), plS d sg0 r3 (g + 1) ((setTo P e) ++ [winS (⟨k1, k2, k3, k4, k5, k6, false, k8, k9⟩ : SgT) e])) := by
  have h6 := wrap_succ (i := turn) (by omega)
  have htt : (turn : Int) < 5000 := by omega
  obtain ⟨w, e7, e8⟩ := set_map hP
  have hl : 0 < P.length := List.length_pos_iff.2 hP
  have e9 : IntKind.i64.wrap ((P.length : Int) - 1) = ((P.length - 1 : Nat) : Int) := by rw [IntWalk.i64_in _ (by omega)]; omega
  have e10 : P.length - 1 < P.length := by omega
  have hne1 : setTo P e ≠ [] := fun hh => by have := set_len P e; rw [hh] at this; simp at this; omega
  have hsl := set_len P e
  have a1 : (P.length + 1) * 40 ≤ 140737488355328 := by omega
  have b1 : ((setTo P e) ++ [winS (⟨k1, k2, k3, k4, k5, k6, false, k8, k9⟩ : SgT) e]).length = P.length + 1 := by simp [hsl]
  have b2 : ((setTo P e) ++ [winS (⟨k1, k2, k3, k4, k5, k6, false, k8, k9⟩ : SgT) e]).map WnT.cells = (setTo P e).map WnT.cells ++ [WnT.cells (winS (⟨k1, k2, k3, k4, k5, k6, false, k8, k9⟩ : SgT) e)] := by simp
  have b3 : ∀ z, ((setTo P e).map WnT.cells ++ [z]).take (P.length + 1) = (setTo P e).map WnT.cells ++ [z] := fun z => List.take_of_length_le (by simp [hsl])
  have b4 : ((setTo P e).map WnT.cells).take P.length = (setTo P e).map WnT.cells := List.take_of_length_le (by simp [hsl])
  rw [hL, (pl_ne d sg0 (⟨i1, i2, i3, 0, i5, i6, true, du, sk⟩ : SgT) g hP).1, (pl_ne d sg0 (⟨i1, i2, i3, 0, i5, i6, true, du, sk⟩ : SgT) g hP).2, (pl_ne d sg0 r3 (g + 1) (ne_app (setTo P e) _)).1, (pl_ne d sg0 r3 (g + 1) (ne_app (setTo P e) _)).2, b1, b2]
  simp -implicitDefEqProofs only [go_sem, ↓reduceIte, ir_usufructref30_Play_L0, WnT.cells, SgT.cells, h6, htt, hp, hm, c3, h0, h1, h2, c2, h3, w1, e7, e8, e9, e10, ias_ow2, lenA_ow2, a1, b3, b4, set_len, ro_step, ro_wn, gand_b, Bool.and_eq_true, Int.natCast_nonneg]
  try rfl
theorem tr000001 (r1 r2 r3 : SgT) (e1 e2 : Int) (c : CmT) (k1 : Int) (k2 : ByteArray) (k3 k4 k5 k6 k8 k9 : Int) (c2 : e < du) (hm : ¬ 1099511627776 ≤ e) (c3 :  now < e) (h0 : callP E f_usufructref14_Do [dA d, sA (⟨i1, i2, i3, 0, i5, i6, true, du, sk⟩ : SgT), vi 0, vi e] = some (.tup [sA r1, vi 0])) (c4 : True) (h1 : callP E f_usufructref14_Do [dA d, sA r1, vi 1, vi e] = some (.tup [sA (⟨k1, k2, k3, k4, k5, k6, false, k8, k9⟩ : SgT), vi 0])) (c5 : True) (P : List WnT) (hP : P ≠ []) (hPl : P.length ≤ 6000) (h2 : callP E f_usufructref14_May [dA d, sA (⟨k1, k2, k3, k4, k5, k6, false, k8, k9⟩ : SgT), vi e] = some (vb false)) : L (plE e (plO g P) now turn, plS d sg0 (⟨i1, i2, i3, 0, i5, i6, true, du, sk⟩ : SgT) g P) = L (plE e (plO g (setTo P e)) e ((turn + 1 : Nat) : Int), plS d sg0 (⟨k1, k2, k3, k4, k5, k6, false, k8, k9⟩ : SgT) g (setTo P e)) := by
  have h6 := wrap_succ (i := turn) (by omega)
  have htt : (turn : Int) < 5000 := by omega
  obtain ⟨w, e7, e8⟩ := set_map hP
  have hl : 0 < P.length := List.length_pos_iff.2 hP
  have e9 : IntKind.i64.wrap ((P.length : Int) - 1) = ((P.length - 1 : Nat) : Int) := by rw [IntWalk.i64_in _ (by omega)]; omega
  have e10 : P.length - 1 < P.length := by omega
  have hne1 : setTo P e ≠ [] := fun hh => by have := set_len P e; rw [hh] at this; simp at this; omega
  have hsl := set_len P e
  rw [hL, (pl_ne d sg0 (⟨i1, i2, i3, 0, i5, i6, true, du, sk⟩ : SgT) g hP).1, (pl_ne d sg0 (⟨i1, i2, i3, 0, i5, i6, true, du, sk⟩ : SgT) g hP).2, (pl_ne d sg0 (⟨k1, k2, k3, k4, k5, k6, false, k8, k9⟩ : SgT) g hne1).1, (pl_ne d sg0 (⟨k1, k2, k3, k4, k5, k6, false, k8, k9⟩ : SgT) g hne1).2, set_len]
  simp -implicitDefEqProofs only [go_sem, ↓reduceIte, ir_usufructref30_Play_L0, WnT.cells, SgT.cells, h6, htt, hp, hm, c3, h0, h1, h2, c2, e7, e8, e9, e10, ias_ow2, lenA_ow2, ro_step, ro_wn, gand_b, Bool.and_eq_true, Int.natCast_nonneg]
  try rfl
theorem tr000010 (r1 r2 r3 : SgT) (e1 e2 : Int) (c : CmT) (k1 : Int) (k2 : ByteArray) (k3 k4 k5 k6 k8 k9 : Int) (c2 : e < du) (hm : ¬ 1099511627776 ≤ e) (c3 :  now < e) (h0 : callP E f_usufructref14_Do [dA d, sA (⟨i1, i2, i3, 0, i5, i6, o, du, sk⟩ : SgT), vi 0, vi e] = some (.tup [sA r1, vi 0])) (c4 : True) (h1 : callP E f_usufructref14_Do [dA d, sA r1, vi 1, vi e] = some (.tup [sA r2, vi 0])) (c5 : True) (P : List WnT) (hP : P ≠ []) (hPl : P.length ≤ 6000) (c6 : ¬ (o = true ∧ r2.out = false)) (h2 : callP E f_usufructref14_May [dA d, sA r2, vi e] = some (vb true)) (h3 : callP E f_usufructref14_Emit [dA d, sA r2, vi e] = some (.tup [sA r3, cA c])) (w1 : IntKind.i64.wrap (r2.tries + 1) = r2.tries + 1) : L (plE e (plO g P) now turn, plS d sg0 (⟨i1, i2, i3, 0, i5, i6, o, du, sk⟩ : SgT) g P) = L (plE e (plO (g + 1) (P ++ [winS r2 e])) e ((turn + 1 : Nat) : Int), plS d sg0 r3 (g + 1) (P ++ [winS r2 e])) := by
  have h6 := wrap_succ (i := turn) (by omega)
  have htt : (turn : Int) < 5000 := by omega
  have a1 : (P.length + 1) * 40 ≤ 140737488355328 := by omega
  have b1 : (P ++ [winS r2 e]).length = P.length + 1 := by simp
  have b2 : (P ++ [winS r2 e]).map WnT.cells = P.map WnT.cells ++ [WnT.cells (winS r2 e)] := by simp
  have b3 : ∀ z, (P.map WnT.cells ++ [z]).take (P.length + 1) = P.map WnT.cells ++ [z] := fun z => List.take_of_length_le (by simp)
  have b4 : (P.map WnT.cells).take P.length = P.map WnT.cells := List.take_of_length_le (by simp)
  rw [hL, (pl_ne d sg0 (⟨i1, i2, i3, 0, i5, i6, o, du, sk⟩ : SgT) g hP).1, (pl_ne d sg0 (⟨i1, i2, i3, 0, i5, i6, o, du, sk⟩ : SgT) g hP).2, (pl_ne d sg0 r3 (g + 1) (ne_app P _)).1, (pl_ne d sg0 r3 (g + 1) (ne_app P _)).2, b1, b2]
  simp -implicitDefEqProofs only [go_sem, ↓reduceIte, ir_usufructref30_Play_L0, WnT.cells, SgT.cells, h6, htt, hp, hm, c3, h0, h1, h2, c6, c2, h3, w1, a1, b3, b4, ro_step, ro_wn, gand_b, Bool.and_eq_true, Int.natCast_nonneg]
  try rfl
theorem tr000011 (r1 r2 r3 : SgT) (e1 e2 : Int) (c : CmT) (k1 : Int) (k2 : ByteArray) (k3 k4 k5 k6 k8 k9 : Int) (c2 : e < du) (hm : ¬ 1099511627776 ≤ e) (c3 :  now < e) (h0 : callP E f_usufructref14_Do [dA d, sA (⟨i1, i2, i3, 0, i5, i6, o, du, sk⟩ : SgT), vi 0, vi e] = some (.tup [sA r1, vi 0])) (c4 : True) (h1 : callP E f_usufructref14_Do [dA d, sA r1, vi 1, vi e] = some (.tup [sA r2, vi 0])) (c5 : True) (P : List WnT) (hP : P ≠ []) (hPl : P.length ≤ 6000) (c6 : ¬ (o = true ∧ r2.out = false)) (h2 : callP E f_usufructref14_May [dA d, sA r2, vi e] = some (vb false)) : L (plE e (plO g P) now turn, plS d sg0 (⟨i1, i2, i3, 0, i5, i6, o, du, sk⟩ : SgT) g P) = L (plE e (plO g P) e ((turn + 1 : Nat) : Int), plS d sg0 r2 g P) := by
  have h6 := wrap_succ (i := turn) (by omega)
  have htt : (turn : Int) < 5000 := by omega
  rw [hL, (pl_ne d sg0 (⟨i1, i2, i3, 0, i5, i6, o, du, sk⟩ : SgT) g hP).1, (pl_ne d sg0 (⟨i1, i2, i3, 0, i5, i6, o, du, sk⟩ : SgT) g hP).2, (pl_ne d sg0 r2 g hP).1]
  simp -implicitDefEqProofs only [go_sem, ↓reduceIte, ir_usufructref30_Play_L0, WnT.cells, SgT.cells, h6, htt, hp, hm, c3, h0, h1, h2, c6, c2, ro_step, ro_wn, gand_b, Bool.and_eq_true, Int.natCast_nonneg]
  try rfl
theorem tr000100 (r1 r2 r3 : SgT) (e1 e2 : Int) (c : CmT) (k1 : Int) (k2 : ByteArray) (k3 k4 k5 k6 k8 k9 : Int) (c2 : e < du) (hm : ¬ 1099511627776 ≤ e) (c3 :  now < e) (h0 : callP E f_usufructref14_Do [dA d, sA (⟨i1, i2, i3, 0, i5, i6, true, du, sk⟩ : SgT), vi 0, vi e] = some (.tup [sA (⟨k1, k2, k3, k4, k5, k6, false, k8, k9⟩ : SgT), vi 0])) (c4 : True) (h1 : callP E f_usufructref14_Do [dA d, sA (⟨k1, k2, k3, k4, k5, k6, false, k8, k9⟩ : SgT), vi 1, vi e] = some (.tup [sA r2, vi e2])) (c5 : ¬ e2 = 0) (P : List WnT) (hP : P ≠ []) (hPl : P.length ≤ 6000) (h2 : callP E f_usufructref14_May [dA d, sA (⟨k1, k2, k3, k4, k5, k6, false, k8, k9⟩ : SgT), vi e] = some (vb true)) (h3 : callP E f_usufructref14_Emit [dA d, sA (⟨k1, k2, k3, k4, k5, k6, false, k8, k9⟩ : SgT), vi e] = some (.tup [sA r3, cA c])) (w1 : IntKind.i64.wrap ((⟨k1, k2, k3, k4, k5, k6, false, k8, k9⟩ : SgT).tries + 1) = (⟨k1, k2, k3, k4, k5, k6, false, k8, k9⟩ : SgT).tries + 1) : L (plE e (plO g P) now turn, plS d sg0 (⟨i1, i2, i3, 0, i5, i6, true, du, sk⟩ : SgT) g P) = L (plE e (plO (g + 1) ((setTo P e) ++ [winS (⟨k1, k2, k3, k4, k5, k6, false, k8, k9⟩ : SgT) e])) e ((turn + 1 : Nat) : Int), plS d sg0 r3 (g + 1) ((setTo P e) ++ [winS (⟨k1, k2, k3, k4, k5, k6, false, k8, k9⟩ : SgT) e])) := by
  have h6 := wrap_succ (i := turn) (by omega)
  have htt : (turn : Int) < 5000 := by omega
  obtain ⟨w, e7, e8⟩ := set_map hP
  have hl : 0 < P.length := List.length_pos_iff.2 hP
  have e9 : IntKind.i64.wrap ((P.length : Int) - 1) = ((P.length - 1 : Nat) : Int) := by rw [IntWalk.i64_in _ (by omega)]; omega
  have e10 : P.length - 1 < P.length := by omega
  have hne1 : setTo P e ≠ [] := fun hh => by have := set_len P e; rw [hh] at this; simp at this; omega
  have hsl := set_len P e
  have a1 : (P.length + 1) * 40 ≤ 140737488355328 := by omega
  have b1 : ((setTo P e) ++ [winS (⟨k1, k2, k3, k4, k5, k6, false, k8, k9⟩ : SgT) e]).length = P.length + 1 := by simp [hsl]
  have b2 : ((setTo P e) ++ [winS (⟨k1, k2, k3, k4, k5, k6, false, k8, k9⟩ : SgT) e]).map WnT.cells = (setTo P e).map WnT.cells ++ [WnT.cells (winS (⟨k1, k2, k3, k4, k5, k6, false, k8, k9⟩ : SgT) e)] := by simp
  have b3 : ∀ z, ((setTo P e).map WnT.cells ++ [z]).take (P.length + 1) = (setTo P e).map WnT.cells ++ [z] := fun z => List.take_of_length_le (by simp [hsl])
  have b4 : ((setTo P e).map WnT.cells).take P.length = (setTo P e).map WnT.cells := List.take_of_length_le (by simp [hsl])
  rw [hL, (pl_ne d sg0 (⟨i1, i2, i3, 0, i5, i6, true, du, sk⟩ : SgT) g hP).1, (pl_ne d sg0 (⟨i1, i2, i3, 0, i5, i6, true, du, sk⟩ : SgT) g hP).2, (pl_ne d sg0 r3 (g + 1) (ne_app (setTo P e) _)).1, (pl_ne d sg0 r3 (g + 1) (ne_app (setTo P e) _)).2, b1, b2]
  simp -implicitDefEqProofs only [go_sem, ↓reduceIte, ir_usufructref30_Play_L0, WnT.cells, SgT.cells, h6, htt, hp, hm, c3, h0, h1, h2, c5, c2, h3, w1, e7, e8, e9, e10, ias_ow2, lenA_ow2, a1, b3, b4, set_len, ro_step, ro_wn, gand_b, Bool.and_eq_true, Int.natCast_nonneg]
  try rfl
theorem tr000101 (r1 r2 r3 : SgT) (e1 e2 : Int) (c : CmT) (k1 : Int) (k2 : ByteArray) (k3 k4 k5 k6 k8 k9 : Int) (c2 : e < du) (hm : ¬ 1099511627776 ≤ e) (c3 :  now < e) (h0 : callP E f_usufructref14_Do [dA d, sA (⟨i1, i2, i3, 0, i5, i6, true, du, sk⟩ : SgT), vi 0, vi e] = some (.tup [sA (⟨k1, k2, k3, k4, k5, k6, false, k8, k9⟩ : SgT), vi 0])) (c4 : True) (h1 : callP E f_usufructref14_Do [dA d, sA (⟨k1, k2, k3, k4, k5, k6, false, k8, k9⟩ : SgT), vi 1, vi e] = some (.tup [sA r2, vi e2])) (c5 : ¬ e2 = 0) (P : List WnT) (hP : P ≠ []) (hPl : P.length ≤ 6000) (h2 : callP E f_usufructref14_May [dA d, sA (⟨k1, k2, k3, k4, k5, k6, false, k8, k9⟩ : SgT), vi e] = some (vb false)) : L (plE e (plO g P) now turn, plS d sg0 (⟨i1, i2, i3, 0, i5, i6, true, du, sk⟩ : SgT) g P) = L (plE e (plO g (setTo P e)) e ((turn + 1 : Nat) : Int), plS d sg0 (⟨k1, k2, k3, k4, k5, k6, false, k8, k9⟩ : SgT) g (setTo P e)) := by
  have h6 := wrap_succ (i := turn) (by omega)
  have htt : (turn : Int) < 5000 := by omega
  obtain ⟨w, e7, e8⟩ := set_map hP
  have hl : 0 < P.length := List.length_pos_iff.2 hP
  have e9 : IntKind.i64.wrap ((P.length : Int) - 1) = ((P.length - 1 : Nat) : Int) := by rw [IntWalk.i64_in _ (by omega)]; omega
  have e10 : P.length - 1 < P.length := by omega
  have hne1 : setTo P e ≠ [] := fun hh => by have := set_len P e; rw [hh] at this; simp at this; omega
  have hsl := set_len P e
  rw [hL, (pl_ne d sg0 (⟨i1, i2, i3, 0, i5, i6, true, du, sk⟩ : SgT) g hP).1, (pl_ne d sg0 (⟨i1, i2, i3, 0, i5, i6, true, du, sk⟩ : SgT) g hP).2, (pl_ne d sg0 (⟨k1, k2, k3, k4, k5, k6, false, k8, k9⟩ : SgT) g hne1).1, (pl_ne d sg0 (⟨k1, k2, k3, k4, k5, k6, false, k8, k9⟩ : SgT) g hne1).2, set_len]
  simp -implicitDefEqProofs only [go_sem, ↓reduceIte, ir_usufructref30_Play_L0, WnT.cells, SgT.cells, h6, htt, hp, hm, c3, h0, h1, h2, c5, c2, e7, e8, e9, e10, ias_ow2, lenA_ow2, ro_step, ro_wn, gand_b, Bool.and_eq_true, Int.natCast_nonneg]
  try rfl
theorem tr000110 (r1 r2 r3 : SgT) (e1 e2 : Int) (c : CmT) (k1 : Int) (k2 : ByteArray) (k3 k4 k5 k6 k8 k9 : Int) (c2 : e < du) (hm : ¬ 1099511627776 ≤ e) (c3 :  now < e) (h0 : callP E f_usufructref14_Do [dA d, sA (⟨i1, i2, i3, 0, i5, i6, o, du, sk⟩ : SgT), vi 0, vi e] = some (.tup [sA r1, vi 0])) (c4 : True) (h1 : callP E f_usufructref14_Do [dA d, sA r1, vi 1, vi e] = some (.tup [sA r2, vi e2])) (c5 : ¬ e2 = 0) (P : List WnT) (hP : P ≠ []) (hPl : P.length ≤ 6000) (c6 : ¬ (o = true ∧ r1.out = false)) (h2 : callP E f_usufructref14_May [dA d, sA r1, vi e] = some (vb true)) (h3 : callP E f_usufructref14_Emit [dA d, sA r1, vi e] = some (.tup [sA r3, cA c])) (w1 : IntKind.i64.wrap (r1.tries + 1) = r1.tries + 1) : L (plE e (plO g P) now turn, plS d sg0 (⟨i1, i2, i3, 0, i5, i6, o, du, sk⟩ : SgT) g P) = L (plE e (plO (g + 1) (P ++ [winS r1 e])) e ((turn + 1 : Nat) : Int), plS d sg0 r3 (g + 1) (P ++ [winS r1 e])) := by
  have h6 := wrap_succ (i := turn) (by omega)
  have htt : (turn : Int) < 5000 := by omega
  have a1 : (P.length + 1) * 40 ≤ 140737488355328 := by omega
  have b1 : (P ++ [winS r1 e]).length = P.length + 1 := by simp
  have b2 : (P ++ [winS r1 e]).map WnT.cells = P.map WnT.cells ++ [WnT.cells (winS r1 e)] := by simp
  have b3 : ∀ z, (P.map WnT.cells ++ [z]).take (P.length + 1) = P.map WnT.cells ++ [z] := fun z => List.take_of_length_le (by simp)
  have b4 : (P.map WnT.cells).take P.length = P.map WnT.cells := List.take_of_length_le (by simp)
  rw [hL, (pl_ne d sg0 (⟨i1, i2, i3, 0, i5, i6, o, du, sk⟩ : SgT) g hP).1, (pl_ne d sg0 (⟨i1, i2, i3, 0, i5, i6, o, du, sk⟩ : SgT) g hP).2, (pl_ne d sg0 r3 (g + 1) (ne_app P _)).1, (pl_ne d sg0 r3 (g + 1) (ne_app P _)).2, b1, b2]
  simp -implicitDefEqProofs only [go_sem, ↓reduceIte, ir_usufructref30_Play_L0, WnT.cells, SgT.cells, h6, htt, hp, hm, c3, h0, h1, h2, c5, c6, c2, h3, w1, a1, b3, b4, ro_step, ro_wn, gand_b, Bool.and_eq_true, Int.natCast_nonneg]
  try rfl
theorem tr000111 (r1 r2 r3 : SgT) (e1 e2 : Int) (c : CmT) (k1 : Int) (k2 : ByteArray) (k3 k4 k5 k6 k8 k9 : Int) (c2 : e < du) (hm : ¬ 1099511627776 ≤ e) (c3 :  now < e) (h0 : callP E f_usufructref14_Do [dA d, sA (⟨i1, i2, i3, 0, i5, i6, o, du, sk⟩ : SgT), vi 0, vi e] = some (.tup [sA r1, vi 0])) (c4 : True) (h1 : callP E f_usufructref14_Do [dA d, sA r1, vi 1, vi e] = some (.tup [sA r2, vi e2])) (c5 : ¬ e2 = 0) (P : List WnT) (hP : P ≠ []) (hPl : P.length ≤ 6000) (c6 : ¬ (o = true ∧ r1.out = false)) (h2 : callP E f_usufructref14_May [dA d, sA r1, vi e] = some (vb false)) : L (plE e (plO g P) now turn, plS d sg0 (⟨i1, i2, i3, 0, i5, i6, o, du, sk⟩ : SgT) g P) = L (plE e (plO g P) e ((turn + 1 : Nat) : Int), plS d sg0 r1 g P) := by
  have h6 := wrap_succ (i := turn) (by omega)
  have htt : (turn : Int) < 5000 := by omega
  rw [hL, (pl_ne d sg0 (⟨i1, i2, i3, 0, i5, i6, o, du, sk⟩ : SgT) g hP).1, (pl_ne d sg0 (⟨i1, i2, i3, 0, i5, i6, o, du, sk⟩ : SgT) g hP).2, (pl_ne d sg0 r1 g hP).1]
  simp -implicitDefEqProofs only [go_sem, ↓reduceIte, ir_usufructref30_Play_L0, WnT.cells, SgT.cells, h6, htt, hp, hm, c3, h0, h1, h2, c5, c6, c2, ro_step, ro_wn, gand_b, Bool.and_eq_true, Int.natCast_nonneg]
  try rfl
theorem tr001000 (r1 r2 r3 : SgT) (e1 e2 : Int) (c : CmT) (k1 : Int) (k2 : ByteArray) (k3 k4 k5 k6 k8 k9 : Int) (c2 : e < du) (hm : ¬ 1099511627776 ≤ e) (c3 :  now < e) (h0 : callP E f_usufructref14_Do [dA d, sA (⟨i1, i2, i3, 0, i5, i6, true, du, sk⟩ : SgT), vi 0, vi e] = some (.tup [sA r1, vi e1])) (c4 : ¬ e1 = 0) (h1 : callP E f_usufructref14_Do [dA d, sA (⟨i1, i2, i3, 0, i5, i6, true, du, sk⟩ : SgT), vi 1, vi e] = some (.tup [sA (⟨k1, k2, k3, k4, k5, k6, false, k8, k9⟩ : SgT), vi 0])) (c5 : True) (P : List WnT) (hP : P ≠ []) (hPl : P.length ≤ 6000) (h2 : callP E f_usufructref14_May [dA d, sA (⟨k1, k2, k3, k4, k5, k6, false, k8, k9⟩ : SgT), vi e] = some (vb true)) (h3 : callP E f_usufructref14_Emit [dA d, sA (⟨k1, k2, k3, k4, k5, k6, false, k8, k9⟩ : SgT), vi e] = some (.tup [sA r3, cA c])) (w1 : IntKind.i64.wrap ((⟨k1, k2, k3, k4, k5, k6, false, k8, k9⟩ : SgT).tries + 1) = (⟨k1, k2, k3, k4, k5, k6, false, k8, k9⟩ : SgT).tries + 1) : L (plE e (plO g P) now turn, plS d sg0 (⟨i1, i2, i3, 0, i5, i6, true, du, sk⟩ : SgT) g P) = L (plE e (plO (g + 1) ((setTo P e) ++ [winS (⟨k1, k2, k3, k4, k5, k6, false, k8, k9⟩ : SgT) e])) e ((turn + 1 : Nat) : Int), plS d sg0 r3 (g + 1) ((setTo P e) ++ [winS (⟨k1, k2, k3, k4, k5, k6, false, k8, k9⟩ : SgT) e])) := by
  have h6 := wrap_succ (i := turn) (by omega)
  have htt : (turn : Int) < 5000 := by omega
  obtain ⟨w, e7, e8⟩ := set_map hP
  have hl : 0 < P.length := List.length_pos_iff.2 hP
  have e9 : IntKind.i64.wrap ((P.length : Int) - 1) = ((P.length - 1 : Nat) : Int) := by rw [IntWalk.i64_in _ (by omega)]; omega
  have e10 : P.length - 1 < P.length := by omega
  have hne1 : setTo P e ≠ [] := fun hh => by have := set_len P e; rw [hh] at this; simp at this; omega
  have hsl := set_len P e
  have a1 : (P.length + 1) * 40 ≤ 140737488355328 := by omega
  have b1 : ((setTo P e) ++ [winS (⟨k1, k2, k3, k4, k5, k6, false, k8, k9⟩ : SgT) e]).length = P.length + 1 := by simp [hsl]
  have b2 : ((setTo P e) ++ [winS (⟨k1, k2, k3, k4, k5, k6, false, k8, k9⟩ : SgT) e]).map WnT.cells = (setTo P e).map WnT.cells ++ [WnT.cells (winS (⟨k1, k2, k3, k4, k5, k6, false, k8, k9⟩ : SgT) e)] := by simp
  have b3 : ∀ z, ((setTo P e).map WnT.cells ++ [z]).take (P.length + 1) = (setTo P e).map WnT.cells ++ [z] := fun z => List.take_of_length_le (by simp [hsl])
  have b4 : ((setTo P e).map WnT.cells).take P.length = (setTo P e).map WnT.cells := List.take_of_length_le (by simp [hsl])
  rw [hL, (pl_ne d sg0 (⟨i1, i2, i3, 0, i5, i6, true, du, sk⟩ : SgT) g hP).1, (pl_ne d sg0 (⟨i1, i2, i3, 0, i5, i6, true, du, sk⟩ : SgT) g hP).2, (pl_ne d sg0 r3 (g + 1) (ne_app (setTo P e) _)).1, (pl_ne d sg0 r3 (g + 1) (ne_app (setTo P e) _)).2, b1, b2]
  simp -implicitDefEqProofs only [go_sem, ↓reduceIte, ir_usufructref30_Play_L0, WnT.cells, SgT.cells, h6, htt, hp, hm, c3, h0, h1, h2, c4, c2, h3, w1, e7, e8, e9, e10, ias_ow2, lenA_ow2, a1, b3, b4, set_len, ro_step, ro_wn, gand_b, Bool.and_eq_true, Int.natCast_nonneg]
  try rfl
theorem tr001001 (r1 r2 r3 : SgT) (e1 e2 : Int) (c : CmT) (k1 : Int) (k2 : ByteArray) (k3 k4 k5 k6 k8 k9 : Int) (c2 : e < du) (hm : ¬ 1099511627776 ≤ e) (c3 :  now < e) (h0 : callP E f_usufructref14_Do [dA d, sA (⟨i1, i2, i3, 0, i5, i6, true, du, sk⟩ : SgT), vi 0, vi e] = some (.tup [sA r1, vi e1])) (c4 : ¬ e1 = 0) (h1 : callP E f_usufructref14_Do [dA d, sA (⟨i1, i2, i3, 0, i5, i6, true, du, sk⟩ : SgT), vi 1, vi e] = some (.tup [sA (⟨k1, k2, k3, k4, k5, k6, false, k8, k9⟩ : SgT), vi 0])) (c5 : True) (P : List WnT) (hP : P ≠ []) (hPl : P.length ≤ 6000) (h2 : callP E f_usufructref14_May [dA d, sA (⟨k1, k2, k3, k4, k5, k6, false, k8, k9⟩ : SgT), vi e] = some (vb false)) : L (plE e (plO g P) now turn, plS d sg0 (⟨i1, i2, i3, 0, i5, i6, true, du, sk⟩ : SgT) g P) = L (plE e (plO g (setTo P e)) e ((turn + 1 : Nat) : Int), plS d sg0 (⟨k1, k2, k3, k4, k5, k6, false, k8, k9⟩ : SgT) g (setTo P e)) := by
  have h6 := wrap_succ (i := turn) (by omega)
  have htt : (turn : Int) < 5000 := by omega
  obtain ⟨w, e7, e8⟩ := set_map hP
  have hl : 0 < P.length := List.length_pos_iff.2 hP
  have e9 : IntKind.i64.wrap ((P.length : Int) - 1) = ((P.length - 1 : Nat) : Int) := by rw [IntWalk.i64_in _ (by omega)]; omega
  have e10 : P.length - 1 < P.length := by omega
  have hne1 : setTo P e ≠ [] := fun hh => by have := set_len P e; rw [hh] at this; simp at this; omega
  have hsl := set_len P e
  rw [hL, (pl_ne d sg0 (⟨i1, i2, i3, 0, i5, i6, true, du, sk⟩ : SgT) g hP).1, (pl_ne d sg0 (⟨i1, i2, i3, 0, i5, i6, true, du, sk⟩ : SgT) g hP).2, (pl_ne d sg0 (⟨k1, k2, k3, k4, k5, k6, false, k8, k9⟩ : SgT) g hne1).1, (pl_ne d sg0 (⟨k1, k2, k3, k4, k5, k6, false, k8, k9⟩ : SgT) g hne1).2, set_len]
  simp -implicitDefEqProofs only [go_sem, ↓reduceIte, ir_usufructref30_Play_L0, WnT.cells, SgT.cells, h6, htt, hp, hm, c3, h0, h1, h2, c4, c2, e7, e8, e9, e10, ias_ow2, lenA_ow2, ro_step, ro_wn, gand_b, Bool.and_eq_true, Int.natCast_nonneg]
  try rfl
theorem tr001010 (r1 r2 r3 : SgT) (e1 e2 : Int) (c : CmT) (k1 : Int) (k2 : ByteArray) (k3 k4 k5 k6 k8 k9 : Int) (c2 : e < du) (hm : ¬ 1099511627776 ≤ e) (c3 :  now < e) (h0 : callP E f_usufructref14_Do [dA d, sA (⟨i1, i2, i3, 0, i5, i6, o, du, sk⟩ : SgT), vi 0, vi e] = some (.tup [sA r1, vi e1])) (c4 : ¬ e1 = 0) (h1 : callP E f_usufructref14_Do [dA d, sA (⟨i1, i2, i3, 0, i5, i6, o, du, sk⟩ : SgT), vi 1, vi e] = some (.tup [sA r2, vi 0])) (c5 : True) (P : List WnT) (hP : P ≠ []) (hPl : P.length ≤ 6000) (c6 : ¬ (o = true ∧ r2.out = false)) (h2 : callP E f_usufructref14_May [dA d, sA r2, vi e] = some (vb true)) (h3 : callP E f_usufructref14_Emit [dA d, sA r2, vi e] = some (.tup [sA r3, cA c])) (w1 : IntKind.i64.wrap (r2.tries + 1) = r2.tries + 1) : L (plE e (plO g P) now turn, plS d sg0 (⟨i1, i2, i3, 0, i5, i6, o, du, sk⟩ : SgT) g P) = L (plE e (plO (g + 1) (P ++ [winS r2 e])) e ((turn + 1 : Nat) : Int), plS d sg0 r3 (g + 1) (P ++ [winS r2 e])) := by
  have h6 := wrap_succ (i := turn) (by omega)
  have htt : (turn : Int) < 5000 := by omega
  have a1 : (P.length + 1) * 40 ≤ 140737488355328 := by omega
  have b1 : (P ++ [winS r2 e]).length = P.length + 1 := by simp
  have b2 : (P ++ [winS r2 e]).map WnT.cells = P.map WnT.cells ++ [WnT.cells (winS r2 e)] := by simp
  have b3 : ∀ z, (P.map WnT.cells ++ [z]).take (P.length + 1) = P.map WnT.cells ++ [z] := fun z => List.take_of_length_le (by simp)
  have b4 : (P.map WnT.cells).take P.length = P.map WnT.cells := List.take_of_length_le (by simp)
  rw [hL, (pl_ne d sg0 (⟨i1, i2, i3, 0, i5, i6, o, du, sk⟩ : SgT) g hP).1, (pl_ne d sg0 (⟨i1, i2, i3, 0, i5, i6, o, du, sk⟩ : SgT) g hP).2, (pl_ne d sg0 r3 (g + 1) (ne_app P _)).1, (pl_ne d sg0 r3 (g + 1) (ne_app P _)).2, b1, b2]
  simp -implicitDefEqProofs only [go_sem, ↓reduceIte, ir_usufructref30_Play_L0, WnT.cells, SgT.cells, h6, htt, hp, hm, c3, h0, h1, h2, c4, c6, c2, h3, w1, a1, b3, b4, ro_step, ro_wn, gand_b, Bool.and_eq_true, Int.natCast_nonneg]
  try rfl
theorem tr001011 (r1 r2 r3 : SgT) (e1 e2 : Int) (c : CmT) (k1 : Int) (k2 : ByteArray) (k3 k4 k5 k6 k8 k9 : Int) (c2 : e < du) (hm : ¬ 1099511627776 ≤ e) (c3 :  now < e) (h0 : callP E f_usufructref14_Do [dA d, sA (⟨i1, i2, i3, 0, i5, i6, o, du, sk⟩ : SgT), vi 0, vi e] = some (.tup [sA r1, vi e1])) (c4 : ¬ e1 = 0) (h1 : callP E f_usufructref14_Do [dA d, sA (⟨i1, i2, i3, 0, i5, i6, o, du, sk⟩ : SgT), vi 1, vi e] = some (.tup [sA r2, vi 0])) (c5 : True) (P : List WnT) (hP : P ≠ []) (hPl : P.length ≤ 6000) (c6 : ¬ (o = true ∧ r2.out = false)) (h2 : callP E f_usufructref14_May [dA d, sA r2, vi e] = some (vb false)) : L (plE e (plO g P) now turn, plS d sg0 (⟨i1, i2, i3, 0, i5, i6, o, du, sk⟩ : SgT) g P) = L (plE e (plO g P) e ((turn + 1 : Nat) : Int), plS d sg0 r2 g P) := by
  have h6 := wrap_succ (i := turn) (by omega)
  have htt : (turn : Int) < 5000 := by omega
  rw [hL, (pl_ne d sg0 (⟨i1, i2, i3, 0, i5, i6, o, du, sk⟩ : SgT) g hP).1, (pl_ne d sg0 (⟨i1, i2, i3, 0, i5, i6, o, du, sk⟩ : SgT) g hP).2, (pl_ne d sg0 r2 g hP).1]
  simp -implicitDefEqProofs only [go_sem, ↓reduceIte, ir_usufructref30_Play_L0, WnT.cells, SgT.cells, h6, htt, hp, hm, c3, h0, h1, h2, c4, c6, c2, ro_step, ro_wn, gand_b, Bool.and_eq_true, Int.natCast_nonneg]
  try rfl
theorem tr001110 (r1 r2 r3 : SgT) (e1 e2 : Int) (c : CmT) (k1 : Int) (k2 : ByteArray) (k3 k4 k5 k6 k8 k9 : Int) (c2 : e < du) (hm : ¬ 1099511627776 ≤ e) (c3 :  now < e) (h0 : callP E f_usufructref14_Do [dA d, sA (⟨i1, i2, i3, 0, i5, i6, o, du, sk⟩ : SgT), vi 0, vi e] = some (.tup [sA r1, vi e1])) (c4 : ¬ e1 = 0) (h1 : callP E f_usufructref14_Do [dA d, sA (⟨i1, i2, i3, 0, i5, i6, o, du, sk⟩ : SgT), vi 1, vi e] = some (.tup [sA r2, vi e2])) (c5 : ¬ e2 = 0) (P : List WnT) (hP : P ≠ []) (hPl : P.length ≤ 6000) (c6 : ¬ (o = true ∧ (⟨i1, i2, i3, 0, i5, i6, o, du, sk⟩ : SgT).out = false)) (h2 : callP E f_usufructref14_May [dA d, sA (⟨i1, i2, i3, 0, i5, i6, o, du, sk⟩ : SgT), vi e] = some (vb true)) (h3 : callP E f_usufructref14_Emit [dA d, sA (⟨i1, i2, i3, 0, i5, i6, o, du, sk⟩ : SgT), vi e] = some (.tup [sA r3, cA c])) (w1 : IntKind.i64.wrap ((⟨i1, i2, i3, 0, i5, i6, o, du, sk⟩ : SgT).tries + 1) = (⟨i1, i2, i3, 0, i5, i6, o, du, sk⟩ : SgT).tries + 1) : L (plE e (plO g P) now turn, plS d sg0 (⟨i1, i2, i3, 0, i5, i6, o, du, sk⟩ : SgT) g P) = L (plE e (plO (g + 1) (P ++ [winS (⟨i1, i2, i3, 0, i5, i6, o, du, sk⟩ : SgT) e])) e ((turn + 1 : Nat) : Int), plS d sg0 r3 (g + 1) (P ++ [winS (⟨i1, i2, i3, 0, i5, i6, o, du, sk⟩ : SgT) e])) := by
  have h6 := wrap_succ (i := turn) (by omega)
  have htt : (turn : Int) < 5000 := by omega
  have a1 : (P.length + 1) * 40 ≤ 140737488355328 := by omega
  have b1 : (P ++ [winS (⟨i1, i2, i3, 0, i5, i6, o, du, sk⟩ : SgT) e]).length = P.length + 1 := by simp
  have b2 : (P ++ [winS (⟨i1, i2, i3, 0, i5, i6, o, du, sk⟩ : SgT) e]).map WnT.cells = P.map WnT.cells ++ [WnT.cells (winS (⟨i1, i2, i3, 0, i5, i6, o, du, sk⟩ : SgT) e)] := by simp
  have b3 : ∀ z, (P.map WnT.cells ++ [z]).take (P.length + 1) = P.map WnT.cells ++ [z] := fun z => List.take_of_length_le (by simp)
  have b4 : (P.map WnT.cells).take P.length = P.map WnT.cells := List.take_of_length_le (by simp)
  rw [hL, (pl_ne d sg0 (⟨i1, i2, i3, 0, i5, i6, o, du, sk⟩ : SgT) g hP).1, (pl_ne d sg0 (⟨i1, i2, i3, 0, i5, i6, o, du, sk⟩ : SgT) g hP).2, (pl_ne d sg0 r3 (g + 1) (ne_app P _)).1, (pl_ne d sg0 r3 (g + 1) (ne_app P _)).2, b1, b2]
  simp -implicitDefEqProofs only [go_sem, ↓reduceIte, ir_usufructref30_Play_L0, WnT.cells, SgT.cells, h6, htt, hp, hm, c3, h0, h1, h2, c4, c5, c6, c2, h3, w1, a1, b3, b4, ro_step, ro_wn, gand_b, Bool.and_eq_true, Int.natCast_nonneg]
  try rfl
theorem tr001111 (r1 r2 r3 : SgT) (e1 e2 : Int) (c : CmT) (k1 : Int) (k2 : ByteArray) (k3 k4 k5 k6 k8 k9 : Int) (c2 : e < du) (hm : ¬ 1099511627776 ≤ e) (c3 :  now < e) (h0 : callP E f_usufructref14_Do [dA d, sA (⟨i1, i2, i3, 0, i5, i6, o, du, sk⟩ : SgT), vi 0, vi e] = some (.tup [sA r1, vi e1])) (c4 : ¬ e1 = 0) (h1 : callP E f_usufructref14_Do [dA d, sA (⟨i1, i2, i3, 0, i5, i6, o, du, sk⟩ : SgT), vi 1, vi e] = some (.tup [sA r2, vi e2])) (c5 : ¬ e2 = 0) (P : List WnT) (hP : P ≠ []) (hPl : P.length ≤ 6000) (c6 : ¬ (o = true ∧ (⟨i1, i2, i3, 0, i5, i6, o, du, sk⟩ : SgT).out = false)) (h2 : callP E f_usufructref14_May [dA d, sA (⟨i1, i2, i3, 0, i5, i6, o, du, sk⟩ : SgT), vi e] = some (vb false)) : L (plE e (plO g P) now turn, plS d sg0 (⟨i1, i2, i3, 0, i5, i6, o, du, sk⟩ : SgT) g P) = L (plE e (plO g P) e ((turn + 1 : Nat) : Int), plS d sg0 (⟨i1, i2, i3, 0, i5, i6, o, du, sk⟩ : SgT) g P) := by
  have h6 := wrap_succ (i := turn) (by omega)
  have htt : (turn : Int) < 5000 := by omega
  rw [hL, (pl_ne d sg0 (⟨i1, i2, i3, 0, i5, i6, o, du, sk⟩ : SgT) g hP).1, (pl_ne d sg0 (⟨i1, i2, i3, 0, i5, i6, o, du, sk⟩ : SgT) g hP).2]
  simp -implicitDefEqProofs only [go_sem, ↓reduceIte, ir_usufructref30_Play_L0, WnT.cells, SgT.cells, h6, htt, hp, hm, c3, h0, h1, h2, c4, c5, c6, c2, ro_step, ro_wn, gand_b, Bool.and_eq_true, Int.natCast_nonneg]
  try rfl
theorem tr010000 (r1 r2 r3 : SgT) (e1 e2 : Int) (c : CmT) (k1 : Int) (k2 : ByteArray) (k3 k4 k5 k6 k8 k9 : Int) (c2 : e < du) (hm : ¬ 1099511627776 ≤ e) (c3 : ¬ now < e) (h0 : callP E f_usufructref14_Do [dA d, sA (⟨i1, i2, i3, 0, i5, i6, true, du, sk⟩ : SgT), vi 0, vi now] = some (.tup [sA r1, vi 0])) (c4 : True) (h1 : callP E f_usufructref14_Do [dA d, sA r1, vi 1, vi now] = some (.tup [sA (⟨k1, k2, k3, k4, k5, k6, false, k8, k9⟩ : SgT), vi 0])) (c5 : True) (P : List WnT) (hP : P ≠ []) (hPl : P.length ≤ 6000) (h2 : callP E f_usufructref14_May [dA d, sA (⟨k1, k2, k3, k4, k5, k6, false, k8, k9⟩ : SgT), vi now] = some (vb true)) (h3 : callP E f_usufructref14_Emit [dA d, sA (⟨k1, k2, k3, k4, k5, k6, false, k8, k9⟩ : SgT), vi now] = some (.tup [sA r3, cA c])) (w1 : IntKind.i64.wrap ((⟨k1, k2, k3, k4, k5, k6, false, k8, k9⟩ : SgT).tries + 1) = (⟨k1, k2, k3, k4, k5, k6, false, k8, k9⟩ : SgT).tries + 1) : L (plE e (plO g P) now turn, plS d sg0 (⟨i1, i2, i3, 0, i5, i6, true, du, sk⟩ : SgT) g P) = L (plE e (plO (g + 1) ((setTo P now) ++ [winS (⟨k1, k2, k3, k4, k5, k6, false, k8, k9⟩ : SgT) now])) now ((turn + 1 : Nat) : Int), plS d sg0 r3 (g + 1) ((setTo P now) ++ [winS (⟨k1, k2, k3, k4, k5, k6, false, k8, k9⟩ : SgT) now])) := by
  have h6 := wrap_succ (i := turn) (by omega)
  have htt : (turn : Int) < 5000 := by omega
  obtain ⟨w, e7, e8⟩ := set_map hP
  have hl : 0 < P.length := List.length_pos_iff.2 hP
  have e9 : IntKind.i64.wrap ((P.length : Int) - 1) = ((P.length - 1 : Nat) : Int) := by rw [IntWalk.i64_in _ (by omega)]; omega
  have e10 : P.length - 1 < P.length := by omega
  have hne1 : setTo P now ≠ [] := fun hh => by have := set_len P now; rw [hh] at this; simp at this; omega
  have hsl := set_len P now
  have a1 : (P.length + 1) * 40 ≤ 140737488355328 := by omega
  have b1 : ((setTo P now) ++ [winS (⟨k1, k2, k3, k4, k5, k6, false, k8, k9⟩ : SgT) now]).length = P.length + 1 := by simp [hsl]
  have b2 : ((setTo P now) ++ [winS (⟨k1, k2, k3, k4, k5, k6, false, k8, k9⟩ : SgT) now]).map WnT.cells = (setTo P now).map WnT.cells ++ [WnT.cells (winS (⟨k1, k2, k3, k4, k5, k6, false, k8, k9⟩ : SgT) now)] := by simp
  have b3 : ∀ z, ((setTo P now).map WnT.cells ++ [z]).take (P.length + 1) = (setTo P now).map WnT.cells ++ [z] := fun z => List.take_of_length_le (by simp [hsl])
  have b4 : ((setTo P now).map WnT.cells).take P.length = (setTo P now).map WnT.cells := List.take_of_length_le (by simp [hsl])
  rw [hL, (pl_ne d sg0 (⟨i1, i2, i3, 0, i5, i6, true, du, sk⟩ : SgT) g hP).1, (pl_ne d sg0 (⟨i1, i2, i3, 0, i5, i6, true, du, sk⟩ : SgT) g hP).2, (pl_ne d sg0 r3 (g + 1) (ne_app (setTo P now) _)).1, (pl_ne d sg0 r3 (g + 1) (ne_app (setTo P now) _)).2, b1, b2]
  simp -implicitDefEqProofs only [go_sem, ↓reduceIte, ir_usufructref30_Play_L0, WnT.cells, SgT.cells, h6, htt, hp, hm, c3, h0, h1, h2, c2, h3, w1, e7, e8, e9, e10, ias_ow2, lenA_ow2, a1, b3, b4, set_len, ro_step, ro_wn, gand_b, Bool.and_eq_true, Int.natCast_nonneg]
  try rfl
theorem tr010001 (r1 r2 r3 : SgT) (e1 e2 : Int) (c : CmT) (k1 : Int) (k2 : ByteArray) (k3 k4 k5 k6 k8 k9 : Int) (c2 : e < du) (hm : ¬ 1099511627776 ≤ e) (c3 : ¬ now < e) (h0 : callP E f_usufructref14_Do [dA d, sA (⟨i1, i2, i3, 0, i5, i6, true, du, sk⟩ : SgT), vi 0, vi now] = some (.tup [sA r1, vi 0])) (c4 : True) (h1 : callP E f_usufructref14_Do [dA d, sA r1, vi 1, vi now] = some (.tup [sA (⟨k1, k2, k3, k4, k5, k6, false, k8, k9⟩ : SgT), vi 0])) (c5 : True) (P : List WnT) (hP : P ≠ []) (hPl : P.length ≤ 6000) (h2 : callP E f_usufructref14_May [dA d, sA (⟨k1, k2, k3, k4, k5, k6, false, k8, k9⟩ : SgT), vi now] = some (vb false)) : L (plE e (plO g P) now turn, plS d sg0 (⟨i1, i2, i3, 0, i5, i6, true, du, sk⟩ : SgT) g P) = L (plE e (plO g (setTo P now)) now ((turn + 1 : Nat) : Int), plS d sg0 (⟨k1, k2, k3, k4, k5, k6, false, k8, k9⟩ : SgT) g (setTo P now)) := by
  have h6 := wrap_succ (i := turn) (by omega)
  have htt : (turn : Int) < 5000 := by omega
  obtain ⟨w, e7, e8⟩ := set_map hP
  have hl : 0 < P.length := List.length_pos_iff.2 hP
  have e9 : IntKind.i64.wrap ((P.length : Int) - 1) = ((P.length - 1 : Nat) : Int) := by rw [IntWalk.i64_in _ (by omega)]; omega
  have e10 : P.length - 1 < P.length := by omega
  have hne1 : setTo P now ≠ [] := fun hh => by have := set_len P now; rw [hh] at this; simp at this; omega
  have hsl := set_len P now
  rw [hL, (pl_ne d sg0 (⟨i1, i2, i3, 0, i5, i6, true, du, sk⟩ : SgT) g hP).1, (pl_ne d sg0 (⟨i1, i2, i3, 0, i5, i6, true, du, sk⟩ : SgT) g hP).2, (pl_ne d sg0 (⟨k1, k2, k3, k4, k5, k6, false, k8, k9⟩ : SgT) g hne1).1, (pl_ne d sg0 (⟨k1, k2, k3, k4, k5, k6, false, k8, k9⟩ : SgT) g hne1).2, set_len]
  simp -implicitDefEqProofs only [go_sem, ↓reduceIte, ir_usufructref30_Play_L0, WnT.cells, SgT.cells, h6, htt, hp, hm, c3, h0, h1, h2, c2, e7, e8, e9, e10, ias_ow2, lenA_ow2, ro_step, ro_wn, gand_b, Bool.and_eq_true, Int.natCast_nonneg]
  try rfl
theorem tr010010 (r1 r2 r3 : SgT) (e1 e2 : Int) (c : CmT) (k1 : Int) (k2 : ByteArray) (k3 k4 k5 k6 k8 k9 : Int) (c2 : e < du) (hm : ¬ 1099511627776 ≤ e) (c3 : ¬ now < e) (h0 : callP E f_usufructref14_Do [dA d, sA (⟨i1, i2, i3, 0, i5, i6, o, du, sk⟩ : SgT), vi 0, vi now] = some (.tup [sA r1, vi 0])) (c4 : True) (h1 : callP E f_usufructref14_Do [dA d, sA r1, vi 1, vi now] = some (.tup [sA r2, vi 0])) (c5 : True) (P : List WnT) (hP : P ≠ []) (hPl : P.length ≤ 6000) (c6 : ¬ (o = true ∧ r2.out = false)) (h2 : callP E f_usufructref14_May [dA d, sA r2, vi now] = some (vb true)) (h3 : callP E f_usufructref14_Emit [dA d, sA r2, vi now] = some (.tup [sA r3, cA c])) (w1 : IntKind.i64.wrap (r2.tries + 1) = r2.tries + 1) : L (plE e (plO g P) now turn, plS d sg0 (⟨i1, i2, i3, 0, i5, i6, o, du, sk⟩ : SgT) g P) = L (plE e (plO (g + 1) (P ++ [winS r2 now])) now ((turn + 1 : Nat) : Int), plS d sg0 r3 (g + 1) (P ++ [winS r2 now])) := by
  have h6 := wrap_succ (i := turn) (by omega)
  have htt : (turn : Int) < 5000 := by omega
  have a1 : (P.length + 1) * 40 ≤ 140737488355328 := by omega
  have b1 : (P ++ [winS r2 now]).length = P.length + 1 := by simp
  have b2 : (P ++ [winS r2 now]).map WnT.cells = P.map WnT.cells ++ [WnT.cells (winS r2 now)] := by simp
  have b3 : ∀ z, (P.map WnT.cells ++ [z]).take (P.length + 1) = P.map WnT.cells ++ [z] := fun z => List.take_of_length_le (by simp)
  have b4 : (P.map WnT.cells).take P.length = P.map WnT.cells := List.take_of_length_le (by simp)
  rw [hL, (pl_ne d sg0 (⟨i1, i2, i3, 0, i5, i6, o, du, sk⟩ : SgT) g hP).1, (pl_ne d sg0 (⟨i1, i2, i3, 0, i5, i6, o, du, sk⟩ : SgT) g hP).2, (pl_ne d sg0 r3 (g + 1) (ne_app P _)).1, (pl_ne d sg0 r3 (g + 1) (ne_app P _)).2, b1, b2]
  simp -implicitDefEqProofs only [go_sem, ↓reduceIte, ir_usufructref30_Play_L0, WnT.cells, SgT.cells, h6, htt, hp, hm, c3, h0, h1, h2, c6, c2, h3, w1, a1, b3, b4, ro_step, ro_wn, gand_b, Bool.and_eq_true, Int.natCast_nonneg]
  try rfl
theorem tr010011 (r1 r2 r3 : SgT) (e1 e2 : Int) (c : CmT) (k1 : Int) (k2 : ByteArray) (k3 k4 k5 k6 k8 k9 : Int) (c2 : e < du) (hm : ¬ 1099511627776 ≤ e) (c3 : ¬ now < e) (h0 : callP E f_usufructref14_Do [dA d, sA (⟨i1, i2, i3, 0, i5, i6, o, du, sk⟩ : SgT), vi 0, vi now] = some (.tup [sA r1, vi 0])) (c4 : True) (h1 : callP E f_usufructref14_Do [dA d, sA r1, vi 1, vi now] = some (.tup [sA r2, vi 0])) (c5 : True) (P : List WnT) (hP : P ≠ []) (hPl : P.length ≤ 6000) (c6 : ¬ (o = true ∧ r2.out = false)) (h2 : callP E f_usufructref14_May [dA d, sA r2, vi now] = some (vb false)) : L (plE e (plO g P) now turn, plS d sg0 (⟨i1, i2, i3, 0, i5, i6, o, du, sk⟩ : SgT) g P) = L (plE e (plO g P) now ((turn + 1 : Nat) : Int), plS d sg0 r2 g P) := by
  have h6 := wrap_succ (i := turn) (by omega)
  have htt : (turn : Int) < 5000 := by omega
  rw [hL, (pl_ne d sg0 (⟨i1, i2, i3, 0, i5, i6, o, du, sk⟩ : SgT) g hP).1, (pl_ne d sg0 (⟨i1, i2, i3, 0, i5, i6, o, du, sk⟩ : SgT) g hP).2, (pl_ne d sg0 r2 g hP).1]
  simp -implicitDefEqProofs only [go_sem, ↓reduceIte, ir_usufructref30_Play_L0, WnT.cells, SgT.cells, h6, htt, hp, hm, c3, h0, h1, h2, c6, c2, ro_step, ro_wn, gand_b, Bool.and_eq_true, Int.natCast_nonneg]
  try rfl
theorem tr010100 (r1 r2 r3 : SgT) (e1 e2 : Int) (c : CmT) (k1 : Int) (k2 : ByteArray) (k3 k4 k5 k6 k8 k9 : Int) (c2 : e < du) (hm : ¬ 1099511627776 ≤ e) (c3 : ¬ now < e) (h0 : callP E f_usufructref14_Do [dA d, sA (⟨i1, i2, i3, 0, i5, i6, true, du, sk⟩ : SgT), vi 0, vi now] = some (.tup [sA (⟨k1, k2, k3, k4, k5, k6, false, k8, k9⟩ : SgT), vi 0])) (c4 : True) (h1 : callP E f_usufructref14_Do [dA d, sA (⟨k1, k2, k3, k4, k5, k6, false, k8, k9⟩ : SgT), vi 1, vi now] = some (.tup [sA r2, vi e2])) (c5 : ¬ e2 = 0) (P : List WnT) (hP : P ≠ []) (hPl : P.length ≤ 6000) (h2 : callP E f_usufructref14_May [dA d, sA (⟨k1, k2, k3, k4, k5, k6, false, k8, k9⟩ : SgT), vi now] = some (vb true)) (h3 : callP E f_usufructref14_Emit [dA d, sA (⟨k1, k2, k3, k4, k5, k6, false, k8, k9⟩ : SgT), vi now] = some (.tup [sA r3, cA c])) (w1 : IntKind.i64.wrap ((⟨k1, k2, k3, k4, k5, k6, false, k8, k9⟩ : SgT).tries + 1) = (⟨k1, k2, k3, k4, k5, k6, false, k8, k9⟩ : SgT).tries + 1) : L (plE e (plO g P) now turn, plS d sg0 (⟨i1, i2, i3, 0, i5, i6, true, du, sk⟩ : SgT) g P) = L (plE e (plO (g + 1) ((setTo P now) ++ [winS (⟨k1, k2, k3, k4, k5, k6, false, k8, k9⟩ : SgT) now])) now ((turn + 1 : Nat) : Int), plS d sg0 r3 (g + 1) ((setTo P now) ++ [winS (⟨k1, k2, k3, k4, k5, k6, false, k8, k9⟩ : SgT) now])) := by
  have h6 := wrap_succ (i := turn) (by omega)
  have htt : (turn : Int) < 5000 := by omega
  obtain ⟨w, e7, e8⟩ := set_map hP
  have hl : 0 < P.length := List.length_pos_iff.2 hP
  have e9 : IntKind.i64.wrap ((P.length : Int) - 1) = ((P.length - 1 : Nat) : Int) := by rw [IntWalk.i64_in _ (by omega)]; omega
  have e10 : P.length - 1 < P.length := by omega
  have hne1 : setTo P now ≠ [] := fun hh => by have := set_len P now; rw [hh] at this; simp at this; omega
  have hsl := set_len P now
  have a1 : (P.length + 1) * 40 ≤ 140737488355328 := by omega
  have b1 : ((setTo P now) ++ [winS (⟨k1, k2, k3, k4, k5, k6, false, k8, k9⟩ : SgT) now]).length = P.length + 1 := by simp [hsl]
  have b2 : ((setTo P now) ++ [winS (⟨k1, k2, k3, k4, k5, k6, false, k8, k9⟩ : SgT) now]).map WnT.cells = (setTo P now).map WnT.cells ++ [WnT.cells (winS (⟨k1, k2, k3, k4, k5, k6, false, k8, k9⟩ : SgT) now)] := by simp
  have b3 : ∀ z, ((setTo P now).map WnT.cells ++ [z]).take (P.length + 1) = (setTo P now).map WnT.cells ++ [z] := fun z => List.take_of_length_le (by simp [hsl])
  have b4 : ((setTo P now).map WnT.cells).take P.length = (setTo P now).map WnT.cells := List.take_of_length_le (by simp [hsl])
  rw [hL, (pl_ne d sg0 (⟨i1, i2, i3, 0, i5, i6, true, du, sk⟩ : SgT) g hP).1, (pl_ne d sg0 (⟨i1, i2, i3, 0, i5, i6, true, du, sk⟩ : SgT) g hP).2, (pl_ne d sg0 r3 (g + 1) (ne_app (setTo P now) _)).1, (pl_ne d sg0 r3 (g + 1) (ne_app (setTo P now) _)).2, b1, b2]
  simp -implicitDefEqProofs only [go_sem, ↓reduceIte, ir_usufructref30_Play_L0, WnT.cells, SgT.cells, h6, htt, hp, hm, c3, h0, h1, h2, c5, c2, h3, w1, e7, e8, e9, e10, ias_ow2, lenA_ow2, a1, b3, b4, set_len, ro_step, ro_wn, gand_b, Bool.and_eq_true, Int.natCast_nonneg]
  try rfl
theorem tr010101 (r1 r2 r3 : SgT) (e1 e2 : Int) (c : CmT) (k1 : Int) (k2 : ByteArray) (k3 k4 k5 k6 k8 k9 : Int) (c2 : e < du) (hm : ¬ 1099511627776 ≤ e) (c3 : ¬ now < e) (h0 : callP E f_usufructref14_Do [dA d, sA (⟨i1, i2, i3, 0, i5, i6, true, du, sk⟩ : SgT), vi 0, vi now] = some (.tup [sA (⟨k1, k2, k3, k4, k5, k6, false, k8, k9⟩ : SgT), vi 0])) (c4 : True) (h1 : callP E f_usufructref14_Do [dA d, sA (⟨k1, k2, k3, k4, k5, k6, false, k8, k9⟩ : SgT), vi 1, vi now] = some (.tup [sA r2, vi e2])) (c5 : ¬ e2 = 0) (P : List WnT) (hP : P ≠ []) (hPl : P.length ≤ 6000) (h2 : callP E f_usufructref14_May [dA d, sA (⟨k1, k2, k3, k4, k5, k6, false, k8, k9⟩ : SgT), vi now] = some (vb false)) : L (plE e (plO g P) now turn, plS d sg0 (⟨i1, i2, i3, 0, i5, i6, true, du, sk⟩ : SgT) g P) = L (plE e (plO g (setTo P now)) now ((turn + 1 : Nat) : Int), plS d sg0 (⟨k1, k2, k3, k4, k5, k6, false, k8, k9⟩ : SgT) g (setTo P now)) := by
  have h6 := wrap_succ (i := turn) (by omega)
  have htt : (turn : Int) < 5000 := by omega
  obtain ⟨w, e7, e8⟩ := set_map hP
  have hl : 0 < P.length := List.length_pos_iff.2 hP
  have e9 : IntKind.i64.wrap ((P.length : Int) - 1) = ((P.length - 1 : Nat) : Int) := by rw [IntWalk.i64_in _ (by omega)]; omega
  have e10 : P.length - 1 < P.length := by omega
  have hne1 : setTo P now ≠ [] := fun hh => by have := set_len P now; rw [hh] at this; simp at this; omega
  have hsl := set_len P now
  rw [hL, (pl_ne d sg0 (⟨i1, i2, i3, 0, i5, i6, true, du, sk⟩ : SgT) g hP).1, (pl_ne d sg0 (⟨i1, i2, i3, 0, i5, i6, true, du, sk⟩ : SgT) g hP).2, (pl_ne d sg0 (⟨k1, k2, k3, k4, k5, k6, false, k8, k9⟩ : SgT) g hne1).1, (pl_ne d sg0 (⟨k1, k2, k3, k4, k5, k6, false, k8, k9⟩ : SgT) g hne1).2, set_len]
  simp -implicitDefEqProofs only [go_sem, ↓reduceIte, ir_usufructref30_Play_L0, WnT.cells, SgT.cells, h6, htt, hp, hm, c3, h0, h1, h2, c5, c2, e7, e8, e9, e10, ias_ow2, lenA_ow2, ro_step, ro_wn, gand_b, Bool.and_eq_true, Int.natCast_nonneg]
  try rfl
theorem tr010110 (r1 r2 r3 : SgT) (e1 e2 : Int) (c : CmT) (k1 : Int) (k2 : ByteArray) (k3 k4 k5 k6 k8 k9 : Int) (c2 : e < du) (hm : ¬ 1099511627776 ≤ e) (c3 : ¬ now < e) (h0 : callP E f_usufructref14_Do [dA d, sA (⟨i1, i2, i3, 0, i5, i6, o, du, sk⟩ : SgT), vi 0, vi now] = some (.tup [sA r1, vi 0])) (c4 : True) (h1 : callP E f_usufructref14_Do [dA d, sA r1, vi 1, vi now] = some (.tup [sA r2, vi e2])) (c5 : ¬ e2 = 0) (P : List WnT) (hP : P ≠ []) (hPl : P.length ≤ 6000) (c6 : ¬ (o = true ∧ r1.out = false)) (h2 : callP E f_usufructref14_May [dA d, sA r1, vi now] = some (vb true)) (h3 : callP E f_usufructref14_Emit [dA d, sA r1, vi now] = some (.tup [sA r3, cA c])) (w1 : IntKind.i64.wrap (r1.tries + 1) = r1.tries + 1) : L (plE e (plO g P) now turn, plS d sg0 (⟨i1, i2, i3, 0, i5, i6, o, du, sk⟩ : SgT) g P) = L (plE e (plO (g + 1) (P ++ [winS r1 now])) now ((turn + 1 : Nat) : Int), plS d sg0 r3 (g + 1) (P ++ [winS r1 now])) := by
  have h6 := wrap_succ (i := turn) (by omega)
  have htt : (turn : Int) < 5000 := by omega
  have a1 : (P.length + 1) * 40 ≤ 140737488355328 := by omega
  have b1 : (P ++ [winS r1 now]).length = P.length + 1 := by simp
  have b2 : (P ++ [winS r1 now]).map WnT.cells = P.map WnT.cells ++ [WnT.cells (winS r1 now)] := by simp
  have b3 : ∀ z, (P.map WnT.cells ++ [z]).take (P.length + 1) = P.map WnT.cells ++ [z] := fun z => List.take_of_length_le (by simp)
  have b4 : (P.map WnT.cells).take P.length = P.map WnT.cells := List.take_of_length_le (by simp)
  rw [hL, (pl_ne d sg0 (⟨i1, i2, i3, 0, i5, i6, o, du, sk⟩ : SgT) g hP).1, (pl_ne d sg0 (⟨i1, i2, i3, 0, i5, i6, o, du, sk⟩ : SgT) g hP).2, (pl_ne d sg0 r3 (g + 1) (ne_app P _)).1, (pl_ne d sg0 r3 (g + 1) (ne_app P _)).2, b1, b2]
  simp -implicitDefEqProofs only [go_sem, ↓reduceIte, ir_usufructref30_Play_L0, WnT.cells, SgT.cells, h6, htt, hp, hm, c3, h0, h1, h2, c5, c6, c2, h3, w1, a1, b3, b4, ro_step, ro_wn, gand_b, Bool.and_eq_true, Int.natCast_nonneg]
  try rfl
theorem tr010111 (r1 r2 r3 : SgT) (e1 e2 : Int) (c : CmT) (k1 : Int) (k2 : ByteArray) (k3 k4 k5 k6 k8 k9 : Int) (c2 : e < du) (hm : ¬ 1099511627776 ≤ e) (c3 : ¬ now < e) (h0 : callP E f_usufructref14_Do [dA d, sA (⟨i1, i2, i3, 0, i5, i6, o, du, sk⟩ : SgT), vi 0, vi now] = some (.tup [sA r1, vi 0])) (c4 : True) (h1 : callP E f_usufructref14_Do [dA d, sA r1, vi 1, vi now] = some (.tup [sA r2, vi e2])) (c5 : ¬ e2 = 0) (P : List WnT) (hP : P ≠ []) (hPl : P.length ≤ 6000) (c6 : ¬ (o = true ∧ r1.out = false)) (h2 : callP E f_usufructref14_May [dA d, sA r1, vi now] = some (vb false)) : L (plE e (plO g P) now turn, plS d sg0 (⟨i1, i2, i3, 0, i5, i6, o, du, sk⟩ : SgT) g P) = L (plE e (plO g P) now ((turn + 1 : Nat) : Int), plS d sg0 r1 g P) := by
  have h6 := wrap_succ (i := turn) (by omega)
  have htt : (turn : Int) < 5000 := by omega
  rw [hL, (pl_ne d sg0 (⟨i1, i2, i3, 0, i5, i6, o, du, sk⟩ : SgT) g hP).1, (pl_ne d sg0 (⟨i1, i2, i3, 0, i5, i6, o, du, sk⟩ : SgT) g hP).2, (pl_ne d sg0 r1 g hP).1]
  simp -implicitDefEqProofs only [go_sem, ↓reduceIte, ir_usufructref30_Play_L0, WnT.cells, SgT.cells, h6, htt, hp, hm, c3, h0, h1, h2, c5, c6, c2, ro_step, ro_wn, gand_b, Bool.and_eq_true, Int.natCast_nonneg]
  try rfl
theorem tr011000 (r1 r2 r3 : SgT) (e1 e2 : Int) (c : CmT) (k1 : Int) (k2 : ByteArray) (k3 k4 k5 k6 k8 k9 : Int) (c2 : e < du) (hm : ¬ 1099511627776 ≤ e) (c3 : ¬ now < e) (h0 : callP E f_usufructref14_Do [dA d, sA (⟨i1, i2, i3, 0, i5, i6, true, du, sk⟩ : SgT), vi 0, vi now] = some (.tup [sA r1, vi e1])) (c4 : ¬ e1 = 0) (h1 : callP E f_usufructref14_Do [dA d, sA (⟨i1, i2, i3, 0, i5, i6, true, du, sk⟩ : SgT), vi 1, vi now] = some (.tup [sA (⟨k1, k2, k3, k4, k5, k6, false, k8, k9⟩ : SgT), vi 0])) (c5 : True) (P : List WnT) (hP : P ≠ []) (hPl : P.length ≤ 6000) (h2 : callP E f_usufructref14_May [dA d, sA (⟨k1, k2, k3, k4, k5, k6, false, k8, k9⟩ : SgT), vi now] = some (vb true)) (h3 : callP E f_usufructref14_Emit [dA d, sA (⟨k1, k2, k3, k4, k5, k6, false, k8, k9⟩ : SgT), vi now] = some (.tup [sA r3, cA c])) (w1 : IntKind.i64.wrap ((⟨k1, k2, k3, k4, k5, k6, false, k8, k9⟩ : SgT).tries + 1) = (⟨k1, k2, k3, k4, k5, k6, false, k8, k9⟩ : SgT).tries + 1) : L (plE e (plO g P) now turn, plS d sg0 (⟨i1, i2, i3, 0, i5, i6, true, du, sk⟩ : SgT) g P) = L (plE e (plO (g + 1) ((setTo P now) ++ [winS (⟨k1, k2, k3, k4, k5, k6, false, k8, k9⟩ : SgT) now])) now ((turn + 1 : Nat) : Int), plS d sg0 r3 (g + 1) ((setTo P now) ++ [winS (⟨k1, k2, k3, k4, k5, k6, false, k8, k9⟩ : SgT) now])) := by
  have h6 := wrap_succ (i := turn) (by omega)
  have htt : (turn : Int) < 5000 := by omega
  obtain ⟨w, e7, e8⟩ := set_map hP
  have hl : 0 < P.length := List.length_pos_iff.2 hP
  have e9 : IntKind.i64.wrap ((P.length : Int) - 1) = ((P.length - 1 : Nat) : Int) := by rw [IntWalk.i64_in _ (by omega)]; omega
  have e10 : P.length - 1 < P.length := by omega
  have hne1 : setTo P now ≠ [] := fun hh => by have := set_len P now; rw [hh] at this; simp at this; omega
  have hsl := set_len P now
  have a1 : (P.length + 1) * 40 ≤ 140737488355328 := by omega
  have b1 : ((setTo P now) ++ [winS (⟨k1, k2, k3, k4, k5, k6, false, k8, k9⟩ : SgT) now]).length = P.length + 1 := by simp [hsl]
  have b2 : ((setTo P now) ++ [winS (⟨k1, k2, k3, k4, k5, k6, false, k8, k9⟩ : SgT) now]).map WnT.cells = (setTo P now).map WnT.cells ++ [WnT.cells (winS (⟨k1, k2, k3, k4, k5, k6, false, k8, k9⟩ : SgT) now)] := by simp
  have b3 : ∀ z, ((setTo P now).map WnT.cells ++ [z]).take (P.length + 1) = (setTo P now).map WnT.cells ++ [z] := fun z => List.take_of_length_le (by simp [hsl])
  have b4 : ((setTo P now).map WnT.cells).take P.length = (setTo P now).map WnT.cells := List.take_of_length_le (by simp [hsl])
  rw [hL, (pl_ne d sg0 (⟨i1, i2, i3, 0, i5, i6, true, du, sk⟩ : SgT) g hP).1, (pl_ne d sg0 (⟨i1, i2, i3, 0, i5, i6, true, du, sk⟩ : SgT) g hP).2, (pl_ne d sg0 r3 (g + 1) (ne_app (setTo P now) _)).1, (pl_ne d sg0 r3 (g + 1) (ne_app (setTo P now) _)).2, b1, b2]
  simp -implicitDefEqProofs only [go_sem, ↓reduceIte, ir_usufructref30_Play_L0, WnT.cells, SgT.cells, h6, htt, hp, hm, c3, h0, h1, h2, c4, c2, h3, w1, e7, e8, e9, e10, ias_ow2, lenA_ow2, a1, b3, b4, set_len, ro_step, ro_wn, gand_b, Bool.and_eq_true, Int.natCast_nonneg]
  try rfl
theorem tr011001 (r1 r2 r3 : SgT) (e1 e2 : Int) (c : CmT) (k1 : Int) (k2 : ByteArray) (k3 k4 k5 k6 k8 k9 : Int) (c2 : e < du) (hm : ¬ 1099511627776 ≤ e) (c3 : ¬ now < e) (h0 : callP E f_usufructref14_Do [dA d, sA (⟨i1, i2, i3, 0, i5, i6, true, du, sk⟩ : SgT), vi 0, vi now] = some (.tup [sA r1, vi e1])) (c4 : ¬ e1 = 0) (h1 : callP E f_usufructref14_Do [dA d, sA (⟨i1, i2, i3, 0, i5, i6, true, du, sk⟩ : SgT), vi 1, vi now] = some (.tup [sA (⟨k1, k2, k3, k4, k5, k6, false, k8, k9⟩ : SgT), vi 0])) (c5 : True) (P : List WnT) (hP : P ≠ []) (hPl : P.length ≤ 6000) (h2 : callP E f_usufructref14_May [dA d, sA (⟨k1, k2, k3, k4, k5, k6, false, k8, k9⟩ : SgT), vi now] = some (vb false)) : L (plE e (plO g P) now turn, plS d sg0 (⟨i1, i2, i3, 0, i5, i6, true, du, sk⟩ : SgT) g P) = L (plE e (plO g (setTo P now)) now ((turn + 1 : Nat) : Int), plS d sg0 (⟨k1, k2, k3, k4, k5, k6, false, k8, k9⟩ : SgT) g (setTo P now)) := by
  have h6 := wrap_succ (i := turn) (by omega)
  have htt : (turn : Int) < 5000 := by omega
  obtain ⟨w, e7, e8⟩ := set_map hP
  have hl : 0 < P.length := List.length_pos_iff.2 hP
  have e9 : IntKind.i64.wrap ((P.length : Int) - 1) = ((P.length - 1 : Nat) : Int) := by rw [IntWalk.i64_in _ (by omega)]; omega
  have e10 : P.length - 1 < P.length := by omega
  have hne1 : setTo P now ≠ [] := fun hh => by have := set_len P now; rw [hh] at this; simp at this; omega
  have hsl := set_len P now
  rw [hL, (pl_ne d sg0 (⟨i1, i2, i3, 0, i5, i6, true, du, sk⟩ : SgT) g hP).1, (pl_ne d sg0 (⟨i1, i2, i3, 0, i5, i6, true, du, sk⟩ : SgT) g hP).2, (pl_ne d sg0 (⟨k1, k2, k3, k4, k5, k6, false, k8, k9⟩ : SgT) g hne1).1, (pl_ne d sg0 (⟨k1, k2, k3, k4, k5, k6, false, k8, k9⟩ : SgT) g hne1).2, set_len]
  simp -implicitDefEqProofs only [go_sem, ↓reduceIte, ir_usufructref30_Play_L0, WnT.cells, SgT.cells, h6, htt, hp, hm, c3, h0, h1, h2, c4, c2, e7, e8, e9, e10, ias_ow2, lenA_ow2, ro_step, ro_wn, gand_b, Bool.and_eq_true, Int.natCast_nonneg]
  try rfl
theorem tr011010 (r1 r2 r3 : SgT) (e1 e2 : Int) (c : CmT) (k1 : Int) (k2 : ByteArray) (k3 k4 k5 k6 k8 k9 : Int) (c2 : e < du) (hm : ¬ 1099511627776 ≤ e) (c3 : ¬ now < e) (h0 : callP E f_usufructref14_Do [dA d, sA (⟨i1, i2, i3, 0, i5, i6, o, du, sk⟩ : SgT), vi 0, vi now] = some (.tup [sA r1, vi e1])) (c4 : ¬ e1 = 0) (h1 : callP E f_usufructref14_Do [dA d, sA (⟨i1, i2, i3, 0, i5, i6, o, du, sk⟩ : SgT), vi 1, vi now] = some (.tup [sA r2, vi 0])) (c5 : True) (P : List WnT) (hP : P ≠ []) (hPl : P.length ≤ 6000) (c6 : ¬ (o = true ∧ r2.out = false)) (h2 : callP E f_usufructref14_May [dA d, sA r2, vi now] = some (vb true)) (h3 : callP E f_usufructref14_Emit [dA d, sA r2, vi now] = some (.tup [sA r3, cA c])) (w1 : IntKind.i64.wrap (r2.tries + 1) = r2.tries + 1) : L (plE e (plO g P) now turn, plS d sg0 (⟨i1, i2, i3, 0, i5, i6, o, du, sk⟩ : SgT) g P) = L (plE e (plO (g + 1) (P ++ [winS r2 now])) now ((turn + 1 : Nat) : Int), plS d sg0 r3 (g + 1) (P ++ [winS r2 now])) := by
  have h6 := wrap_succ (i := turn) (by omega)
  have htt : (turn : Int) < 5000 := by omega
  have a1 : (P.length + 1) * 40 ≤ 140737488355328 := by omega
  have b1 : (P ++ [winS r2 now]).length = P.length + 1 := by simp
  have b2 : (P ++ [winS r2 now]).map WnT.cells = P.map WnT.cells ++ [WnT.cells (winS r2 now)] := by simp
  have b3 : ∀ z, (P.map WnT.cells ++ [z]).take (P.length + 1) = P.map WnT.cells ++ [z] := fun z => List.take_of_length_le (by simp)
  have b4 : (P.map WnT.cells).take P.length = P.map WnT.cells := List.take_of_length_le (by simp)
  rw [hL, (pl_ne d sg0 (⟨i1, i2, i3, 0, i5, i6, o, du, sk⟩ : SgT) g hP).1, (pl_ne d sg0 (⟨i1, i2, i3, 0, i5, i6, o, du, sk⟩ : SgT) g hP).2, (pl_ne d sg0 r3 (g + 1) (ne_app P _)).1, (pl_ne d sg0 r3 (g + 1) (ne_app P _)).2, b1, b2]
  simp -implicitDefEqProofs only [go_sem, ↓reduceIte, ir_usufructref30_Play_L0, WnT.cells, SgT.cells, h6, htt, hp, hm, c3, h0, h1, h2, c4, c6, c2, h3, w1, a1, b3, b4, ro_step, ro_wn, gand_b, Bool.and_eq_true, Int.natCast_nonneg]
  try rfl
theorem tr011011 (r1 r2 r3 : SgT) (e1 e2 : Int) (c : CmT) (k1 : Int) (k2 : ByteArray) (k3 k4 k5 k6 k8 k9 : Int) (c2 : e < du) (hm : ¬ 1099511627776 ≤ e) (c3 : ¬ now < e) (h0 : callP E f_usufructref14_Do [dA d, sA (⟨i1, i2, i3, 0, i5, i6, o, du, sk⟩ : SgT), vi 0, vi now] = some (.tup [sA r1, vi e1])) (c4 : ¬ e1 = 0) (h1 : callP E f_usufructref14_Do [dA d, sA (⟨i1, i2, i3, 0, i5, i6, o, du, sk⟩ : SgT), vi 1, vi now] = some (.tup [sA r2, vi 0])) (c5 : True) (P : List WnT) (hP : P ≠ []) (hPl : P.length ≤ 6000) (c6 : ¬ (o = true ∧ r2.out = false)) (h2 : callP E f_usufructref14_May [dA d, sA r2, vi now] = some (vb false)) : L (plE e (plO g P) now turn, plS d sg0 (⟨i1, i2, i3, 0, i5, i6, o, du, sk⟩ : SgT) g P) = L (plE e (plO g P) now ((turn + 1 : Nat) : Int), plS d sg0 r2 g P) := by
  have h6 := wrap_succ (i := turn) (by omega)
  have htt : (turn : Int) < 5000 := by omega
  rw [hL, (pl_ne d sg0 (⟨i1, i2, i3, 0, i5, i6, o, du, sk⟩ : SgT) g hP).1, (pl_ne d sg0 (⟨i1, i2, i3, 0, i5, i6, o, du, sk⟩ : SgT) g hP).2, (pl_ne d sg0 r2 g hP).1]
  simp -implicitDefEqProofs only [go_sem, ↓reduceIte, ir_usufructref30_Play_L0, WnT.cells, SgT.cells, h6, htt, hp, hm, c3, h0, h1, h2, c4, c6, c2, ro_step, ro_wn, gand_b, Bool.and_eq_true, Int.natCast_nonneg]
  try rfl
theorem tr011110 (r1 r2 r3 : SgT) (e1 e2 : Int) (c : CmT) (k1 : Int) (k2 : ByteArray) (k3 k4 k5 k6 k8 k9 : Int) (c2 : e < du) (hm : ¬ 1099511627776 ≤ e) (c3 : ¬ now < e) (h0 : callP E f_usufructref14_Do [dA d, sA (⟨i1, i2, i3, 0, i5, i6, o, du, sk⟩ : SgT), vi 0, vi now] = some (.tup [sA r1, vi e1])) (c4 : ¬ e1 = 0) (h1 : callP E f_usufructref14_Do [dA d, sA (⟨i1, i2, i3, 0, i5, i6, o, du, sk⟩ : SgT), vi 1, vi now] = some (.tup [sA r2, vi e2])) (c5 : ¬ e2 = 0) (P : List WnT) (hP : P ≠ []) (hPl : P.length ≤ 6000) (c6 : ¬ (o = true ∧ (⟨i1, i2, i3, 0, i5, i6, o, du, sk⟩ : SgT).out = false)) (h2 : callP E f_usufructref14_May [dA d, sA (⟨i1, i2, i3, 0, i5, i6, o, du, sk⟩ : SgT), vi now] = some (vb true)) (h3 : callP E f_usufructref14_Emit [dA d, sA (⟨i1, i2, i3, 0, i5, i6, o, du, sk⟩ : SgT), vi now] = some (.tup [sA r3, cA c])) (w1 : IntKind.i64.wrap ((⟨i1, i2, i3, 0, i5, i6, o, du, sk⟩ : SgT).tries + 1) = (⟨i1, i2, i3, 0, i5, i6, o, du, sk⟩ : SgT).tries + 1) : L (plE e (plO g P) now turn, plS d sg0 (⟨i1, i2, i3, 0, i5, i6, o, du, sk⟩ : SgT) g P) = L (plE e (plO (g + 1) (P ++ [winS (⟨i1, i2, i3, 0, i5, i6, o, du, sk⟩ : SgT) now])) now ((turn + 1 : Nat) : Int), plS d sg0 r3 (g + 1) (P ++ [winS (⟨i1, i2, i3, 0, i5, i6, o, du, sk⟩ : SgT) now])) := by
  have h6 := wrap_succ (i := turn) (by omega)
  have htt : (turn : Int) < 5000 := by omega
  have a1 : (P.length + 1) * 40 ≤ 140737488355328 := by omega
  have b1 : (P ++ [winS (⟨i1, i2, i3, 0, i5, i6, o, du, sk⟩ : SgT) now]).length = P.length + 1 := by simp
  have b2 : (P ++ [winS (⟨i1, i2, i3, 0, i5, i6, o, du, sk⟩ : SgT) now]).map WnT.cells = P.map WnT.cells ++ [WnT.cells (winS (⟨i1, i2, i3, 0, i5, i6, o, du, sk⟩ : SgT) now)] := by simp
  have b3 : ∀ z, (P.map WnT.cells ++ [z]).take (P.length + 1) = P.map WnT.cells ++ [z] := fun z => List.take_of_length_le (by simp)
  have b4 : (P.map WnT.cells).take P.length = P.map WnT.cells := List.take_of_length_le (by simp)
  rw [hL, (pl_ne d sg0 (⟨i1, i2, i3, 0, i5, i6, o, du, sk⟩ : SgT) g hP).1, (pl_ne d sg0 (⟨i1, i2, i3, 0, i5, i6, o, du, sk⟩ : SgT) g hP).2, (pl_ne d sg0 r3 (g + 1) (ne_app P _)).1, (pl_ne d sg0 r3 (g + 1) (ne_app P _)).2, b1, b2]
  simp -implicitDefEqProofs only [go_sem, ↓reduceIte, ir_usufructref30_Play_L0, WnT.cells, SgT.cells, h6, htt, hp, hm, c3, h0, h1, h2, c4, c5, c6, c2, h3, w1, a1, b3, b4, ro_step, ro_wn, gand_b, Bool.and_eq_true, Int.natCast_nonneg]
  try rfl
theorem tr011111 (r1 r2 r3 : SgT) (e1 e2 : Int) (c : CmT) (k1 : Int) (k2 : ByteArray) (k3 k4 k5 k6 k8 k9 : Int) (c2 : e < du) (hm : ¬ 1099511627776 ≤ e) (c3 : ¬ now < e) (h0 : callP E f_usufructref14_Do [dA d, sA (⟨i1, i2, i3, 0, i5, i6, o, du, sk⟩ : SgT), vi 0, vi now] = some (.tup [sA r1, vi e1])) (c4 : ¬ e1 = 0) (h1 : callP E f_usufructref14_Do [dA d, sA (⟨i1, i2, i3, 0, i5, i6, o, du, sk⟩ : SgT), vi 1, vi now] = some (.tup [sA r2, vi e2])) (c5 : ¬ e2 = 0) (P : List WnT) (hP : P ≠ []) (hPl : P.length ≤ 6000) (c6 : ¬ (o = true ∧ (⟨i1, i2, i3, 0, i5, i6, o, du, sk⟩ : SgT).out = false)) (h2 : callP E f_usufructref14_May [dA d, sA (⟨i1, i2, i3, 0, i5, i6, o, du, sk⟩ : SgT), vi now] = some (vb false)) : L (plE e (plO g P) now turn, plS d sg0 (⟨i1, i2, i3, 0, i5, i6, o, du, sk⟩ : SgT) g P) = L (plE e (plO g P) now ((turn + 1 : Nat) : Int), plS d sg0 (⟨i1, i2, i3, 0, i5, i6, o, du, sk⟩ : SgT) g P) := by
  have h6 := wrap_succ (i := turn) (by omega)
  have htt : (turn : Int) < 5000 := by omega
  rw [hL, (pl_ne d sg0 (⟨i1, i2, i3, 0, i5, i6, o, du, sk⟩ : SgT) g hP).1, (pl_ne d sg0 (⟨i1, i2, i3, 0, i5, i6, o, du, sk⟩ : SgT) g hP).2]
  simp -implicitDefEqProofs only [go_sem, ↓reduceIte, ir_usufructref30_Play_L0, WnT.cells, SgT.cells, h6, htt, hp, hm, c3, h0, h1, h2, c4, c5, c6, c2, ro_step, ro_wn, gand_b, Bool.and_eq_true, Int.natCast_nonneg]
  try rfl
theorem tr100000 (r1 r2 r3 : SgT) (e1 e2 : Int) (c : CmT) (k1 : Int) (k2 : ByteArray) (k3 k4 k5 k6 k8 k9 : Int) (c1 : ¬ (ph = 0 ∧ e < du)) (hm : ¬ 1099511627776 ≤ du) (c3 :  now < du) (h0 : callP E f_usufructref14_Do [dA d, sA (⟨i1, i2, i3, ph, i5, i6, true, du, sk⟩ : SgT), vi 0, vi du] = some (.tup [sA r1, vi 0])) (c4 : True) (h1 : callP E f_usufructref14_Do [dA d, sA r1, vi 1, vi du] = some (.tup [sA (⟨k1, k2, k3, k4, k5, k6, false, k8, k9⟩ : SgT), vi 0])) (c5 : True) (P : List WnT) (hP : P ≠ []) (hPl : P.length ≤ 6000) (h2 : callP E f_usufructref14_May [dA d, sA (⟨k1, k2, k3, k4, k5, k6, false, k8, k9⟩ : SgT), vi du] = some (vb true)) (h3 : callP E f_usufructref14_Emit [dA d, sA (⟨k1, k2, k3, k4, k5, k6, false, k8, k9⟩ : SgT), vi du] = some (.tup [sA r3, cA c])) (w1 : IntKind.i64.wrap ((⟨k1, k2, k3, k4, k5, k6, false, k8, k9⟩ : SgT).tries + 1) = (⟨k1, k2, k3, k4, k5, k6, false, k8, k9⟩ : SgT).tries + 1) : L (plE e (plO g P) now turn, plS d sg0 (⟨i1, i2, i3, ph, i5, i6, true, du, sk⟩ : SgT) g P) = L (plE e (plO (g + 1) ((setTo P du) ++ [winS (⟨k1, k2, k3, k4, k5, k6, false, k8, k9⟩ : SgT) du])) du ((turn + 1 : Nat) : Int), plS d sg0 r3 (g + 1) ((setTo P du) ++ [winS (⟨k1, k2, k3, k4, k5, k6, false, k8, k9⟩ : SgT) du])) := by
  have h6 := wrap_succ (i := turn) (by omega)
  have htt : (turn : Int) < 5000 := by omega
  obtain ⟨w, e7, e8⟩ := set_map hP
  have hl : 0 < P.length := List.length_pos_iff.2 hP
  have e9 : IntKind.i64.wrap ((P.length : Int) - 1) = ((P.length - 1 : Nat) : Int) := by rw [IntWalk.i64_in _ (by omega)]; omega
  have e10 : P.length - 1 < P.length := by omega
  have hne1 : setTo P du ≠ [] := fun hh => by have := set_len P du; rw [hh] at this; simp at this; omega
  have hsl := set_len P du
  have a1 : (P.length + 1) * 40 ≤ 140737488355328 := by omega
  have b1 : ((setTo P du) ++ [winS (⟨k1, k2, k3, k4, k5, k6, false, k8, k9⟩ : SgT) du]).length = P.length + 1 := by simp [hsl]
  have b2 : ((setTo P du) ++ [winS (⟨k1, k2, k3, k4, k5, k6, false, k8, k9⟩ : SgT) du]).map WnT.cells = (setTo P du).map WnT.cells ++ [WnT.cells (winS (⟨k1, k2, k3, k4, k5, k6, false, k8, k9⟩ : SgT) du)] := by simp
  have b3 : ∀ z, ((setTo P du).map WnT.cells ++ [z]).take (P.length + 1) = (setTo P du).map WnT.cells ++ [z] := fun z => List.take_of_length_le (by simp [hsl])
  have b4 : ((setTo P du).map WnT.cells).take P.length = (setTo P du).map WnT.cells := List.take_of_length_le (by simp [hsl])
  rw [hL, (pl_ne d sg0 (⟨i1, i2, i3, ph, i5, i6, true, du, sk⟩ : SgT) g hP).1, (pl_ne d sg0 (⟨i1, i2, i3, ph, i5, i6, true, du, sk⟩ : SgT) g hP).2, (pl_ne d sg0 r3 (g + 1) (ne_app (setTo P du) _)).1, (pl_ne d sg0 r3 (g + 1) (ne_app (setTo P du) _)).2, b1, b2]
  simp -implicitDefEqProofs only [go_sem, ↓reduceIte, ir_usufructref30_Play_L0, WnT.cells, SgT.cells, h6, htt, hp, hm, c3, h0, h1, h2, c1, h3, w1, e7, e8, e9, e10, ias_ow2, lenA_ow2, a1, b3, b4, set_len, ro_step, ro_wn, gand_b, Bool.and_eq_true, Int.natCast_nonneg]
  try rfl
theorem tr100001 (r1 r2 r3 : SgT) (e1 e2 : Int) (c : CmT) (k1 : Int) (k2 : ByteArray) (k3 k4 k5 k6 k8 k9 : Int) (c1 : ¬ (ph = 0 ∧ e < du)) (hm : ¬ 1099511627776 ≤ du) (c3 :  now < du) (h0 : callP E f_usufructref14_Do [dA d, sA (⟨i1, i2, i3, ph, i5, i6, true, du, sk⟩ : SgT), vi 0, vi du] = some (.tup [sA r1, vi 0])) (c4 : True) (h1 : callP E f_usufructref14_Do [dA d, sA r1, vi 1, vi du] = some (.tup [sA (⟨k1, k2, k3, k4, k5, k6, false, k8, k9⟩ : SgT), vi 0])) (c5 : True) (P : List WnT) (hP : P ≠ []) (hPl : P.length ≤ 6000) (h2 : callP E f_usufructref14_May [dA d, sA (⟨k1, k2, k3, k4, k5, k6, false, k8, k9⟩ : SgT), vi du] = some (vb false)) : L (plE e (plO g P) now turn, plS d sg0 (⟨i1, i2, i3, ph, i5, i6, true, du, sk⟩ : SgT) g P) = L (plE e (plO g (setTo P du)) du ((turn + 1 : Nat) : Int), plS d sg0 (⟨k1, k2, k3, k4, k5, k6, false, k8, k9⟩ : SgT) g (setTo P du)) := by
  have h6 := wrap_succ (i := turn) (by omega)
  have htt : (turn : Int) < 5000 := by omega
  obtain ⟨w, e7, e8⟩ := set_map hP
  have hl : 0 < P.length := List.length_pos_iff.2 hP
  have e9 : IntKind.i64.wrap ((P.length : Int) - 1) = ((P.length - 1 : Nat) : Int) := by rw [IntWalk.i64_in _ (by omega)]; omega
  have e10 : P.length - 1 < P.length := by omega
  have hne1 : setTo P du ≠ [] := fun hh => by have := set_len P du; rw [hh] at this; simp at this; omega
  have hsl := set_len P du
  rw [hL, (pl_ne d sg0 (⟨i1, i2, i3, ph, i5, i6, true, du, sk⟩ : SgT) g hP).1, (pl_ne d sg0 (⟨i1, i2, i3, ph, i5, i6, true, du, sk⟩ : SgT) g hP).2, (pl_ne d sg0 (⟨k1, k2, k3, k4, k5, k6, false, k8, k9⟩ : SgT) g hne1).1, (pl_ne d sg0 (⟨k1, k2, k3, k4, k5, k6, false, k8, k9⟩ : SgT) g hne1).2, set_len]
  simp -implicitDefEqProofs only [go_sem, ↓reduceIte, ir_usufructref30_Play_L0, WnT.cells, SgT.cells, h6, htt, hp, hm, c3, h0, h1, h2, c1, e7, e8, e9, e10, ias_ow2, lenA_ow2, ro_step, ro_wn, gand_b, Bool.and_eq_true, Int.natCast_nonneg]
  try rfl
theorem tr100010 (r1 r2 r3 : SgT) (e1 e2 : Int) (c : CmT) (k1 : Int) (k2 : ByteArray) (k3 k4 k5 k6 k8 k9 : Int) (c1 : ¬ (ph = 0 ∧ e < du)) (hm : ¬ 1099511627776 ≤ du) (c3 :  now < du) (h0 : callP E f_usufructref14_Do [dA d, sA (⟨i1, i2, i3, ph, i5, i6, o, du, sk⟩ : SgT), vi 0, vi du] = some (.tup [sA r1, vi 0])) (c4 : True) (h1 : callP E f_usufructref14_Do [dA d, sA r1, vi 1, vi du] = some (.tup [sA r2, vi 0])) (c5 : True) (P : List WnT) (hP : P ≠ []) (hPl : P.length ≤ 6000) (c6 : ¬ (o = true ∧ r2.out = false)) (h2 : callP E f_usufructref14_May [dA d, sA r2, vi du] = some (vb true)) (h3 : callP E f_usufructref14_Emit [dA d, sA r2, vi du] = some (.tup [sA r3, cA c])) (w1 : IntKind.i64.wrap (r2.tries + 1) = r2.tries + 1) : L (plE e (plO g P) now turn, plS d sg0 (⟨i1, i2, i3, ph, i5, i6, o, du, sk⟩ : SgT) g P) = L (plE e (plO (g + 1) (P ++ [winS r2 du])) du ((turn + 1 : Nat) : Int), plS d sg0 r3 (g + 1) (P ++ [winS r2 du])) := by
  have h6 := wrap_succ (i := turn) (by omega)
  have htt : (turn : Int) < 5000 := by omega
  have a1 : (P.length + 1) * 40 ≤ 140737488355328 := by omega
  have b1 : (P ++ [winS r2 du]).length = P.length + 1 := by simp
  have b2 : (P ++ [winS r2 du]).map WnT.cells = P.map WnT.cells ++ [WnT.cells (winS r2 du)] := by simp
  have b3 : ∀ z, (P.map WnT.cells ++ [z]).take (P.length + 1) = P.map WnT.cells ++ [z] := fun z => List.take_of_length_le (by simp)
  have b4 : (P.map WnT.cells).take P.length = P.map WnT.cells := List.take_of_length_le (by simp)
  rw [hL, (pl_ne d sg0 (⟨i1, i2, i3, ph, i5, i6, o, du, sk⟩ : SgT) g hP).1, (pl_ne d sg0 (⟨i1, i2, i3, ph, i5, i6, o, du, sk⟩ : SgT) g hP).2, (pl_ne d sg0 r3 (g + 1) (ne_app P _)).1, (pl_ne d sg0 r3 (g + 1) (ne_app P _)).2, b1, b2]
  simp -implicitDefEqProofs only [go_sem, ↓reduceIte, ir_usufructref30_Play_L0, WnT.cells, SgT.cells, h6, htt, hp, hm, c3, h0, h1, h2, c1, c6, h3, w1, a1, b3, b4, ro_step, ro_wn, gand_b, Bool.and_eq_true, Int.natCast_nonneg]
  try rfl
theorem tr100011 (r1 r2 r3 : SgT) (e1 e2 : Int) (c : CmT) (k1 : Int) (k2 : ByteArray) (k3 k4 k5 k6 k8 k9 : Int) (c1 : ¬ (ph = 0 ∧ e < du)) (hm : ¬ 1099511627776 ≤ du) (c3 :  now < du) (h0 : callP E f_usufructref14_Do [dA d, sA (⟨i1, i2, i3, ph, i5, i6, o, du, sk⟩ : SgT), vi 0, vi du] = some (.tup [sA r1, vi 0])) (c4 : True) (h1 : callP E f_usufructref14_Do [dA d, sA r1, vi 1, vi du] = some (.tup [sA r2, vi 0])) (c5 : True) (P : List WnT) (hP : P ≠ []) (hPl : P.length ≤ 6000) (c6 : ¬ (o = true ∧ r2.out = false)) (h2 : callP E f_usufructref14_May [dA d, sA r2, vi du] = some (vb false)) : L (plE e (plO g P) now turn, plS d sg0 (⟨i1, i2, i3, ph, i5, i6, o, du, sk⟩ : SgT) g P) = L (plE e (plO g P) du ((turn + 1 : Nat) : Int), plS d sg0 r2 g P) := by
  have h6 := wrap_succ (i := turn) (by omega)
  have htt : (turn : Int) < 5000 := by omega
  rw [hL, (pl_ne d sg0 (⟨i1, i2, i3, ph, i5, i6, o, du, sk⟩ : SgT) g hP).1, (pl_ne d sg0 (⟨i1, i2, i3, ph, i5, i6, o, du, sk⟩ : SgT) g hP).2, (pl_ne d sg0 r2 g hP).1]
  simp -implicitDefEqProofs only [go_sem, ↓reduceIte, ir_usufructref30_Play_L0, WnT.cells, SgT.cells, h6, htt, hp, hm, c3, h0, h1, h2, c1, c6, ro_step, ro_wn, gand_b, Bool.and_eq_true, Int.natCast_nonneg]
  try rfl
theorem tr100100 (r1 r2 r3 : SgT) (e1 e2 : Int) (c : CmT) (k1 : Int) (k2 : ByteArray) (k3 k4 k5 k6 k8 k9 : Int) (c1 : ¬ (ph = 0 ∧ e < du)) (hm : ¬ 1099511627776 ≤ du) (c3 :  now < du) (h0 : callP E f_usufructref14_Do [dA d, sA (⟨i1, i2, i3, ph, i5, i6, true, du, sk⟩ : SgT), vi 0, vi du] = some (.tup [sA (⟨k1, k2, k3, k4, k5, k6, false, k8, k9⟩ : SgT), vi 0])) (c4 : True) (h1 : callP E f_usufructref14_Do [dA d, sA (⟨k1, k2, k3, k4, k5, k6, false, k8, k9⟩ : SgT), vi 1, vi du] = some (.tup [sA r2, vi e2])) (c5 : ¬ e2 = 0) (P : List WnT) (hP : P ≠ []) (hPl : P.length ≤ 6000) (h2 : callP E f_usufructref14_May [dA d, sA (⟨k1, k2, k3, k4, k5, k6, false, k8, k9⟩ : SgT), vi du] = some (vb true)) (h3 : callP E f_usufructref14_Emit [dA d, sA (⟨k1, k2, k3, k4, k5, k6, false, k8, k9⟩ : SgT), vi du] = some (.tup [sA r3, cA c])) (w1 : IntKind.i64.wrap ((⟨k1, k2, k3, k4, k5, k6, false, k8, k9⟩ : SgT).tries + 1) = (⟨k1, k2, k3, k4, k5, k6, false, k8, k9⟩ : SgT).tries + 1) : L (plE e (plO g P) now turn, plS d sg0 (⟨i1, i2, i3, ph, i5, i6, true, du, sk⟩ : SgT) g P) = L (plE e (plO (g + 1) ((setTo P du) ++ [winS (⟨k1, k2, k3, k4, k5, k6, false, k8, k9⟩ : SgT) du])) du ((turn + 1 : Nat) : Int), plS d sg0 r3 (g + 1) ((setTo P du) ++ [winS (⟨k1, k2, k3, k4, k5, k6, false, k8, k9⟩ : SgT) du])) := by
  have h6 := wrap_succ (i := turn) (by omega)
  have htt : (turn : Int) < 5000 := by omega
  obtain ⟨w, e7, e8⟩ := set_map hP
  have hl : 0 < P.length := List.length_pos_iff.2 hP
  have e9 : IntKind.i64.wrap ((P.length : Int) - 1) = ((P.length - 1 : Nat) : Int) := by rw [IntWalk.i64_in _ (by omega)]; omega
  have e10 : P.length - 1 < P.length := by omega
  have hne1 : setTo P du ≠ [] := fun hh => by have := set_len P du; rw [hh] at this; simp at this; omega
  have hsl := set_len P du
  have a1 : (P.length + 1) * 40 ≤ 140737488355328 := by omega
  have b1 : ((setTo P du) ++ [winS (⟨k1, k2, k3, k4, k5, k6, false, k8, k9⟩ : SgT) du]).length = P.length + 1 := by simp [hsl]
  have b2 : ((setTo P du) ++ [winS (⟨k1, k2, k3, k4, k5, k6, false, k8, k9⟩ : SgT) du]).map WnT.cells = (setTo P du).map WnT.cells ++ [WnT.cells (winS (⟨k1, k2, k3, k4, k5, k6, false, k8, k9⟩ : SgT) du)] := by simp
  have b3 : ∀ z, ((setTo P du).map WnT.cells ++ [z]).take (P.length + 1) = (setTo P du).map WnT.cells ++ [z] := fun z => List.take_of_length_le (by simp [hsl])
  have b4 : ((setTo P du).map WnT.cells).take P.length = (setTo P du).map WnT.cells := List.take_of_length_le (by simp [hsl])
  rw [hL, (pl_ne d sg0 (⟨i1, i2, i3, ph, i5, i6, true, du, sk⟩ : SgT) g hP).1, (pl_ne d sg0 (⟨i1, i2, i3, ph, i5, i6, true, du, sk⟩ : SgT) g hP).2, (pl_ne d sg0 r3 (g + 1) (ne_app (setTo P du) _)).1, (pl_ne d sg0 r3 (g + 1) (ne_app (setTo P du) _)).2, b1, b2]
  simp -implicitDefEqProofs only [go_sem, ↓reduceIte, ir_usufructref30_Play_L0, WnT.cells, SgT.cells, h6, htt, hp, hm, c3, h0, h1, h2, c1, c5, h3, w1, e7, e8, e9, e10, ias_ow2, lenA_ow2, a1, b3, b4, set_len, ro_step, ro_wn, gand_b, Bool.and_eq_true, Int.natCast_nonneg]
  try rfl
theorem tr100101 (r1 r2 r3 : SgT) (e1 e2 : Int) (c : CmT) (k1 : Int) (k2 : ByteArray) (k3 k4 k5 k6 k8 k9 : Int) (c1 : ¬ (ph = 0 ∧ e < du)) (hm : ¬ 1099511627776 ≤ du) (c3 :  now < du) (h0 : callP E f_usufructref14_Do [dA d, sA (⟨i1, i2, i3, ph, i5, i6, true, du, sk⟩ : SgT), vi 0, vi du] = some (.tup [sA (⟨k1, k2, k3, k4, k5, k6, false, k8, k9⟩ : SgT), vi 0])) (c4 : True) (h1 : callP E f_usufructref14_Do [dA d, sA (⟨k1, k2, k3, k4, k5, k6, false, k8, k9⟩ : SgT), vi 1, vi du] = some (.tup [sA r2, vi e2])) (c5 : ¬ e2 = 0) (P : List WnT) (hP : P ≠ []) (hPl : P.length ≤ 6000) (h2 : callP E f_usufructref14_May [dA d, sA (⟨k1, k2, k3, k4, k5, k6, false, k8, k9⟩ : SgT), vi du] = some (vb false)) : L (plE e (plO g P) now turn, plS d sg0 (⟨i1, i2, i3, ph, i5, i6, true, du, sk⟩ : SgT) g P) = L (plE e (plO g (setTo P du)) du ((turn + 1 : Nat) : Int), plS d sg0 (⟨k1, k2, k3, k4, k5, k6, false, k8, k9⟩ : SgT) g (setTo P du)) := by
  have h6 := wrap_succ (i := turn) (by omega)
  have htt : (turn : Int) < 5000 := by omega
  obtain ⟨w, e7, e8⟩ := set_map hP
  have hl : 0 < P.length := List.length_pos_iff.2 hP
  have e9 : IntKind.i64.wrap ((P.length : Int) - 1) = ((P.length - 1 : Nat) : Int) := by rw [IntWalk.i64_in _ (by omega)]; omega
  have e10 : P.length - 1 < P.length := by omega
  have hne1 : setTo P du ≠ [] := fun hh => by have := set_len P du; rw [hh] at this; simp at this; omega
  have hsl := set_len P du
  rw [hL, (pl_ne d sg0 (⟨i1, i2, i3, ph, i5, i6, true, du, sk⟩ : SgT) g hP).1, (pl_ne d sg0 (⟨i1, i2, i3, ph, i5, i6, true, du, sk⟩ : SgT) g hP).2, (pl_ne d sg0 (⟨k1, k2, k3, k4, k5, k6, false, k8, k9⟩ : SgT) g hne1).1, (pl_ne d sg0 (⟨k1, k2, k3, k4, k5, k6, false, k8, k9⟩ : SgT) g hne1).2, set_len]
  simp -implicitDefEqProofs only [go_sem, ↓reduceIte, ir_usufructref30_Play_L0, WnT.cells, SgT.cells, h6, htt, hp, hm, c3, h0, h1, h2, c1, c5, e7, e8, e9, e10, ias_ow2, lenA_ow2, ro_step, ro_wn, gand_b, Bool.and_eq_true, Int.natCast_nonneg]
  try rfl
theorem tr100110 (r1 r2 r3 : SgT) (e1 e2 : Int) (c : CmT) (k1 : Int) (k2 : ByteArray) (k3 k4 k5 k6 k8 k9 : Int) (c1 : ¬ (ph = 0 ∧ e < du)) (hm : ¬ 1099511627776 ≤ du) (c3 :  now < du) (h0 : callP E f_usufructref14_Do [dA d, sA (⟨i1, i2, i3, ph, i5, i6, o, du, sk⟩ : SgT), vi 0, vi du] = some (.tup [sA r1, vi 0])) (c4 : True) (h1 : callP E f_usufructref14_Do [dA d, sA r1, vi 1, vi du] = some (.tup [sA r2, vi e2])) (c5 : ¬ e2 = 0) (P : List WnT) (hP : P ≠ []) (hPl : P.length ≤ 6000) (c6 : ¬ (o = true ∧ r1.out = false)) (h2 : callP E f_usufructref14_May [dA d, sA r1, vi du] = some (vb true)) (h3 : callP E f_usufructref14_Emit [dA d, sA r1, vi du] = some (.tup [sA r3, cA c])) (w1 : IntKind.i64.wrap (r1.tries + 1) = r1.tries + 1) : L (plE e (plO g P) now turn, plS d sg0 (⟨i1, i2, i3, ph, i5, i6, o, du, sk⟩ : SgT) g P) = L (plE e (plO (g + 1) (P ++ [winS r1 du])) du ((turn + 1 : Nat) : Int), plS d sg0 r3 (g + 1) (P ++ [winS r1 du])) := by
  have h6 := wrap_succ (i := turn) (by omega)
  have htt : (turn : Int) < 5000 := by omega
  have a1 : (P.length + 1) * 40 ≤ 140737488355328 := by omega
  have b1 : (P ++ [winS r1 du]).length = P.length + 1 := by simp
  have b2 : (P ++ [winS r1 du]).map WnT.cells = P.map WnT.cells ++ [WnT.cells (winS r1 du)] := by simp
  have b3 : ∀ z, (P.map WnT.cells ++ [z]).take (P.length + 1) = P.map WnT.cells ++ [z] := fun z => List.take_of_length_le (by simp)
  have b4 : (P.map WnT.cells).take P.length = P.map WnT.cells := List.take_of_length_le (by simp)
  rw [hL, (pl_ne d sg0 (⟨i1, i2, i3, ph, i5, i6, o, du, sk⟩ : SgT) g hP).1, (pl_ne d sg0 (⟨i1, i2, i3, ph, i5, i6, o, du, sk⟩ : SgT) g hP).2, (pl_ne d sg0 r3 (g + 1) (ne_app P _)).1, (pl_ne d sg0 r3 (g + 1) (ne_app P _)).2, b1, b2]
  simp -implicitDefEqProofs only [go_sem, ↓reduceIte, ir_usufructref30_Play_L0, WnT.cells, SgT.cells, h6, htt, hp, hm, c3, h0, h1, h2, c1, c5, c6, h3, w1, a1, b3, b4, ro_step, ro_wn, gand_b, Bool.and_eq_true, Int.natCast_nonneg]
  try rfl
theorem tr100111 (r1 r2 r3 : SgT) (e1 e2 : Int) (c : CmT) (k1 : Int) (k2 : ByteArray) (k3 k4 k5 k6 k8 k9 : Int) (c1 : ¬ (ph = 0 ∧ e < du)) (hm : ¬ 1099511627776 ≤ du) (c3 :  now < du) (h0 : callP E f_usufructref14_Do [dA d, sA (⟨i1, i2, i3, ph, i5, i6, o, du, sk⟩ : SgT), vi 0, vi du] = some (.tup [sA r1, vi 0])) (c4 : True) (h1 : callP E f_usufructref14_Do [dA d, sA r1, vi 1, vi du] = some (.tup [sA r2, vi e2])) (c5 : ¬ e2 = 0) (P : List WnT) (hP : P ≠ []) (hPl : P.length ≤ 6000) (c6 : ¬ (o = true ∧ r1.out = false)) (h2 : callP E f_usufructref14_May [dA d, sA r1, vi du] = some (vb false)) : L (plE e (plO g P) now turn, plS d sg0 (⟨i1, i2, i3, ph, i5, i6, o, du, sk⟩ : SgT) g P) = L (plE e (plO g P) du ((turn + 1 : Nat) : Int), plS d sg0 r1 g P) := by
  have h6 := wrap_succ (i := turn) (by omega)
  have htt : (turn : Int) < 5000 := by omega
  rw [hL, (pl_ne d sg0 (⟨i1, i2, i3, ph, i5, i6, o, du, sk⟩ : SgT) g hP).1, (pl_ne d sg0 (⟨i1, i2, i3, ph, i5, i6, o, du, sk⟩ : SgT) g hP).2, (pl_ne d sg0 r1 g hP).1]
  simp -implicitDefEqProofs only [go_sem, ↓reduceIte, ir_usufructref30_Play_L0, WnT.cells, SgT.cells, h6, htt, hp, hm, c3, h0, h1, h2, c1, c5, c6, ro_step, ro_wn, gand_b, Bool.and_eq_true, Int.natCast_nonneg]
  try rfl
theorem tr101000 (r1 r2 r3 : SgT) (e1 e2 : Int) (c : CmT) (k1 : Int) (k2 : ByteArray) (k3 k4 k5 k6 k8 k9 : Int) (c1 : ¬ (ph = 0 ∧ e < du)) (hm : ¬ 1099511627776 ≤ du) (c3 :  now < du) (h0 : callP E f_usufructref14_Do [dA d, sA (⟨i1, i2, i3, ph, i5, i6, true, du, sk⟩ : SgT), vi 0, vi du] = some (.tup [sA r1, vi e1])) (c4 : ¬ e1 = 0) (h1 : callP E f_usufructref14_Do [dA d, sA (⟨i1, i2, i3, ph, i5, i6, true, du, sk⟩ : SgT), vi 1, vi du] = some (.tup [sA (⟨k1, k2, k3, k4, k5, k6, false, k8, k9⟩ : SgT), vi 0])) (c5 : True) (P : List WnT) (hP : P ≠ []) (hPl : P.length ≤ 6000) (h2 : callP E f_usufructref14_May [dA d, sA (⟨k1, k2, k3, k4, k5, k6, false, k8, k9⟩ : SgT), vi du] = some (vb true)) (h3 : callP E f_usufructref14_Emit [dA d, sA (⟨k1, k2, k3, k4, k5, k6, false, k8, k9⟩ : SgT), vi du] = some (.tup [sA r3, cA c])) (w1 : IntKind.i64.wrap ((⟨k1, k2, k3, k4, k5, k6, false, k8, k9⟩ : SgT).tries + 1) = (⟨k1, k2, k3, k4, k5, k6, false, k8, k9⟩ : SgT).tries + 1) : L (plE e (plO g P) now turn, plS d sg0 (⟨i1, i2, i3, ph, i5, i6, true, du, sk⟩ : SgT) g P) = L (plE e (plO (g + 1) ((setTo P du) ++ [winS (⟨k1, k2, k3, k4, k5, k6, false, k8, k9⟩ : SgT) du])) du ((turn + 1 : Nat) : Int), plS d sg0 r3 (g + 1) ((setTo P du) ++ [winS (⟨k1, k2, k3, k4, k5, k6, false, k8, k9⟩ : SgT) du])) := by
  have h6 := wrap_succ (i := turn) (by omega)
  have htt : (turn : Int) < 5000 := by omega
  obtain ⟨w, e7, e8⟩ := set_map hP
  have hl : 0 < P.length := List.length_pos_iff.2 hP
  have e9 : IntKind.i64.wrap ((P.length : Int) - 1) = ((P.length - 1 : Nat) : Int) := by rw [IntWalk.i64_in _ (by omega)]; omega
  have e10 : P.length - 1 < P.length := by omega
  have hne1 : setTo P du ≠ [] := fun hh => by have := set_len P du; rw [hh] at this; simp at this; omega
  have hsl := set_len P du
  have a1 : (P.length + 1) * 40 ≤ 140737488355328 := by omega
  have b1 : ((setTo P du) ++ [winS (⟨k1, k2, k3, k4, k5, k6, false, k8, k9⟩ : SgT) du]).length = P.length + 1 := by simp [hsl]
  have b2 : ((setTo P du) ++ [winS (⟨k1, k2, k3, k4, k5, k6, false, k8, k9⟩ : SgT) du]).map WnT.cells = (setTo P du).map WnT.cells ++ [WnT.cells (winS (⟨k1, k2, k3, k4, k5, k6, false, k8, k9⟩ : SgT) du)] := by simp
  have b3 : ∀ z, ((setTo P du).map WnT.cells ++ [z]).take (P.length + 1) = (setTo P du).map WnT.cells ++ [z] := fun z => List.take_of_length_le (by simp [hsl])
  have b4 : ((setTo P du).map WnT.cells).take P.length = (setTo P du).map WnT.cells := List.take_of_length_le (by simp [hsl])
  rw [hL, (pl_ne d sg0 (⟨i1, i2, i3, ph, i5, i6, true, du, sk⟩ : SgT) g hP).1, (pl_ne d sg0 (⟨i1, i2, i3, ph, i5, i6, true, du, sk⟩ : SgT) g hP).2, (pl_ne d sg0 r3 (g + 1) (ne_app (setTo P du) _)).1, (pl_ne d sg0 r3 (g + 1) (ne_app (setTo P du) _)).2, b1, b2]
  simp -implicitDefEqProofs only [go_sem, ↓reduceIte, ir_usufructref30_Play_L0, WnT.cells, SgT.cells, h6, htt, hp, hm, c3, h0, h1, h2, c1, c4, h3, w1, e7, e8, e9, e10, ias_ow2, lenA_ow2, a1, b3, b4, set_len, ro_step, ro_wn, gand_b, Bool.and_eq_true, Int.natCast_nonneg]
  try rfl
theorem tr101001 (r1 r2 r3 : SgT) (e1 e2 : Int) (c : CmT) (k1 : Int) (k2 : ByteArray) (k3 k4 k5 k6 k8 k9 : Int) (c1 : ¬ (ph = 0 ∧ e < du)) (hm : ¬ 1099511627776 ≤ du) (c3 :  now < du) (h0 : callP E f_usufructref14_Do [dA d, sA (⟨i1, i2, i3, ph, i5, i6, true, du, sk⟩ : SgT), vi 0, vi du] = some (.tup [sA r1, vi e1])) (c4 : ¬ e1 = 0) (h1 : callP E f_usufructref14_Do [dA d, sA (⟨i1, i2, i3, ph, i5, i6, true, du, sk⟩ : SgT), vi 1, vi du] = some (.tup [sA (⟨k1, k2, k3, k4, k5, k6, false, k8, k9⟩ : SgT), vi 0])) (c5 : True) (P : List WnT) (hP : P ≠ []) (hPl : P.length ≤ 6000) (h2 : callP E f_usufructref14_May [dA d, sA (⟨k1, k2, k3, k4, k5, k6, false, k8, k9⟩ : SgT), vi du] = some (vb false)) : L (plE e (plO g P) now turn, plS d sg0 (⟨i1, i2, i3, ph, i5, i6, true, du, sk⟩ : SgT) g P) = L (plE e (plO g (setTo P du)) du ((turn + 1 : Nat) : Int), plS d sg0 (⟨k1, k2, k3, k4, k5, k6, false, k8, k9⟩ : SgT) g (setTo P du)) := by
  have h6 := wrap_succ (i := turn) (by omega)
  have htt : (turn : Int) < 5000 := by omega
  obtain ⟨w, e7, e8⟩ := set_map hP
  have hl : 0 < P.length := List.length_pos_iff.2 hP
  have e9 : IntKind.i64.wrap ((P.length : Int) - 1) = ((P.length - 1 : Nat) : Int) := by rw [IntWalk.i64_in _ (by omega)]; omega
  have e10 : P.length - 1 < P.length := by omega
  have hne1 : setTo P du ≠ [] := fun hh => by have := set_len P du; rw [hh] at this; simp at this; omega
  have hsl := set_len P du
  rw [hL, (pl_ne d sg0 (⟨i1, i2, i3, ph, i5, i6, true, du, sk⟩ : SgT) g hP).1, (pl_ne d sg0 (⟨i1, i2, i3, ph, i5, i6, true, du, sk⟩ : SgT) g hP).2, (pl_ne d sg0 (⟨k1, k2, k3, k4, k5, k6, false, k8, k9⟩ : SgT) g hne1).1, (pl_ne d sg0 (⟨k1, k2, k3, k4, k5, k6, false, k8, k9⟩ : SgT) g hne1).2, set_len]
  simp -implicitDefEqProofs only [go_sem, ↓reduceIte, ir_usufructref30_Play_L0, WnT.cells, SgT.cells, h6, htt, hp, hm, c3, h0, h1, h2, c1, c4, e7, e8, e9, e10, ias_ow2, lenA_ow2, ro_step, ro_wn, gand_b, Bool.and_eq_true, Int.natCast_nonneg]
  try rfl
theorem tr101010 (r1 r2 r3 : SgT) (e1 e2 : Int) (c : CmT) (k1 : Int) (k2 : ByteArray) (k3 k4 k5 k6 k8 k9 : Int) (c1 : ¬ (ph = 0 ∧ e < du)) (hm : ¬ 1099511627776 ≤ du) (c3 :  now < du) (h0 : callP E f_usufructref14_Do [dA d, sA (⟨i1, i2, i3, ph, i5, i6, o, du, sk⟩ : SgT), vi 0, vi du] = some (.tup [sA r1, vi e1])) (c4 : ¬ e1 = 0) (h1 : callP E f_usufructref14_Do [dA d, sA (⟨i1, i2, i3, ph, i5, i6, o, du, sk⟩ : SgT), vi 1, vi du] = some (.tup [sA r2, vi 0])) (c5 : True) (P : List WnT) (hP : P ≠ []) (hPl : P.length ≤ 6000) (c6 : ¬ (o = true ∧ r2.out = false)) (h2 : callP E f_usufructref14_May [dA d, sA r2, vi du] = some (vb true)) (h3 : callP E f_usufructref14_Emit [dA d, sA r2, vi du] = some (.tup [sA r3, cA c])) (w1 : IntKind.i64.wrap (r2.tries + 1) = r2.tries + 1) : L (plE e (plO g P) now turn, plS d sg0 (⟨i1, i2, i3, ph, i5, i6, o, du, sk⟩ : SgT) g P) = L (plE e (plO (g + 1) (P ++ [winS r2 du])) du ((turn + 1 : Nat) : Int), plS d sg0 r3 (g + 1) (P ++ [winS r2 du])) := by
  have h6 := wrap_succ (i := turn) (by omega)
  have htt : (turn : Int) < 5000 := by omega
  have a1 : (P.length + 1) * 40 ≤ 140737488355328 := by omega
  have b1 : (P ++ [winS r2 du]).length = P.length + 1 := by simp
  have b2 : (P ++ [winS r2 du]).map WnT.cells = P.map WnT.cells ++ [WnT.cells (winS r2 du)] := by simp
  have b3 : ∀ z, (P.map WnT.cells ++ [z]).take (P.length + 1) = P.map WnT.cells ++ [z] := fun z => List.take_of_length_le (by simp)
  have b4 : (P.map WnT.cells).take P.length = P.map WnT.cells := List.take_of_length_le (by simp)
  rw [hL, (pl_ne d sg0 (⟨i1, i2, i3, ph, i5, i6, o, du, sk⟩ : SgT) g hP).1, (pl_ne d sg0 (⟨i1, i2, i3, ph, i5, i6, o, du, sk⟩ : SgT) g hP).2, (pl_ne d sg0 r3 (g + 1) (ne_app P _)).1, (pl_ne d sg0 r3 (g + 1) (ne_app P _)).2, b1, b2]
  simp -implicitDefEqProofs only [go_sem, ↓reduceIte, ir_usufructref30_Play_L0, WnT.cells, SgT.cells, h6, htt, hp, hm, c3, h0, h1, h2, c1, c4, c6, h3, w1, a1, b3, b4, ro_step, ro_wn, gand_b, Bool.and_eq_true, Int.natCast_nonneg]
  try rfl
theorem tr101011 (r1 r2 r3 : SgT) (e1 e2 : Int) (c : CmT) (k1 : Int) (k2 : ByteArray) (k3 k4 k5 k6 k8 k9 : Int) (c1 : ¬ (ph = 0 ∧ e < du)) (hm : ¬ 1099511627776 ≤ du) (c3 :  now < du) (h0 : callP E f_usufructref14_Do [dA d, sA (⟨i1, i2, i3, ph, i5, i6, o, du, sk⟩ : SgT), vi 0, vi du] = some (.tup [sA r1, vi e1])) (c4 : ¬ e1 = 0) (h1 : callP E f_usufructref14_Do [dA d, sA (⟨i1, i2, i3, ph, i5, i6, o, du, sk⟩ : SgT), vi 1, vi du] = some (.tup [sA r2, vi 0])) (c5 : True) (P : List WnT) (hP : P ≠ []) (hPl : P.length ≤ 6000) (c6 : ¬ (o = true ∧ r2.out = false)) (h2 : callP E f_usufructref14_May [dA d, sA r2, vi du] = some (vb false)) : L (plE e (plO g P) now turn, plS d sg0 (⟨i1, i2, i3, ph, i5, i6, o, du, sk⟩ : SgT) g P) = L (plE e (plO g P) du ((turn + 1 : Nat) : Int), plS d sg0 r2 g P) := by
  have h6 := wrap_succ (i := turn) (by omega)
  have htt : (turn : Int) < 5000 := by omega
  rw [hL, (pl_ne d sg0 (⟨i1, i2, i3, ph, i5, i6, o, du, sk⟩ : SgT) g hP).1, (pl_ne d sg0 (⟨i1, i2, i3, ph, i5, i6, o, du, sk⟩ : SgT) g hP).2, (pl_ne d sg0 r2 g hP).1]
  simp -implicitDefEqProofs only [go_sem, ↓reduceIte, ir_usufructref30_Play_L0, WnT.cells, SgT.cells, h6, htt, hp, hm, c3, h0, h1, h2, c1, c4, c6, ro_step, ro_wn, gand_b, Bool.and_eq_true, Int.natCast_nonneg]
  try rfl
theorem tr101110 (r1 r2 r3 : SgT) (e1 e2 : Int) (c : CmT) (k1 : Int) (k2 : ByteArray) (k3 k4 k5 k6 k8 k9 : Int) (c1 : ¬ (ph = 0 ∧ e < du)) (hm : ¬ 1099511627776 ≤ du) (c3 :  now < du) (h0 : callP E f_usufructref14_Do [dA d, sA (⟨i1, i2, i3, ph, i5, i6, o, du, sk⟩ : SgT), vi 0, vi du] = some (.tup [sA r1, vi e1])) (c4 : ¬ e1 = 0) (h1 : callP E f_usufructref14_Do [dA d, sA (⟨i1, i2, i3, ph, i5, i6, o, du, sk⟩ : SgT), vi 1, vi du] = some (.tup [sA r2, vi e2])) (c5 : ¬ e2 = 0) (P : List WnT) (hP : P ≠ []) (hPl : P.length ≤ 6000) (c6 : ¬ (o = true ∧ (⟨i1, i2, i3, ph, i5, i6, o, du, sk⟩ : SgT).out = false)) (h2 : callP E f_usufructref14_May [dA d, sA (⟨i1, i2, i3, ph, i5, i6, o, du, sk⟩ : SgT), vi du] = some (vb true)) (h3 : callP E f_usufructref14_Emit [dA d, sA (⟨i1, i2, i3, ph, i5, i6, o, du, sk⟩ : SgT), vi du] = some (.tup [sA r3, cA c])) (w1 : IntKind.i64.wrap ((⟨i1, i2, i3, ph, i5, i6, o, du, sk⟩ : SgT).tries + 1) = (⟨i1, i2, i3, ph, i5, i6, o, du, sk⟩ : SgT).tries + 1) : L (plE e (plO g P) now turn, plS d sg0 (⟨i1, i2, i3, ph, i5, i6, o, du, sk⟩ : SgT) g P) = L (plE e (plO (g + 1) (P ++ [winS (⟨i1, i2, i3, ph, i5, i6, o, du, sk⟩ : SgT) du])) du ((turn + 1 : Nat) : Int), plS d sg0 r3 (g + 1) (P ++ [winS (⟨i1, i2, i3, ph, i5, i6, o, du, sk⟩ : SgT) du])) := by
  have h6 := wrap_succ (i := turn) (by omega)
  have htt : (turn : Int) < 5000 := by omega
  have a1 : (P.length + 1) * 40 ≤ 140737488355328 := by omega
  have b1 : (P ++ [winS (⟨i1, i2, i3, ph, i5, i6, o, du, sk⟩ : SgT) du]).length = P.length + 1 := by simp
  have b2 : (P ++ [winS (⟨i1, i2, i3, ph, i5, i6, o, du, sk⟩ : SgT) du]).map WnT.cells = P.map WnT.cells ++ [WnT.cells (winS (⟨i1, i2, i3, ph, i5, i6, o, du, sk⟩ : SgT) du)] := by simp
  have b3 : ∀ z, (P.map WnT.cells ++ [z]).take (P.length + 1) = P.map WnT.cells ++ [z] := fun z => List.take_of_length_le (by simp)
  have b4 : (P.map WnT.cells).take P.length = P.map WnT.cells := List.take_of_length_le (by simp)
  rw [hL, (pl_ne d sg0 (⟨i1, i2, i3, ph, i5, i6, o, du, sk⟩ : SgT) g hP).1, (pl_ne d sg0 (⟨i1, i2, i3, ph, i5, i6, o, du, sk⟩ : SgT) g hP).2, (pl_ne d sg0 r3 (g + 1) (ne_app P _)).1, (pl_ne d sg0 r3 (g + 1) (ne_app P _)).2, b1, b2]
  simp -implicitDefEqProofs only [go_sem, ↓reduceIte, ir_usufructref30_Play_L0, WnT.cells, SgT.cells, h6, htt, hp, hm, c3, h0, h1, h2, c1, c4, c5, c6, h3, w1, a1, b3, b4, ro_step, ro_wn, gand_b, Bool.and_eq_true, Int.natCast_nonneg]
  try rfl
theorem tr101111 (r1 r2 r3 : SgT) (e1 e2 : Int) (c : CmT) (k1 : Int) (k2 : ByteArray) (k3 k4 k5 k6 k8 k9 : Int) (c1 : ¬ (ph = 0 ∧ e < du)) (hm : ¬ 1099511627776 ≤ du) (c3 :  now < du) (h0 : callP E f_usufructref14_Do [dA d, sA (⟨i1, i2, i3, ph, i5, i6, o, du, sk⟩ : SgT), vi 0, vi du] = some (.tup [sA r1, vi e1])) (c4 : ¬ e1 = 0) (h1 : callP E f_usufructref14_Do [dA d, sA (⟨i1, i2, i3, ph, i5, i6, o, du, sk⟩ : SgT), vi 1, vi du] = some (.tup [sA r2, vi e2])) (c5 : ¬ e2 = 0) (P : List WnT) (hP : P ≠ []) (hPl : P.length ≤ 6000) (c6 : ¬ (o = true ∧ (⟨i1, i2, i3, ph, i5, i6, o, du, sk⟩ : SgT).out = false)) (h2 : callP E f_usufructref14_May [dA d, sA (⟨i1, i2, i3, ph, i5, i6, o, du, sk⟩ : SgT), vi du] = some (vb false)) : L (plE e (plO g P) now turn, plS d sg0 (⟨i1, i2, i3, ph, i5, i6, o, du, sk⟩ : SgT) g P) = L (plE e (plO g P) du ((turn + 1 : Nat) : Int), plS d sg0 (⟨i1, i2, i3, ph, i5, i6, o, du, sk⟩ : SgT) g P) := by
  have h6 := wrap_succ (i := turn) (by omega)
  have htt : (turn : Int) < 5000 := by omega
  rw [hL, (pl_ne d sg0 (⟨i1, i2, i3, ph, i5, i6, o, du, sk⟩ : SgT) g hP).1, (pl_ne d sg0 (⟨i1, i2, i3, ph, i5, i6, o, du, sk⟩ : SgT) g hP).2]
  simp -implicitDefEqProofs only [go_sem, ↓reduceIte, ir_usufructref30_Play_L0, WnT.cells, SgT.cells, h6, htt, hp, hm, c3, h0, h1, h2, c1, c4, c5, c6, ro_step, ro_wn, gand_b, Bool.and_eq_true, Int.natCast_nonneg]
  try rfl
theorem tr110000 (r1 r2 r3 : SgT) (e1 e2 : Int) (c : CmT) (k1 : Int) (k2 : ByteArray) (k3 k4 k5 k6 k8 k9 : Int) (c1 : ¬ (ph = 0 ∧ e < du)) (hm : ¬ 1099511627776 ≤ du) (c3 : ¬ now < du) (h0 : callP E f_usufructref14_Do [dA d, sA (⟨i1, i2, i3, ph, i5, i6, true, du, sk⟩ : SgT), vi 0, vi now] = some (.tup [sA r1, vi 0])) (c4 : True) (h1 : callP E f_usufructref14_Do [dA d, sA r1, vi 1, vi now] = some (.tup [sA (⟨k1, k2, k3, k4, k5, k6, false, k8, k9⟩ : SgT), vi 0])) (c5 : True) (P : List WnT) (hP : P ≠ []) (hPl : P.length ≤ 6000) (h2 : callP E f_usufructref14_May [dA d, sA (⟨k1, k2, k3, k4, k5, k6, false, k8, k9⟩ : SgT), vi now] = some (vb true)) (h3 : callP E f_usufructref14_Emit [dA d, sA (⟨k1, k2, k3, k4, k5, k6, false, k8, k9⟩ : SgT), vi now] = some (.tup [sA r3, cA c])) (w1 : IntKind.i64.wrap ((⟨k1, k2, k3, k4, k5, k6, false, k8, k9⟩ : SgT).tries + 1) = (⟨k1, k2, k3, k4, k5, k6, false, k8, k9⟩ : SgT).tries + 1) : L (plE e (plO g P) now turn, plS d sg0 (⟨i1, i2, i3, ph, i5, i6, true, du, sk⟩ : SgT) g P) = L (plE e (plO (g + 1) ((setTo P now) ++ [winS (⟨k1, k2, k3, k4, k5, k6, false, k8, k9⟩ : SgT) now])) now ((turn + 1 : Nat) : Int), plS d sg0 r3 (g + 1) ((setTo P now) ++ [winS (⟨k1, k2, k3, k4, k5, k6, false, k8, k9⟩ : SgT) now])) := by
  have h6 := wrap_succ (i := turn) (by omega)
  have htt : (turn : Int) < 5000 := by omega
  obtain ⟨w, e7, e8⟩ := set_map hP
  have hl : 0 < P.length := List.length_pos_iff.2 hP
  have e9 : IntKind.i64.wrap ((P.length : Int) - 1) = ((P.length - 1 : Nat) : Int) := by rw [IntWalk.i64_in _ (by omega)]; omega
  have e10 : P.length - 1 < P.length := by omega
  have hne1 : setTo P now ≠ [] := fun hh => by have := set_len P now; rw [hh] at this; simp at this; omega
  have hsl := set_len P now
  have a1 : (P.length + 1) * 40 ≤ 140737488355328 := by omega
  have b1 : ((setTo P now) ++ [winS (⟨k1, k2, k3, k4, k5, k6, false, k8, k9⟩ : SgT) now]).length = P.length + 1 := by simp [hsl]
  have b2 : ((setTo P now) ++ [winS (⟨k1, k2, k3, k4, k5, k6, false, k8, k9⟩ : SgT) now]).map WnT.cells = (setTo P now).map WnT.cells ++ [WnT.cells (winS (⟨k1, k2, k3, k4, k5, k6, false, k8, k9⟩ : SgT) now)] := by simp
  have b3 : ∀ z, ((setTo P now).map WnT.cells ++ [z]).take (P.length + 1) = (setTo P now).map WnT.cells ++ [z] := fun z => List.take_of_length_le (by simp [hsl])
  have b4 : ((setTo P now).map WnT.cells).take P.length = (setTo P now).map WnT.cells := List.take_of_length_le (by simp [hsl])
  rw [hL, (pl_ne d sg0 (⟨i1, i2, i3, ph, i5, i6, true, du, sk⟩ : SgT) g hP).1, (pl_ne d sg0 (⟨i1, i2, i3, ph, i5, i6, true, du, sk⟩ : SgT) g hP).2, (pl_ne d sg0 r3 (g + 1) (ne_app (setTo P now) _)).1, (pl_ne d sg0 r3 (g + 1) (ne_app (setTo P now) _)).2, b1, b2]
  simp -implicitDefEqProofs only [go_sem, ↓reduceIte, ir_usufructref30_Play_L0, WnT.cells, SgT.cells, h6, htt, hp, hm, c3, h0, h1, h2, c1, h3, w1, e7, e8, e9, e10, ias_ow2, lenA_ow2, a1, b3, b4, set_len, ro_step, ro_wn, gand_b, Bool.and_eq_true, Int.natCast_nonneg]
  try rfl
theorem tr110001 (r1 r2 r3 : SgT) (e1 e2 : Int) (c : CmT) (k1 : Int) (k2 : ByteArray) (k3 k4 k5 k6 k8 k9 : Int) (c1 : ¬ (ph = 0 ∧ e < du)) (hm : ¬ 1099511627776 ≤ du) (c3 : ¬ now < du) (h0 : callP E f_usufructref14_Do [dA d, sA (⟨i1, i2, i3, ph, i5, i6, true, du, sk⟩ : SgT), vi 0, vi now] = some (.tup [sA r1, vi 0])) (c4 : True) (h1 : callP E f_usufructref14_Do [dA d, sA r1, vi 1, vi now] = some (.tup [sA (⟨k1, k2, k3, k4, k5, k6, false, k8, k9⟩ : SgT), vi 0])) (c5 : True) (P : List WnT) (hP : P ≠ []) (hPl : P.length ≤ 6000) (h2 : callP E f_usufructref14_May [dA d, sA (⟨k1, k2, k3, k4, k5, k6, false, k8, k9⟩ : SgT), vi now] = some (vb false)) : L (plE e (plO g P) now turn, plS d sg0 (⟨i1, i2, i3, ph, i5, i6, true, du, sk⟩ : SgT) g P) = L (plE e (plO g (setTo P now)) now ((turn + 1 : Nat) : Int), plS d sg0 (⟨k1, k2, k3, k4, k5, k6, false, k8, k9⟩ : SgT) g (setTo P now)) := by
  have h6 := wrap_succ (i := turn) (by omega)
  have htt : (turn : Int) < 5000 := by omega
  obtain ⟨w, e7, e8⟩ := set_map hP
  have hl : 0 < P.length := List.length_pos_iff.2 hP
  have e9 : IntKind.i64.wrap ((P.length : Int) - 1) = ((P.length - 1 : Nat) : Int) := by rw [IntWalk.i64_in _ (by omega)]; omega
  have e10 : P.length - 1 < P.length := by omega
  have hne1 : setTo P now ≠ [] := fun hh => by have := set_len P now; rw [hh] at this; simp at this; omega
  have hsl := set_len P now
  rw [hL, (pl_ne d sg0 (⟨i1, i2, i3, ph, i5, i6, true, du, sk⟩ : SgT) g hP).1, (pl_ne d sg0 (⟨i1, i2, i3, ph, i5, i6, true, du, sk⟩ : SgT) g hP).2, (pl_ne d sg0 (⟨k1, k2, k3, k4, k5, k6, false, k8, k9⟩ : SgT) g hne1).1, (pl_ne d sg0 (⟨k1, k2, k3, k4, k5, k6, false, k8, k9⟩ : SgT) g hne1).2, set_len]
  simp -implicitDefEqProofs only [go_sem, ↓reduceIte, ir_usufructref30_Play_L0, WnT.cells, SgT.cells, h6, htt, hp, hm, c3, h0, h1, h2, c1, e7, e8, e9, e10, ias_ow2, lenA_ow2, ro_step, ro_wn, gand_b, Bool.and_eq_true, Int.natCast_nonneg]
  try rfl
theorem tr110010 (r1 r2 r3 : SgT) (e1 e2 : Int) (c : CmT) (k1 : Int) (k2 : ByteArray) (k3 k4 k5 k6 k8 k9 : Int) (c1 : ¬ (ph = 0 ∧ e < du)) (hm : ¬ 1099511627776 ≤ du) (c3 : ¬ now < du) (h0 : callP E f_usufructref14_Do [dA d, sA (⟨i1, i2, i3, ph, i5, i6, o, du, sk⟩ : SgT), vi 0, vi now] = some (.tup [sA r1, vi 0])) (c4 : True) (h1 : callP E f_usufructref14_Do [dA d, sA r1, vi 1, vi now] = some (.tup [sA r2, vi 0])) (c5 : True) (P : List WnT) (hP : P ≠ []) (hPl : P.length ≤ 6000) (c6 : ¬ (o = true ∧ r2.out = false)) (h2 : callP E f_usufructref14_May [dA d, sA r2, vi now] = some (vb true)) (h3 : callP E f_usufructref14_Emit [dA d, sA r2, vi now] = some (.tup [sA r3, cA c])) (w1 : IntKind.i64.wrap (r2.tries + 1) = r2.tries + 1) : L (plE e (plO g P) now turn, plS d sg0 (⟨i1, i2, i3, ph, i5, i6, o, du, sk⟩ : SgT) g P) = L (plE e (plO (g + 1) (P ++ [winS r2 now])) now ((turn + 1 : Nat) : Int), plS d sg0 r3 (g + 1) (P ++ [winS r2 now])) := by
  have h6 := wrap_succ (i := turn) (by omega)
  have htt : (turn : Int) < 5000 := by omega
  have a1 : (P.length + 1) * 40 ≤ 140737488355328 := by omega
  have b1 : (P ++ [winS r2 now]).length = P.length + 1 := by simp
  have b2 : (P ++ [winS r2 now]).map WnT.cells = P.map WnT.cells ++ [WnT.cells (winS r2 now)] := by simp
  have b3 : ∀ z, (P.map WnT.cells ++ [z]).take (P.length + 1) = P.map WnT.cells ++ [z] := fun z => List.take_of_length_le (by simp)
  have b4 : (P.map WnT.cells).take P.length = P.map WnT.cells := List.take_of_length_le (by simp)
  rw [hL, (pl_ne d sg0 (⟨i1, i2, i3, ph, i5, i6, o, du, sk⟩ : SgT) g hP).1, (pl_ne d sg0 (⟨i1, i2, i3, ph, i5, i6, o, du, sk⟩ : SgT) g hP).2, (pl_ne d sg0 r3 (g + 1) (ne_app P _)).1, (pl_ne d sg0 r3 (g + 1) (ne_app P _)).2, b1, b2]
  simp -implicitDefEqProofs only [go_sem, ↓reduceIte, ir_usufructref30_Play_L0, WnT.cells, SgT.cells, h6, htt, hp, hm, c3, h0, h1, h2, c1, c6, h3, w1, a1, b3, b4, ro_step, ro_wn, gand_b, Bool.and_eq_true, Int.natCast_nonneg]
  try rfl
theorem tr110011 (r1 r2 r3 : SgT) (e1 e2 : Int) (c : CmT) (k1 : Int) (k2 : ByteArray) (k3 k4 k5 k6 k8 k9 : Int) (c1 : ¬ (ph = 0 ∧ e < du)) (hm : ¬ 1099511627776 ≤ du) (c3 : ¬ now < du) (h0 : callP E f_usufructref14_Do [dA d, sA (⟨i1, i2, i3, ph, i5, i6, o, du, sk⟩ : SgT), vi 0, vi now] = some (.tup [sA r1, vi 0])) (c4 : True) (h1 : callP E f_usufructref14_Do [dA d, sA r1, vi 1, vi now] = some (.tup [sA r2, vi 0])) (c5 : True) (P : List WnT) (hP : P ≠ []) (hPl : P.length ≤ 6000) (c6 : ¬ (o = true ∧ r2.out = false)) (h2 : callP E f_usufructref14_May [dA d, sA r2, vi now] = some (vb false)) : L (plE e (plO g P) now turn, plS d sg0 (⟨i1, i2, i3, ph, i5, i6, o, du, sk⟩ : SgT) g P) = L (plE e (plO g P) now ((turn + 1 : Nat) : Int), plS d sg0 r2 g P) := by
  have h6 := wrap_succ (i := turn) (by omega)
  have htt : (turn : Int) < 5000 := by omega
  rw [hL, (pl_ne d sg0 (⟨i1, i2, i3, ph, i5, i6, o, du, sk⟩ : SgT) g hP).1, (pl_ne d sg0 (⟨i1, i2, i3, ph, i5, i6, o, du, sk⟩ : SgT) g hP).2, (pl_ne d sg0 r2 g hP).1]
  simp -implicitDefEqProofs only [go_sem, ↓reduceIte, ir_usufructref30_Play_L0, WnT.cells, SgT.cells, h6, htt, hp, hm, c3, h0, h1, h2, c1, c6, ro_step, ro_wn, gand_b, Bool.and_eq_true, Int.natCast_nonneg]
  try rfl
theorem tr110100 (r1 r2 r3 : SgT) (e1 e2 : Int) (c : CmT) (k1 : Int) (k2 : ByteArray) (k3 k4 k5 k6 k8 k9 : Int) (c1 : ¬ (ph = 0 ∧ e < du)) (hm : ¬ 1099511627776 ≤ du) (c3 : ¬ now < du) (h0 : callP E f_usufructref14_Do [dA d, sA (⟨i1, i2, i3, ph, i5, i6, true, du, sk⟩ : SgT), vi 0, vi now] = some (.tup [sA (⟨k1, k2, k3, k4, k5, k6, false, k8, k9⟩ : SgT), vi 0])) (c4 : True) (h1 : callP E f_usufructref14_Do [dA d, sA (⟨k1, k2, k3, k4, k5, k6, false, k8, k9⟩ : SgT), vi 1, vi now] = some (.tup [sA r2, vi e2])) (c5 : ¬ e2 = 0) (P : List WnT) (hP : P ≠ []) (hPl : P.length ≤ 6000) (h2 : callP E f_usufructref14_May [dA d, sA (⟨k1, k2, k3, k4, k5, k6, false, k8, k9⟩ : SgT), vi now] = some (vb true)) (h3 : callP E f_usufructref14_Emit [dA d, sA (⟨k1, k2, k3, k4, k5, k6, false, k8, k9⟩ : SgT), vi now] = some (.tup [sA r3, cA c])) (w1 : IntKind.i64.wrap ((⟨k1, k2, k3, k4, k5, k6, false, k8, k9⟩ : SgT).tries + 1) = (⟨k1, k2, k3, k4, k5, k6, false, k8, k9⟩ : SgT).tries + 1) : L (plE e (plO g P) now turn, plS d sg0 (⟨i1, i2, i3, ph, i5, i6, true, du, sk⟩ : SgT) g P) = L (plE e (plO (g + 1) ((setTo P now) ++ [winS (⟨k1, k2, k3, k4, k5, k6, false, k8, k9⟩ : SgT) now])) now ((turn + 1 : Nat) : Int), plS d sg0 r3 (g + 1) ((setTo P now) ++ [winS (⟨k1, k2, k3, k4, k5, k6, false, k8, k9⟩ : SgT) now])) := by
  have h6 := wrap_succ (i := turn) (by omega)
  have htt : (turn : Int) < 5000 := by omega
  obtain ⟨w, e7, e8⟩ := set_map hP
  have hl : 0 < P.length := List.length_pos_iff.2 hP
  have e9 : IntKind.i64.wrap ((P.length : Int) - 1) = ((P.length - 1 : Nat) : Int) := by rw [IntWalk.i64_in _ (by omega)]; omega
  have e10 : P.length - 1 < P.length := by omega
  have hne1 : setTo P now ≠ [] := fun hh => by have := set_len P now; rw [hh] at this; simp at this; omega
  have hsl := set_len P now
  have a1 : (P.length + 1) * 40 ≤ 140737488355328 := by omega
  have b1 : ((setTo P now) ++ [winS (⟨k1, k2, k3, k4, k5, k6, false, k8, k9⟩ : SgT) now]).length = P.length + 1 := by simp [hsl]
  have b2 : ((setTo P now) ++ [winS (⟨k1, k2, k3, k4, k5, k6, false, k8, k9⟩ : SgT) now]).map WnT.cells = (setTo P now).map WnT.cells ++ [WnT.cells (winS (⟨k1, k2, k3, k4, k5, k6, false, k8, k9⟩ : SgT) now)] := by simp
  have b3 : ∀ z, ((setTo P now).map WnT.cells ++ [z]).take (P.length + 1) = (setTo P now).map WnT.cells ++ [z] := fun z => List.take_of_length_le (by simp [hsl])
  have b4 : ((setTo P now).map WnT.cells).take P.length = (setTo P now).map WnT.cells := List.take_of_length_le (by simp [hsl])
  rw [hL, (pl_ne d sg0 (⟨i1, i2, i3, ph, i5, i6, true, du, sk⟩ : SgT) g hP).1, (pl_ne d sg0 (⟨i1, i2, i3, ph, i5, i6, true, du, sk⟩ : SgT) g hP).2, (pl_ne d sg0 r3 (g + 1) (ne_app (setTo P now) _)).1, (pl_ne d sg0 r3 (g + 1) (ne_app (setTo P now) _)).2, b1, b2]
  simp -implicitDefEqProofs only [go_sem, ↓reduceIte, ir_usufructref30_Play_L0, WnT.cells, SgT.cells, h6, htt, hp, hm, c3, h0, h1, h2, c1, c5, h3, w1, e7, e8, e9, e10, ias_ow2, lenA_ow2, a1, b3, b4, set_len, ro_step, ro_wn, gand_b, Bool.and_eq_true, Int.natCast_nonneg]
  try rfl
theorem tr110101 (r1 r2 r3 : SgT) (e1 e2 : Int) (c : CmT) (k1 : Int) (k2 : ByteArray) (k3 k4 k5 k6 k8 k9 : Int) (c1 : ¬ (ph = 0 ∧ e < du)) (hm : ¬ 1099511627776 ≤ du) (c3 : ¬ now < du) (h0 : callP E f_usufructref14_Do [dA d, sA (⟨i1, i2, i3, ph, i5, i6, true, du, sk⟩ : SgT), vi 0, vi now] = some (.tup [sA (⟨k1, k2, k3, k4, k5, k6, false, k8, k9⟩ : SgT), vi 0])) (c4 : True) (h1 : callP E f_usufructref14_Do [dA d, sA (⟨k1, k2, k3, k4, k5, k6, false, k8, k9⟩ : SgT), vi 1, vi now] = some (.tup [sA r2, vi e2])) (c5 : ¬ e2 = 0) (P : List WnT) (hP : P ≠ []) (hPl : P.length ≤ 6000) (h2 : callP E f_usufructref14_May [dA d, sA (⟨k1, k2, k3, k4, k5, k6, false, k8, k9⟩ : SgT), vi now] = some (vb false)) : L (plE e (plO g P) now turn, plS d sg0 (⟨i1, i2, i3, ph, i5, i6, true, du, sk⟩ : SgT) g P) = L (plE e (plO g (setTo P now)) now ((turn + 1 : Nat) : Int), plS d sg0 (⟨k1, k2, k3, k4, k5, k6, false, k8, k9⟩ : SgT) g (setTo P now)) := by
  have h6 := wrap_succ (i := turn) (by omega)
  have htt : (turn : Int) < 5000 := by omega
  obtain ⟨w, e7, e8⟩ := set_map hP
  have hl : 0 < P.length := List.length_pos_iff.2 hP
  have e9 : IntKind.i64.wrap ((P.length : Int) - 1) = ((P.length - 1 : Nat) : Int) := by rw [IntWalk.i64_in _ (by omega)]; omega
  have e10 : P.length - 1 < P.length := by omega
  have hne1 : setTo P now ≠ [] := fun hh => by have := set_len P now; rw [hh] at this; simp at this; omega
  have hsl := set_len P now
  rw [hL, (pl_ne d sg0 (⟨i1, i2, i3, ph, i5, i6, true, du, sk⟩ : SgT) g hP).1, (pl_ne d sg0 (⟨i1, i2, i3, ph, i5, i6, true, du, sk⟩ : SgT) g hP).2, (pl_ne d sg0 (⟨k1, k2, k3, k4, k5, k6, false, k8, k9⟩ : SgT) g hne1).1, (pl_ne d sg0 (⟨k1, k2, k3, k4, k5, k6, false, k8, k9⟩ : SgT) g hne1).2, set_len]
  simp -implicitDefEqProofs only [go_sem, ↓reduceIte, ir_usufructref30_Play_L0, WnT.cells, SgT.cells, h6, htt, hp, hm, c3, h0, h1, h2, c1, c5, e7, e8, e9, e10, ias_ow2, lenA_ow2, ro_step, ro_wn, gand_b, Bool.and_eq_true, Int.natCast_nonneg]
  try rfl
theorem tr110110 (r1 r2 r3 : SgT) (e1 e2 : Int) (c : CmT) (k1 : Int) (k2 : ByteArray) (k3 k4 k5 k6 k8 k9 : Int) (c1 : ¬ (ph = 0 ∧ e < du)) (hm : ¬ 1099511627776 ≤ du) (c3 : ¬ now < du) (h0 : callP E f_usufructref14_Do [dA d, sA (⟨i1, i2, i3, ph, i5, i6, o, du, sk⟩ : SgT), vi 0, vi now] = some (.tup [sA r1, vi 0])) (c4 : True) (h1 : callP E f_usufructref14_Do [dA d, sA r1, vi 1, vi now] = some (.tup [sA r2, vi e2])) (c5 : ¬ e2 = 0) (P : List WnT) (hP : P ≠ []) (hPl : P.length ≤ 6000) (c6 : ¬ (o = true ∧ r1.out = false)) (h2 : callP E f_usufructref14_May [dA d, sA r1, vi now] = some (vb true)) (h3 : callP E f_usufructref14_Emit [dA d, sA r1, vi now] = some (.tup [sA r3, cA c])) (w1 : IntKind.i64.wrap (r1.tries + 1) = r1.tries + 1) : L (plE e (plO g P) now turn, plS d sg0 (⟨i1, i2, i3, ph, i5, i6, o, du, sk⟩ : SgT) g P) = L (plE e (plO (g + 1) (P ++ [winS r1 now])) now ((turn + 1 : Nat) : Int), plS d sg0 r3 (g + 1) (P ++ [winS r1 now])) := by
  have h6 := wrap_succ (i := turn) (by omega)
  have htt : (turn : Int) < 5000 := by omega
  have a1 : (P.length + 1) * 40 ≤ 140737488355328 := by omega
  have b1 : (P ++ [winS r1 now]).length = P.length + 1 := by simp
  have b2 : (P ++ [winS r1 now]).map WnT.cells = P.map WnT.cells ++ [WnT.cells (winS r1 now)] := by simp
  have b3 : ∀ z, (P.map WnT.cells ++ [z]).take (P.length + 1) = P.map WnT.cells ++ [z] := fun z => List.take_of_length_le (by simp)
  have b4 : (P.map WnT.cells).take P.length = P.map WnT.cells := List.take_of_length_le (by simp)
  rw [hL, (pl_ne d sg0 (⟨i1, i2, i3, ph, i5, i6, o, du, sk⟩ : SgT) g hP).1, (pl_ne d sg0 (⟨i1, i2, i3, ph, i5, i6, o, du, sk⟩ : SgT) g hP).2, (pl_ne d sg0 r3 (g + 1) (ne_app P _)).1, (pl_ne d sg0 r3 (g + 1) (ne_app P _)).2, b1, b2]
  simp -implicitDefEqProofs only [go_sem, ↓reduceIte, ir_usufructref30_Play_L0, WnT.cells, SgT.cells, h6, htt, hp, hm, c3, h0, h1, h2, c1, c5, c6, h3, w1, a1, b3, b4, ro_step, ro_wn, gand_b, Bool.and_eq_true, Int.natCast_nonneg]
  try rfl
theorem tr110111 (r1 r2 r3 : SgT) (e1 e2 : Int) (c : CmT) (k1 : Int) (k2 : ByteArray) (k3 k4 k5 k6 k8 k9 : Int) (c1 : ¬ (ph = 0 ∧ e < du)) (hm : ¬ 1099511627776 ≤ du) (c3 : ¬ now < du) (h0 : callP E f_usufructref14_Do [dA d, sA (⟨i1, i2, i3, ph, i5, i6, o, du, sk⟩ : SgT), vi 0, vi now] = some (.tup [sA r1, vi 0])) (c4 : True) (h1 : callP E f_usufructref14_Do [dA d, sA r1, vi 1, vi now] = some (.tup [sA r2, vi e2])) (c5 : ¬ e2 = 0) (P : List WnT) (hP : P ≠ []) (hPl : P.length ≤ 6000) (c6 : ¬ (o = true ∧ r1.out = false)) (h2 : callP E f_usufructref14_May [dA d, sA r1, vi now] = some (vb false)) : L (plE e (plO g P) now turn, plS d sg0 (⟨i1, i2, i3, ph, i5, i6, o, du, sk⟩ : SgT) g P) = L (plE e (plO g P) now ((turn + 1 : Nat) : Int), plS d sg0 r1 g P) := by
  have h6 := wrap_succ (i := turn) (by omega)
  have htt : (turn : Int) < 5000 := by omega
  rw [hL, (pl_ne d sg0 (⟨i1, i2, i3, ph, i5, i6, o, du, sk⟩ : SgT) g hP).1, (pl_ne d sg0 (⟨i1, i2, i3, ph, i5, i6, o, du, sk⟩ : SgT) g hP).2, (pl_ne d sg0 r1 g hP).1]
  simp -implicitDefEqProofs only [go_sem, ↓reduceIte, ir_usufructref30_Play_L0, WnT.cells, SgT.cells, h6, htt, hp, hm, c3, h0, h1, h2, c1, c5, c6, ro_step, ro_wn, gand_b, Bool.and_eq_true, Int.natCast_nonneg]
  try rfl
theorem tr111000 (r1 r2 r3 : SgT) (e1 e2 : Int) (c : CmT) (k1 : Int) (k2 : ByteArray) (k3 k4 k5 k6 k8 k9 : Int) (c1 : ¬ (ph = 0 ∧ e < du)) (hm : ¬ 1099511627776 ≤ du) (c3 : ¬ now < du) (h0 : callP E f_usufructref14_Do [dA d, sA (⟨i1, i2, i3, ph, i5, i6, true, du, sk⟩ : SgT), vi 0, vi now] = some (.tup [sA r1, vi e1])) (c4 : ¬ e1 = 0) (h1 : callP E f_usufructref14_Do [dA d, sA (⟨i1, i2, i3, ph, i5, i6, true, du, sk⟩ : SgT), vi 1, vi now] = some (.tup [sA (⟨k1, k2, k3, k4, k5, k6, false, k8, k9⟩ : SgT), vi 0])) (c5 : True) (P : List WnT) (hP : P ≠ []) (hPl : P.length ≤ 6000) (h2 : callP E f_usufructref14_May [dA d, sA (⟨k1, k2, k3, k4, k5, k6, false, k8, k9⟩ : SgT), vi now] = some (vb true)) (h3 : callP E f_usufructref14_Emit [dA d, sA (⟨k1, k2, k3, k4, k5, k6, false, k8, k9⟩ : SgT), vi now] = some (.tup [sA r3, cA c])) (w1 : IntKind.i64.wrap ((⟨k1, k2, k3, k4, k5, k6, false, k8, k9⟩ : SgT).tries + 1) = (⟨k1, k2, k3, k4, k5, k6, false, k8, k9⟩ : SgT).tries + 1) : L (plE e (plO g P) now turn, plS d sg0 (⟨i1, i2, i3, ph, i5, i6, true, du, sk⟩ : SgT) g P) = L (plE e (plO (g + 1) ((setTo P now) ++ [winS (⟨k1, k2, k3, k4, k5, k6, false, k8, k9⟩ : SgT) now])) now ((turn + 1 : Nat) : Int), plS d sg0 r3 (g + 1) ((setTo P now) ++ [winS (⟨k1, k2, k3, k4, k5, k6, false, k8, k9⟩ : SgT) now])) := by
  have h6 := wrap_succ (i := turn) (by omega)
  have htt : (turn : Int) < 5000 := by omega
  obtain ⟨w, e7, e8⟩ := set_map hP
  have hl : 0 < P.length := List.length_pos_iff.2 hP
  have e9 : IntKind.i64.wrap ((P.length : Int) - 1) = ((P.length - 1 : Nat) : Int) := by rw [IntWalk.i64_in _ (by omega)]; omega
  have e10 : P.length - 1 < P.length := by omega
  have hne1 : setTo P now ≠ [] := fun hh => by have := set_len P now; rw [hh] at this; simp at this; omega
  have hsl := set_len P now
  have a1 : (P.length + 1) * 40 ≤ 140737488355328 := by omega
  have b1 : ((setTo P now) ++ [winS (⟨k1, k2, k3, k4, k5, k6, false, k8, k9⟩ : SgT) now]).length = P.length + 1 := by simp [hsl]
  have b2 : ((setTo P now) ++ [winS (⟨k1, k2, k3, k4, k5, k6, false, k8, k9⟩ : SgT) now]).map WnT.cells = (setTo P now).map WnT.cells ++ [WnT.cells (winS (⟨k1, k2, k3, k4, k5, k6, false, k8, k9⟩ : SgT) now)] := by simp
  have b3 : ∀ z, ((setTo P now).map WnT.cells ++ [z]).take (P.length + 1) = (setTo P now).map WnT.cells ++ [z] := fun z => List.take_of_length_le (by simp [hsl])
  have b4 : ((setTo P now).map WnT.cells).take P.length = (setTo P now).map WnT.cells := List.take_of_length_le (by simp [hsl])
  rw [hL, (pl_ne d sg0 (⟨i1, i2, i3, ph, i5, i6, true, du, sk⟩ : SgT) g hP).1, (pl_ne d sg0 (⟨i1, i2, i3, ph, i5, i6, true, du, sk⟩ : SgT) g hP).2, (pl_ne d sg0 r3 (g + 1) (ne_app (setTo P now) _)).1, (pl_ne d sg0 r3 (g + 1) (ne_app (setTo P now) _)).2, b1, b2]
  simp -implicitDefEqProofs only [go_sem, ↓reduceIte, ir_usufructref30_Play_L0, WnT.cells, SgT.cells, h6, htt, hp, hm, c3, h0, h1, h2, c1, c4, h3, w1, e7, e8, e9, e10, ias_ow2, lenA_ow2, a1, b3, b4, set_len, ro_step, ro_wn, gand_b, Bool.and_eq_true, Int.natCast_nonneg]
  try rfl
theorem tr111001 (r1 r2 r3 : SgT) (e1 e2 : Int) (c : CmT) (k1 : Int) (k2 : ByteArray) (k3 k4 k5 k6 k8 k9 : Int) (c1 : ¬ (ph = 0 ∧ e < du)) (hm : ¬ 1099511627776 ≤ du) (c3 : ¬ now < du) (h0 : callP E f_usufructref14_Do [dA d, sA (⟨i1, i2, i3, ph, i5, i6, true, du, sk⟩ : SgT), vi 0, vi now] = some (.tup [sA r1, vi e1])) (c4 : ¬ e1 = 0) (h1 : callP E f_usufructref14_Do [dA d, sA (⟨i1, i2, i3, ph, i5, i6, true, du, sk⟩ : SgT), vi 1, vi now] = some (.tup [sA (⟨k1, k2, k3, k4, k5, k6, false, k8, k9⟩ : SgT), vi 0])) (c5 : True) (P : List WnT) (hP : P ≠ []) (hPl : P.length ≤ 6000) (h2 : callP E f_usufructref14_May [dA d, sA (⟨k1, k2, k3, k4, k5, k6, false, k8, k9⟩ : SgT), vi now] = some (vb false)) : L (plE e (plO g P) now turn, plS d sg0 (⟨i1, i2, i3, ph, i5, i6, true, du, sk⟩ : SgT) g P) = L (plE e (plO g (setTo P now)) now ((turn + 1 : Nat) : Int), plS d sg0 (⟨k1, k2, k3, k4, k5, k6, false, k8, k9⟩ : SgT) g (setTo P now)) := by
  have h6 := wrap_succ (i := turn) (by omega)
  have htt : (turn : Int) < 5000 := by omega
  obtain ⟨w, e7, e8⟩ := set_map hP
  have hl : 0 < P.length := List.length_pos_iff.2 hP
  have e9 : IntKind.i64.wrap ((P.length : Int) - 1) = ((P.length - 1 : Nat) : Int) := by rw [IntWalk.i64_in _ (by omega)]; omega
  have e10 : P.length - 1 < P.length := by omega
  have hne1 : setTo P now ≠ [] := fun hh => by have := set_len P now; rw [hh] at this; simp at this; omega
  have hsl := set_len P now
  rw [hL, (pl_ne d sg0 (⟨i1, i2, i3, ph, i5, i6, true, du, sk⟩ : SgT) g hP).1, (pl_ne d sg0 (⟨i1, i2, i3, ph, i5, i6, true, du, sk⟩ : SgT) g hP).2, (pl_ne d sg0 (⟨k1, k2, k3, k4, k5, k6, false, k8, k9⟩ : SgT) g hne1).1, (pl_ne d sg0 (⟨k1, k2, k3, k4, k5, k6, false, k8, k9⟩ : SgT) g hne1).2, set_len]
  simp -implicitDefEqProofs only [go_sem, ↓reduceIte, ir_usufructref30_Play_L0, WnT.cells, SgT.cells, h6, htt, hp, hm, c3, h0, h1, h2, c1, c4, e7, e8, e9, e10, ias_ow2, lenA_ow2, ro_step, ro_wn, gand_b, Bool.and_eq_true, Int.natCast_nonneg]
  try rfl
theorem tr111010 (r1 r2 r3 : SgT) (e1 e2 : Int) (c : CmT) (k1 : Int) (k2 : ByteArray) (k3 k4 k5 k6 k8 k9 : Int) (c1 : ¬ (ph = 0 ∧ e < du)) (hm : ¬ 1099511627776 ≤ du) (c3 : ¬ now < du) (h0 : callP E f_usufructref14_Do [dA d, sA (⟨i1, i2, i3, ph, i5, i6, o, du, sk⟩ : SgT), vi 0, vi now] = some (.tup [sA r1, vi e1])) (c4 : ¬ e1 = 0) (h1 : callP E f_usufructref14_Do [dA d, sA (⟨i1, i2, i3, ph, i5, i6, o, du, sk⟩ : SgT), vi 1, vi now] = some (.tup [sA r2, vi 0])) (c5 : True) (P : List WnT) (hP : P ≠ []) (hPl : P.length ≤ 6000) (c6 : ¬ (o = true ∧ r2.out = false)) (h2 : callP E f_usufructref14_May [dA d, sA r2, vi now] = some (vb true)) (h3 : callP E f_usufructref14_Emit [dA d, sA r2, vi now] = some (.tup [sA r3, cA c])) (w1 : IntKind.i64.wrap (r2.tries + 1) = r2.tries + 1) : L (plE e (plO g P) now turn, plS d sg0 (⟨i1, i2, i3, ph, i5, i6, o, du, sk⟩ : SgT) g P) = L (plE e (plO (g + 1) (P ++ [winS r2 now])) now ((turn + 1 : Nat) : Int), plS d sg0 r3 (g + 1) (P ++ [winS r2 now])) := by
  have h6 := wrap_succ (i := turn) (by omega)
  have htt : (turn : Int) < 5000 := by omega
  have a1 : (P.length + 1) * 40 ≤ 140737488355328 := by omega
  have b1 : (P ++ [winS r2 now]).length = P.length + 1 := by simp
  have b2 : (P ++ [winS r2 now]).map WnT.cells = P.map WnT.cells ++ [WnT.cells (winS r2 now)] := by simp
  have b3 : ∀ z, (P.map WnT.cells ++ [z]).take (P.length + 1) = P.map WnT.cells ++ [z] := fun z => List.take_of_length_le (by simp)
  have b4 : (P.map WnT.cells).take P.length = P.map WnT.cells := List.take_of_length_le (by simp)
  rw [hL, (pl_ne d sg0 (⟨i1, i2, i3, ph, i5, i6, o, du, sk⟩ : SgT) g hP).1, (pl_ne d sg0 (⟨i1, i2, i3, ph, i5, i6, o, du, sk⟩ : SgT) g hP).2, (pl_ne d sg0 r3 (g + 1) (ne_app P _)).1, (pl_ne d sg0 r3 (g + 1) (ne_app P _)).2, b1, b2]
  simp -implicitDefEqProofs only [go_sem, ↓reduceIte, ir_usufructref30_Play_L0, WnT.cells, SgT.cells, h6, htt, hp, hm, c3, h0, h1, h2, c1, c4, c6, h3, w1, a1, b3, b4, ro_step, ro_wn, gand_b, Bool.and_eq_true, Int.natCast_nonneg]
  try rfl
theorem tr111011 (r1 r2 r3 : SgT) (e1 e2 : Int) (c : CmT) (k1 : Int) (k2 : ByteArray) (k3 k4 k5 k6 k8 k9 : Int) (c1 : ¬ (ph = 0 ∧ e < du)) (hm : ¬ 1099511627776 ≤ du) (c3 : ¬ now < du) (h0 : callP E f_usufructref14_Do [dA d, sA (⟨i1, i2, i3, ph, i5, i6, o, du, sk⟩ : SgT), vi 0, vi now] = some (.tup [sA r1, vi e1])) (c4 : ¬ e1 = 0) (h1 : callP E f_usufructref14_Do [dA d, sA (⟨i1, i2, i3, ph, i5, i6, o, du, sk⟩ : SgT), vi 1, vi now] = some (.tup [sA r2, vi 0])) (c5 : True) (P : List WnT) (hP : P ≠ []) (hPl : P.length ≤ 6000) (c6 : ¬ (o = true ∧ r2.out = false)) (h2 : callP E f_usufructref14_May [dA d, sA r2, vi now] = some (vb false)) : L (plE e (plO g P) now turn, plS d sg0 (⟨i1, i2, i3, ph, i5, i6, o, du, sk⟩ : SgT) g P) = L (plE e (plO g P) now ((turn + 1 : Nat) : Int), plS d sg0 r2 g P) := by
  have h6 := wrap_succ (i := turn) (by omega)
  have htt : (turn : Int) < 5000 := by omega
  rw [hL, (pl_ne d sg0 (⟨i1, i2, i3, ph, i5, i6, o, du, sk⟩ : SgT) g hP).1, (pl_ne d sg0 (⟨i1, i2, i3, ph, i5, i6, o, du, sk⟩ : SgT) g hP).2, (pl_ne d sg0 r2 g hP).1]
  simp -implicitDefEqProofs only [go_sem, ↓reduceIte, ir_usufructref30_Play_L0, WnT.cells, SgT.cells, h6, htt, hp, hm, c3, h0, h1, h2, c1, c4, c6, ro_step, ro_wn, gand_b, Bool.and_eq_true, Int.natCast_nonneg]
  try rfl
theorem tr111110 (r1 r2 r3 : SgT) (e1 e2 : Int) (c : CmT) (k1 : Int) (k2 : ByteArray) (k3 k4 k5 k6 k8 k9 : Int) (c1 : ¬ (ph = 0 ∧ e < du)) (hm : ¬ 1099511627776 ≤ du) (c3 : ¬ now < du) (h0 : callP E f_usufructref14_Do [dA d, sA (⟨i1, i2, i3, ph, i5, i6, o, du, sk⟩ : SgT), vi 0, vi now] = some (.tup [sA r1, vi e1])) (c4 : ¬ e1 = 0) (h1 : callP E f_usufructref14_Do [dA d, sA (⟨i1, i2, i3, ph, i5, i6, o, du, sk⟩ : SgT), vi 1, vi now] = some (.tup [sA r2, vi e2])) (c5 : ¬ e2 = 0) (P : List WnT) (hP : P ≠ []) (hPl : P.length ≤ 6000) (c6 : ¬ (o = true ∧ (⟨i1, i2, i3, ph, i5, i6, o, du, sk⟩ : SgT).out = false)) (h2 : callP E f_usufructref14_May [dA d, sA (⟨i1, i2, i3, ph, i5, i6, o, du, sk⟩ : SgT), vi now] = some (vb true)) (h3 : callP E f_usufructref14_Emit [dA d, sA (⟨i1, i2, i3, ph, i5, i6, o, du, sk⟩ : SgT), vi now] = some (.tup [sA r3, cA c])) (w1 : IntKind.i64.wrap ((⟨i1, i2, i3, ph, i5, i6, o, du, sk⟩ : SgT).tries + 1) = (⟨i1, i2, i3, ph, i5, i6, o, du, sk⟩ : SgT).tries + 1) : L (plE e (plO g P) now turn, plS d sg0 (⟨i1, i2, i3, ph, i5, i6, o, du, sk⟩ : SgT) g P) = L (plE e (plO (g + 1) (P ++ [winS (⟨i1, i2, i3, ph, i5, i6, o, du, sk⟩ : SgT) now])) now ((turn + 1 : Nat) : Int), plS d sg0 r3 (g + 1) (P ++ [winS (⟨i1, i2, i3, ph, i5, i6, o, du, sk⟩ : SgT) now])) := by
  have h6 := wrap_succ (i := turn) (by omega)
  have htt : (turn : Int) < 5000 := by omega
  have a1 : (P.length + 1) * 40 ≤ 140737488355328 := by omega
  have b1 : (P ++ [winS (⟨i1, i2, i3, ph, i5, i6, o, du, sk⟩ : SgT) now]).length = P.length + 1 := by simp
  have b2 : (P ++ [winS (⟨i1, i2, i3, ph, i5, i6, o, du, sk⟩ : SgT) now]).map WnT.cells = P.map WnT.cells ++ [WnT.cells (winS (⟨i1, i2, i3, ph, i5, i6, o, du, sk⟩ : SgT) now)] := by simp
  have b3 : ∀ z, (P.map WnT.cells ++ [z]).take (P.length + 1) = P.map WnT.cells ++ [z] := fun z => List.take_of_length_le (by simp)
  have b4 : (P.map WnT.cells).take P.length = P.map WnT.cells := List.take_of_length_le (by simp)
  rw [hL, (pl_ne d sg0 (⟨i1, i2, i3, ph, i5, i6, o, du, sk⟩ : SgT) g hP).1, (pl_ne d sg0 (⟨i1, i2, i3, ph, i5, i6, o, du, sk⟩ : SgT) g hP).2, (pl_ne d sg0 r3 (g + 1) (ne_app P _)).1, (pl_ne d sg0 r3 (g + 1) (ne_app P _)).2, b1, b2]
  simp -implicitDefEqProofs only [go_sem, ↓reduceIte, ir_usufructref30_Play_L0, WnT.cells, SgT.cells, h6, htt, hp, hm, c3, h0, h1, h2, c1, c4, c5, c6, h3, w1, a1, b3, b4, ro_step, ro_wn, gand_b, Bool.and_eq_true, Int.natCast_nonneg]
  try rfl
theorem tr111111 (r1 r2 r3 : SgT) (e1 e2 : Int) (c : CmT) (k1 : Int) (k2 : ByteArray) (k3 k4 k5 k6 k8 k9 : Int) (c1 : ¬ (ph = 0 ∧ e < du)) (hm : ¬ 1099511627776 ≤ du) (c3 : ¬ now < du) (h0 : callP E f_usufructref14_Do [dA d, sA (⟨i1, i2, i3, ph, i5, i6, o, du, sk⟩ : SgT), vi 0, vi now] = some (.tup [sA r1, vi e1])) (c4 : ¬ e1 = 0) (h1 : callP E f_usufructref14_Do [dA d, sA (⟨i1, i2, i3, ph, i5, i6, o, du, sk⟩ : SgT), vi 1, vi now] = some (.tup [sA r2, vi e2])) (c5 : ¬ e2 = 0) (P : List WnT) (hP : P ≠ []) (hPl : P.length ≤ 6000) (c6 : ¬ (o = true ∧ (⟨i1, i2, i3, ph, i5, i6, o, du, sk⟩ : SgT).out = false)) (h2 : callP E f_usufructref14_May [dA d, sA (⟨i1, i2, i3, ph, i5, i6, o, du, sk⟩ : SgT), vi now] = some (vb false)) : L (plE e (plO g P) now turn, plS d sg0 (⟨i1, i2, i3, ph, i5, i6, o, du, sk⟩ : SgT) g P) = L (plE e (plO g P) now ((turn + 1 : Nat) : Int), plS d sg0 (⟨i1, i2, i3, ph, i5, i6, o, du, sk⟩ : SgT) g P) := by
  have h6 := wrap_succ (i := turn) (by omega)
  have htt : (turn : Int) < 5000 := by omega
  rw [hL, (pl_ne d sg0 (⟨i1, i2, i3, ph, i5, i6, o, du, sk⟩ : SgT) g hP).1, (pl_ne d sg0 (⟨i1, i2, i3, ph, i5, i6, o, du, sk⟩ : SgT) g hP).2]
  simp -implicitDefEqProofs only [go_sem, ↓reduceIte, ir_usufructref30_Play_L0, WnT.cells, SgT.cells, h6, htt, hp, hm, c3, h0, h1, h2, c1, c4, c5, c6, ro_step, ro_wn, gand_b, Bool.and_eq_true, Int.natCast_nonneg]
  try rfl
end
end Go.Proofs.YtoobogpbejdocaaDoor.Ev
