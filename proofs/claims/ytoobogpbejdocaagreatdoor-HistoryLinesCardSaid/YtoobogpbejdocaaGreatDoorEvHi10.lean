import Derived.Test.YtoobogpbejdocaaGreatDoorEvSa
import Derived.Test.YtoobogpbejdocaaGreatDoorEvHi9
set_option linter.unusedVariables false
set_option linter.unusedSectionVars false
set_option linter.unusedSimpArgs false
namespace Go.Proofs.YtoobogpbejdocaaGreatDoor.Ev
attribute [local congr] bind_congr_head
attribute [local go_sem] AV.cells AV.tuple elems boxQ callN_any compact_same compact_new aggOf
theorem szl {a b : List UInt8} (h : a.length + b.length ≤ 1000) : ¬ (9223372036854775807 : Int) < (((BA a).size + (BA b).size : Nat) : Int) := by rw [ba_size, ba_size]; omega
theorem fn_refPh {E : Prog} (hE : Std E fns) (n : Int) (h0 : 0 ≤ n) (h1 : n ≤ 5) : callP E f_usufructref27_Phase [vi n] = some (vs (BA (phW n))) := by
  rw [hE.run rfl rfl]
  have hn : n = 0 ∨ n = 1 ∨ n = 2 ∨ n = 3 ∨ n = 4 ∨ n = 5 := by omega
  rcases hn with rfl | rfl | rfl | rfl | rfl | rfl <;> simp -implicitDefEqProofs only [go_sem, ir_usufructref27_Phase, ev_iap, iapF, Int.reduceToNat] <;> rfl
theorem fn_refSaga {E : Prog} (hE : Std E fns) (x : StT) (hl : x.sagas.list.length ≤ 1048576) (k : Int) : callP E f_usufructref27_saga [stA x, vi k] = some (.tup [sA (sgAt x.sagas.list k).1, vb (sgAt x.sagas.list k).2]) := by
  have hf := fn_refFind hE x k hl
  rw [hE.run rfl rfl]
  rcases fidx_cases (isId k) x.sagas.list 0 with ⟨h1, _⟩ | ⟨i, s, h1, h2, _, _⟩
  · rw [h1] at hf
    rw [sgAt_no h1]
    simp -implicitDefEqProofs only [go_sem, ir_usufructref27_saga, hf, ro_def, ro_sg]
    try rfl
  · rw [Nat.zero_add] at h1
    rw [h1] at hf
    rw [sgAt_yes h1 h2]
    have h3 : ¬ ((i : Int) < 0) := by omega
    simp -implicitDefEqProofs only [go_sem, ir_usufructref27_saga, hf, h2, h3, ro_def, ro_sg, Int.natCast_nonneg, SgT.cells]
theorem fn_refTry {E : Prog} (hE : Std E fns) (x : StT) (hl : x.defs.list.length ≤ 64) (s : SgT) (d : DefT) (hd : DOK d) (j : Nat) (hj : fidx (isNm s.df) x.defs.list 0 = (j : Int)) (hdj : x.defs.list[j]? = some d) (step : Int) (t : StepT) (h0 : 0 ≤ step) (ht : d.steps.list[step.toNat]? = some t) (u : Bool) (n : Int) (n0 : 0 ≤ n) (n1 : n ≤ 2000) :
    callP E f_usufructref27_try [stA x, sA s, vi step, vb u, vi n] = some (vs (BA (tryL d step u n))) := by
  have hD := fn_refDef hE x s.df hl
  rw [hj] at hD
  have hit := fn_decimal hE n (by omega) (by omega)
  have h1 := (hd.sh.2.2 t (List.mem_of_getElem? ht)).1
  have h2 := itoa_len n0 (by omega)
  rw [← ba_of t.name, ba_size] at h1
  have e0 : (⟨#[32]⟩ : ByteArray) = BA [32] := rfl
  have e1 : (⟨#[32, 117, 110, 100, 111, 32]⟩ : ByteArray) = BA [32, 117, 110, 100, 111, 32] := rfl
  have e2 : (⟨#[32, 100, 111, 32]⟩ : ByteArray) = BA [32, 100, 111, 32] := rfl
  have s1 : ¬ (9223372036854775807 : Int) < (((BA [32]).size + (BA t.name.data.toList).size : Nat) : Int) := by simp only [ba_size, List.length_cons, List.length_nil]; omega
  have s2 : ¬ (9223372036854775807 : Int) < (((BA ([32] ++ t.name.data.toList)).size + (BA [32, 117, 110, 100, 111, 32]).size : Nat) : Int) := by simp only [ba_size, List.length_append, List.length_cons, List.length_nil]; omega
  have s2' : ¬ (9223372036854775807 : Int) < (((BA ([32] ++ t.name.data.toList)).size + (BA [32, 100, 111, 32]).size : Nat) : Int) := by simp only [ba_size, List.length_append, List.length_cons, List.length_nil]; omega
  have s3 : ¬ (9223372036854775807 : Int) < (((BA ([32] ++ t.name.data.toList ++ [32, 117, 110, 100, 111, 32])).size + (BA (Lib.itoa n)).size : Nat) : Int) := by simp only [ba_size, List.length_append, List.length_cons, List.length_nil]; omega
  have s3' : ¬ (9223372036854775807 : Int) < (((BA ([32] ++ t.name.data.toList ++ [32, 100, 111, 32])).size + (BA (Lib.itoa n)).size : Nat) : Int) := by simp only [ba_size, List.length_append, List.length_cons, List.length_nil]; omega
  have hcells : t.cells = [vs (BA t.name.data.toList), vs t.party, vi t.timeout, vi t.tr.ret, vi t.tr.base, vi t.tr.fac, vi t.tr.cap, vi t.un.ret, vi t.un.base, vi t.un.fac, vi t.un.cap, vi t.prio] := by rw [ba_of]; rfl
  simp only [List.append_assoc, List.cons_append, List.nil_append] at s2 s2' s3 s3'
  rw [hE.run rfl rfl]
  unfold tryL
  rw [ht]
  dsimp only
  cases u
  · simp -implicitDefEqProofs only [go_sem, ir_usufructref27_try, DefT.cells, hD, hdj, hit, ht, h0, e0, e1, e2, hcells, ba_app, List.append_assoc, s1, s2, s2', s3, s3', ro_def, ro_sg, ro_step, Int.natCast_nonneg]
    try rfl
  · simp -implicitDefEqProofs only [go_sem, ir_usufructref27_try, DefT.cells, hD, hdj, hit, ht, h0, e0, e1, e2, hcells, ba_app, List.append_assoc, s1, s2, s2', s3, s3', ro_def, ro_sg, ro_step, Int.natCast_nonneg]
    try rfl
section
variable {E : Prog} (hE : Std E fns) (l : Sl EvT) (i : Nat) (v : EvT) (rest : List EvT) (h0 : l.list.drop i = v :: rest) (hl : l.list.length ≤ 60) (P : List StT) (Q : List CmT) (y y' : StT) (hy : P[i]? = some y) (hy' : P[i + 1]? = some y') (I : List UInt8) (hI : I.length ≤ 19) (hd : callP E f_usufructref13_Decimal [vi v.now] = some (vs (BA I)))
  (s s' : SgT) (bw bb : Bool) (hr : callP E f_usufructref27_saga [stA y, vi v.saga] = some (.tup [sA s, vb bw])) (hr' : callP E f_usufructref27_saga [stA y', vi v.saga] = some (.tup [sA s', vb bb]))
include hE h0 hl hy hy' hI hd hr hr'
theorem rl_1 (hk : v.kind = 1) (N : List UInt8) (hn : v.name = BA N) (hN : N.length ≤ 200) : callP E f_usufructref27_Line [trA P Q (-1), lv l, vi i] = some (vs (BA (64 :: (I ++ 32 :: ([115, 116, 97, 114, 116, 32] ++ N))))) := by
  obtain ⟨h1, h2, h3, h4, h5⟩ := drop_cons h0
  have h6 := wrap_succ (i := i) (by omega)
  have e1 : (⟨#[64]⟩ : ByteArray) = BA [64] := rfl
  have e2 : (⟨#[32]⟩ : ByteArray) = BA [32] := rfl
  have s1 := szl (a := [64]) (b := I) (by simp only [List.length_append, List.length_cons, List.length_nil]; omega)
  have s2 := szl (a := [64] ++ I) (b := [32]) (by simp only [List.length_append, List.length_cons, List.length_nil]; omega)
  have e3 : (⟨#[115, 116, 97, 114, 116, 32]⟩ : ByteArray) = BA [115, 116, 97, 114, 116, 32] := rfl
  have s3 := szl (a := [64] ++ I ++ [32]) (b := [115, 116, 97, 114, 116, 32]) (by simp only [List.length_append, List.length_cons, List.length_nil]; omega)
  have s4 := szl (a := [64] ++ I ++ [32] ++ [115, 116, 97, 114, 116, 32]) (b := N) (by simp only [List.length_append, List.length_cons, List.length_nil]; omega)
  simp only [List.append_assoc, List.cons_append, List.nil_append] at s2 s3 s4
  obtain ⟨kd, nw, sg, nm, ⟨r1, r2, r3, r4, r5⟩, df⟩ := v
  obtain ⟨z1, z2, z3, z4, z5, z6, z7, z8, z9⟩ := s
  obtain ⟨w1, w2, w3, w4, w5, w6, w7, w8, w9⟩ := s'
  dsimp only at *
  subst hk hn
  rw [hE.run rfl rfl]
  simp -implicitDefEqProofs only [go_sem, ir_usufructref27_Line, trA, lsM, StT.cells, h1, h3, h6, hy, hy', hd, hr, hr', EvT.cells, ba_app, List.append_assoc, e1, e2, e3, s1, s2, s3, s4, ro_ev, ro_def, ro_sg, ro_step, ro_st, ro_cm, Int.natCast_nonneg, List.append_nil]
  try rfl
theorem rl_10 (hk : v.kind = 10) : callP E f_usufructref27_Line [trA P Q (-1), lv l, vi i] = some (vs (BA (64 :: (I ++ 32 :: [102, 111, 114, 103, 101, 116])))) := by
  obtain ⟨h1, h2, h3, h4, h5⟩ := drop_cons h0
  have h6 := wrap_succ (i := i) (by omega)
  have e1 : (⟨#[64]⟩ : ByteArray) = BA [64] := rfl
  have e2 : (⟨#[32]⟩ : ByteArray) = BA [32] := rfl
  have s1 := szl (a := [64]) (b := I) (by simp only [List.length_append, List.length_cons, List.length_nil]; omega)
  have s2 := szl (a := [64] ++ I) (b := [32]) (by simp only [List.length_append, List.length_cons, List.length_nil]; omega)
  have e3 : (⟨#[102, 111, 114, 103, 101, 116]⟩ : ByteArray) = BA [102, 111, 114, 103, 101, 116] := rfl
  have s3 := szl (a := [64] ++ I ++ [32]) (b := [102, 111, 114, 103, 101, 116]) (by simp only [List.length_append, List.length_cons, List.length_nil]; omega)
  simp only [List.append_assoc, List.cons_append, List.nil_append] at s2 s3
  obtain ⟨kd, nw, sg, nm, ⟨r1, r2, r3, r4, r5⟩, df⟩ := v
  obtain ⟨z1, z2, z3, z4, z5, z6, z7, z8, z9⟩ := s
  obtain ⟨w1, w2, w3, w4, w5, w6, w7, w8, w9⟩ := s'
  dsimp only at *
  subst hk
  rw [hE.run rfl rfl]
  simp -implicitDefEqProofs only [go_sem, ir_usufructref27_Line, trA, lsM, StT.cells, h1, h3, h6, hy, hy', hd, hr, hr', EvT.cells, ba_app, List.append_assoc, e1, e2, e3, s1, s2, s3, ro_ev, ro_def, ro_sg, ro_step, ro_st, ro_cm, Int.natCast_nonneg, List.append_nil]
  try rfl
theorem rl_2s (hk : v.kind = 2) (hb : bb = true) (ht0 : 0 ≤ s.tries) (ht1 : s.tries ≤ 2000) (L : List UInt8) (hL : L.length ≤ 130) (htr : callP E f_usufructref27_try [stA y, sA s, vi s.step, vb (decide (s.phase = 1)), vi (s.tries + 1)] = some (vs (BA L))) (W : List UInt8) (hW : W.length ≤ 11) (hph : callP E f_usufructref27_Phase [vi s'.phase] = some (vs (BA W))) (hp : ¬ s.phase = s'.phase) : callP E f_usufructref27_Line [trA P Q (-1), lv l, vi i] = some (vs (BA (64 :: (I ++ 32 :: ([115, 101, 110, 100] ++ (L ++ ([32, 62, 32] ++ W))))))) := by
  obtain ⟨h1, h2, h3, h4, h5⟩ := drop_cons h0
  have h6 := wrap_succ (i := i) (by omega)
  have e1 : (⟨#[64]⟩ : ByteArray) = BA [64] := rfl
  have e2 : (⟨#[32]⟩ : ByteArray) = BA [32] := rfl
  have s1 := szl (a := [64]) (b := I) (by simp only [List.length_append, List.length_cons, List.length_nil]; omega)
  have s2 := szl (a := [64] ++ I) (b := [32]) (by simp only [List.length_append, List.length_cons, List.length_nil]; omega)
  have e3 : (⟨#[115, 101, 110, 100]⟩ : ByteArray) = BA [115, 101, 110, 100] := rfl
  have s3 := szl (a := [64] ++ I ++ [32]) (b := [115, 101, 110, 100]) (by simp only [List.length_append, List.length_cons, List.length_nil]; omega)
  have s4 := szl (a := [64] ++ I ++ [32] ++ [115, 101, 110, 100]) (b := L) (by simp only [List.length_append, List.length_cons, List.length_nil]; omega)
  have e4 : (⟨#[32, 62, 32]⟩ : ByteArray) = BA [32, 62, 32] := rfl
  have s5 := szl (a := [64] ++ I ++ [32] ++ [115, 101, 110, 100] ++ L) (b := [32, 62, 32]) (by simp only [List.length_append, List.length_cons, List.length_nil]; omega)
  have s6 := szl (a := [64] ++ I ++ [32] ++ [115, 101, 110, 100] ++ L ++ [32, 62, 32]) (b := W) (by simp only [List.length_append, List.length_cons, List.length_nil]; omega)
  simp only [List.append_assoc, List.cons_append, List.nil_append] at s2 s3 s4 s5 s6
  have w0 : IntKind.i64.wrap (s.tries + 1) = s.tries + 1 := IntWalk.i64_in _ (by omega)
  obtain ⟨kd, nw, sg, nm, ⟨r1, r2, r3, r4, r5⟩, df⟩ := v
  obtain ⟨z1, z2, z3, z4, z5, z6, z7, z8, z9⟩ := s
  obtain ⟨w1, w2, w3, w4, w5, w6, w7, w8, w9⟩ := s'
  dsimp only at *
  subst hk hb
  rw [hE.run rfl rfl]
  simp -implicitDefEqProofs only [go_sem, ir_usufructref27_Line, trA, lsM, StT.cells, h1, h3, h6, hy, hy', hd, hr, hr', EvT.cells, ba_app, List.append_assoc, e1, e2, e3, s1, s2, s3, s4, htr, e4, s5, s6, hph, hp, w0, ro_ev, ro_def, ro_sg, ro_step, ro_st, ro_cm, Int.natCast_nonneg, List.append_nil, tf_b, ft_b]
  try rfl
theorem rl_2n (hk : v.kind = 2) (hb : bb = true) (ht0 : 0 ≤ s.tries) (ht1 : s.tries ≤ 2000) (L : List UInt8) (hL : L.length ≤ 130) (htr : callP E f_usufructref27_try [stA y, sA s, vi s.step, vb (decide (s.phase = 1)), vi (s.tries + 1)] = some (vs (BA L))) (hp : s.phase = s'.phase) : callP E f_usufructref27_Line [trA P Q (-1), lv l, vi i] = some (vs (BA (64 :: (I ++ 32 :: ([115, 101, 110, 100] ++ L))))) := by
  obtain ⟨h1, h2, h3, h4, h5⟩ := drop_cons h0
  have h6 := wrap_succ (i := i) (by omega)
  have e1 : (⟨#[64]⟩ : ByteArray) = BA [64] := rfl
  have e2 : (⟨#[32]⟩ : ByteArray) = BA [32] := rfl
  have s1 := szl (a := [64]) (b := I) (by simp only [List.length_append, List.length_cons, List.length_nil]; omega)
  have s2 := szl (a := [64] ++ I) (b := [32]) (by simp only [List.length_append, List.length_cons, List.length_nil]; omega)
  have e3 : (⟨#[115, 101, 110, 100]⟩ : ByteArray) = BA [115, 101, 110, 100] := rfl
  have s3 := szl (a := [64] ++ I ++ [32]) (b := [115, 101, 110, 100]) (by simp only [List.length_append, List.length_cons, List.length_nil]; omega)
  have s4 := szl (a := [64] ++ I ++ [32] ++ [115, 101, 110, 100]) (b := L) (by simp only [List.length_append, List.length_cons, List.length_nil]; omega)
  simp only [List.append_assoc, List.cons_append, List.nil_append] at s2 s3 s4
  have w0 : IntKind.i64.wrap (s.tries + 1) = s.tries + 1 := IntWalk.i64_in _ (by omega)
  obtain ⟨kd, nw, sg, nm, ⟨r1, r2, r3, r4, r5⟩, df⟩ := v
  obtain ⟨z1, z2, z3, z4, z5, z6, z7, z8, z9⟩ := s
  obtain ⟨w1, w2, w3, w4, w5, w6, w7, w8, w9⟩ := s'
  dsimp only at *
  subst hk hb
  subst hp
  rw [hE.run rfl rfl]
  simp -implicitDefEqProofs only [go_sem, ir_usufructref27_Line, trA, lsM, StT.cells, h1, h3, h6, hy, hy', hd, hr, hr', EvT.cells, ba_app, List.append_assoc, e1, e2, e3, s1, s2, s3, s4, htr, w0, ro_ev, ro_def, ro_sg, ro_step, ro_st, ro_cm, Int.natCast_nonneg, List.append_nil, tf_b, ft_b]
  try rfl
theorem rl_3gs (hk : v.kind = 3) (hg : v.rep.good = true) (hb : bb = true) (L : List UInt8) (hL : L.length ≤ 130) (htr : callP E f_usufructref27_try [stA y, sA s, vi v.rep.step, vb v.rep.undo, vi v.rep.try_] = some (vs (BA L))) (W : List UInt8) (hW : W.length ≤ 11) (hph : callP E f_usufructref27_Phase [vi s'.phase] = some (vs (BA W))) (hp : ¬ s.phase = s'.phase) : callP E f_usufructref27_Line [trA P Q (-1), lv l, vi i] = some (vs (BA (64 :: (I ++ 32 :: ([103, 111, 111, 100] ++ (L ++ ([32, 62, 32] ++ W))))))) := by
  obtain ⟨h1, h2, h3, h4, h5⟩ := drop_cons h0
  have h6 := wrap_succ (i := i) (by omega)
  have e1 : (⟨#[64]⟩ : ByteArray) = BA [64] := rfl
  have e2 : (⟨#[32]⟩ : ByteArray) = BA [32] := rfl
  have s1 := szl (a := [64]) (b := I) (by simp only [List.length_append, List.length_cons, List.length_nil]; omega)
  have s2 := szl (a := [64] ++ I) (b := [32]) (by simp only [List.length_append, List.length_cons, List.length_nil]; omega)
  have e3 : (⟨#[103, 111, 111, 100]⟩ : ByteArray) = BA [103, 111, 111, 100] := rfl
  have s3 := szl (a := [64] ++ I ++ [32]) (b := [103, 111, 111, 100]) (by simp only [List.length_append, List.length_cons, List.length_nil]; omega)
  have s4 := szl (a := [64] ++ I ++ [32] ++ [103, 111, 111, 100]) (b := L) (by simp only [List.length_append, List.length_cons, List.length_nil]; omega)
  have e4 : (⟨#[32, 62, 32]⟩ : ByteArray) = BA [32, 62, 32] := rfl
  have s5 := szl (a := [64] ++ I ++ [32] ++ [103, 111, 111, 100] ++ L) (b := [32, 62, 32]) (by simp only [List.length_append, List.length_cons, List.length_nil]; omega)
  have s6 := szl (a := [64] ++ I ++ [32] ++ [103, 111, 111, 100] ++ L ++ [32, 62, 32]) (b := W) (by simp only [List.length_append, List.length_cons, List.length_nil]; omega)
  simp only [List.append_assoc, List.cons_append, List.nil_append] at s2 s3 s4 s5 s6
  obtain ⟨kd, nw, sg, nm, ⟨r1, r2, r3, r4, r5⟩, df⟩ := v
  obtain ⟨z1, z2, z3, z4, z5, z6, z7, z8, z9⟩ := s
  obtain ⟨w1, w2, w3, w4, w5, w6, w7, w8, w9⟩ := s'
  dsimp only at *
  subst hk hb hg
  rw [hE.run rfl rfl]
  simp -implicitDefEqProofs only [go_sem, ir_usufructref27_Line, trA, lsM, StT.cells, h1, h3, h6, hy, hy', hd, hr, hr', EvT.cells, ba_app, List.append_assoc, e1, e2, e3, s1, s2, s3, s4, htr, e4, s5, s6, hph, hp, ro_ev, ro_def, ro_sg, ro_step, ro_st, ro_cm, Int.natCast_nonneg, List.append_nil, tf_b, ft_b]
  try rfl
theorem rl_3gn (hk : v.kind = 3) (hg : v.rep.good = true) (hb : bb = true) (L : List UInt8) (hL : L.length ≤ 130) (htr : callP E f_usufructref27_try [stA y, sA s, vi v.rep.step, vb v.rep.undo, vi v.rep.try_] = some (vs (BA L))) (hp : s.phase = s'.phase) : callP E f_usufructref27_Line [trA P Q (-1), lv l, vi i] = some (vs (BA (64 :: (I ++ 32 :: ([103, 111, 111, 100] ++ L))))) := by
  obtain ⟨h1, h2, h3, h4, h5⟩ := drop_cons h0
  have h6 := wrap_succ (i := i) (by omega)
  have e1 : (⟨#[64]⟩ : ByteArray) = BA [64] := rfl
  have e2 : (⟨#[32]⟩ : ByteArray) = BA [32] := rfl
  have s1 := szl (a := [64]) (b := I) (by simp only [List.length_append, List.length_cons, List.length_nil]; omega)
  have s2 := szl (a := [64] ++ I) (b := [32]) (by simp only [List.length_append, List.length_cons, List.length_nil]; omega)
  have e3 : (⟨#[103, 111, 111, 100]⟩ : ByteArray) = BA [103, 111, 111, 100] := rfl
  have s3 := szl (a := [64] ++ I ++ [32]) (b := [103, 111, 111, 100]) (by simp only [List.length_append, List.length_cons, List.length_nil]; omega)
  have s4 := szl (a := [64] ++ I ++ [32] ++ [103, 111, 111, 100]) (b := L) (by simp only [List.length_append, List.length_cons, List.length_nil]; omega)
  simp only [List.append_assoc, List.cons_append, List.nil_append] at s2 s3 s4
  obtain ⟨kd, nw, sg, nm, ⟨r1, r2, r3, r4, r5⟩, df⟩ := v
  obtain ⟨z1, z2, z3, z4, z5, z6, z7, z8, z9⟩ := s
  obtain ⟨w1, w2, w3, w4, w5, w6, w7, w8, w9⟩ := s'
  dsimp only at *
  subst hk hb hg
  subst hp
  rw [hE.run rfl rfl]
  simp -implicitDefEqProofs only [go_sem, ir_usufructref27_Line, trA, lsM, StT.cells, h1, h3, h6, hy, hy', hd, hr, hr', EvT.cells, ba_app, List.append_assoc, e1, e2, e3, s1, s2, s3, s4, htr, ro_ev, ro_def, ro_sg, ro_step, ro_st, ro_cm, Int.natCast_nonneg, List.append_nil, tf_b, ft_b]
  try rfl
theorem rl_3bs (hk : v.kind = 3) (hg : v.rep.good = false) (hb : bb = true) (L : List UInt8) (hL : L.length ≤ 130) (htr : callP E f_usufructref27_try [stA y, sA s, vi v.rep.step, vb v.rep.undo, vi v.rep.try_] = some (vs (BA L))) (W : List UInt8) (hW : W.length ≤ 11) (hph : callP E f_usufructref27_Phase [vi s'.phase] = some (vs (BA W))) (hp : ¬ s.phase = s'.phase) : callP E f_usufructref27_Line [trA P Q (-1), lv l, vi i] = some (vs (BA (64 :: (I ++ 32 :: ([98, 97, 100] ++ (L ++ ([32, 62, 32] ++ W))))))) := by
  obtain ⟨h1, h2, h3, h4, h5⟩ := drop_cons h0
  have h6 := wrap_succ (i := i) (by omega)
  have e1 : (⟨#[64]⟩ : ByteArray) = BA [64] := rfl
  have e2 : (⟨#[32]⟩ : ByteArray) = BA [32] := rfl
  have s1 := szl (a := [64]) (b := I) (by simp only [List.length_append, List.length_cons, List.length_nil]; omega)
  have s2 := szl (a := [64] ++ I) (b := [32]) (by simp only [List.length_append, List.length_cons, List.length_nil]; omega)
  have e3 : (⟨#[98, 97, 100]⟩ : ByteArray) = BA [98, 97, 100] := rfl
  have s3 := szl (a := [64] ++ I ++ [32]) (b := [98, 97, 100]) (by simp only [List.length_append, List.length_cons, List.length_nil]; omega)
  have s4 := szl (a := [64] ++ I ++ [32] ++ [98, 97, 100]) (b := L) (by simp only [List.length_append, List.length_cons, List.length_nil]; omega)
  have e4 : (⟨#[32, 62, 32]⟩ : ByteArray) = BA [32, 62, 32] := rfl
  have s5 := szl (a := [64] ++ I ++ [32] ++ [98, 97, 100] ++ L) (b := [32, 62, 32]) (by simp only [List.length_append, List.length_cons, List.length_nil]; omega)
  have s6 := szl (a := [64] ++ I ++ [32] ++ [98, 97, 100] ++ L ++ [32, 62, 32]) (b := W) (by simp only [List.length_append, List.length_cons, List.length_nil]; omega)
  simp only [List.append_assoc, List.cons_append, List.nil_append] at s2 s3 s4 s5 s6
  obtain ⟨kd, nw, sg, nm, ⟨r1, r2, r3, r4, r5⟩, df⟩ := v
  obtain ⟨z1, z2, z3, z4, z5, z6, z7, z8, z9⟩ := s
  obtain ⟨w1, w2, w3, w4, w5, w6, w7, w8, w9⟩ := s'
  dsimp only at *
  subst hk hb hg
  rw [hE.run rfl rfl]
  simp -implicitDefEqProofs only [go_sem, ir_usufructref27_Line, trA, lsM, StT.cells, h1, h3, h6, hy, hy', hd, hr, hr', EvT.cells, ba_app, List.append_assoc, e1, e2, e3, s1, s2, s3, s4, htr, e4, s5, s6, hph, hp, ro_ev, ro_def, ro_sg, ro_step, ro_st, ro_cm, Int.natCast_nonneg, List.append_nil, tf_b, ft_b]
  try rfl
theorem rl_3bn (hk : v.kind = 3) (hg : v.rep.good = false) (hb : bb = true) (L : List UInt8) (hL : L.length ≤ 130) (htr : callP E f_usufructref27_try [stA y, sA s, vi v.rep.step, vb v.rep.undo, vi v.rep.try_] = some (vs (BA L))) (hp : s.phase = s'.phase) : callP E f_usufructref27_Line [trA P Q (-1), lv l, vi i] = some (vs (BA (64 :: (I ++ 32 :: ([98, 97, 100] ++ L))))) := by
  obtain ⟨h1, h2, h3, h4, h5⟩ := drop_cons h0
  have h6 := wrap_succ (i := i) (by omega)
  have e1 : (⟨#[64]⟩ : ByteArray) = BA [64] := rfl
  have e2 : (⟨#[32]⟩ : ByteArray) = BA [32] := rfl
  have s1 := szl (a := [64]) (b := I) (by simp only [List.length_append, List.length_cons, List.length_nil]; omega)
  have s2 := szl (a := [64] ++ I) (b := [32]) (by simp only [List.length_append, List.length_cons, List.length_nil]; omega)
  have e3 : (⟨#[98, 97, 100]⟩ : ByteArray) = BA [98, 97, 100] := rfl
  have s3 := szl (a := [64] ++ I ++ [32]) (b := [98, 97, 100]) (by simp only [List.length_append, List.length_cons, List.length_nil]; omega)
  have s4 := szl (a := [64] ++ I ++ [32] ++ [98, 97, 100]) (b := L) (by simp only [List.length_append, List.length_cons, List.length_nil]; omega)
  simp only [List.append_assoc, List.cons_append, List.nil_append] at s2 s3 s4
  obtain ⟨kd, nw, sg, nm, ⟨r1, r2, r3, r4, r5⟩, df⟩ := v
  obtain ⟨z1, z2, z3, z4, z5, z6, z7, z8, z9⟩ := s
  obtain ⟨w1, w2, w3, w4, w5, w6, w7, w8, w9⟩ := s'
  dsimp only at *
  subst hk hb hg
  subst hp
  rw [hE.run rfl rfl]
  simp -implicitDefEqProofs only [go_sem, ir_usufructref27_Line, trA, lsM, StT.cells, h1, h3, h6, hy, hy', hd, hr, hr', EvT.cells, ba_app, List.append_assoc, e1, e2, e3, s1, s2, s3, s4, htr, ro_ev, ro_def, ro_sg, ro_step, ro_st, ro_cm, Int.natCast_nonneg, List.append_nil, tf_b, ft_b]
  try rfl
theorem rl_4s (hk : v.kind = 4) (hb : bb = true) (L : List UInt8) (hL : L.length ≤ 130) (htr : callP E f_usufructref27_try [stA y, sA s, vi s.step, vb (decide (s.phase = 1)), vi s.tries] = some (vs (BA L))) (W : List UInt8) (hW : W.length ≤ 11) (hph : callP E f_usufructref27_Phase [vi s'.phase] = some (vs (BA W))) (hp : ¬ s.phase = s'.phase) : callP E f_usufructref27_Line [trA P Q (-1), lv l, vi i] = some (vs (BA (64 :: (I ++ 32 :: ([108, 97, 116, 101] ++ (L ++ ([32, 62, 32] ++ W))))))) := by
  obtain ⟨h1, h2, h3, h4, h5⟩ := drop_cons h0
  have h6 := wrap_succ (i := i) (by omega)
  have e1 : (⟨#[64]⟩ : ByteArray) = BA [64] := rfl
  have e2 : (⟨#[32]⟩ : ByteArray) = BA [32] := rfl
  have s1 := szl (a := [64]) (b := I) (by simp only [List.length_append, List.length_cons, List.length_nil]; omega)
  have s2 := szl (a := [64] ++ I) (b := [32]) (by simp only [List.length_append, List.length_cons, List.length_nil]; omega)
  have e3 : (⟨#[108, 97, 116, 101]⟩ : ByteArray) = BA [108, 97, 116, 101] := rfl
  have s3 := szl (a := [64] ++ I ++ [32]) (b := [108, 97, 116, 101]) (by simp only [List.length_append, List.length_cons, List.length_nil]; omega)
  have s4 := szl (a := [64] ++ I ++ [32] ++ [108, 97, 116, 101]) (b := L) (by simp only [List.length_append, List.length_cons, List.length_nil]; omega)
  have e4 : (⟨#[32, 62, 32]⟩ : ByteArray) = BA [32, 62, 32] := rfl
  have s5 := szl (a := [64] ++ I ++ [32] ++ [108, 97, 116, 101] ++ L) (b := [32, 62, 32]) (by simp only [List.length_append, List.length_cons, List.length_nil]; omega)
  have s6 := szl (a := [64] ++ I ++ [32] ++ [108, 97, 116, 101] ++ L ++ [32, 62, 32]) (b := W) (by simp only [List.length_append, List.length_cons, List.length_nil]; omega)
  simp only [List.append_assoc, List.cons_append, List.nil_append] at s2 s3 s4 s5 s6
  obtain ⟨kd, nw, sg, nm, ⟨r1, r2, r3, r4, r5⟩, df⟩ := v
  obtain ⟨z1, z2, z3, z4, z5, z6, z7, z8, z9⟩ := s
  obtain ⟨w1, w2, w3, w4, w5, w6, w7, w8, w9⟩ := s'
  dsimp only at *
  subst hk hb
  rw [hE.run rfl rfl]
  simp -implicitDefEqProofs only [go_sem, ir_usufructref27_Line, trA, lsM, StT.cells, h1, h3, h6, hy, hy', hd, hr, hr', EvT.cells, ba_app, List.append_assoc, e1, e2, e3, s1, s2, s3, s4, htr, e4, s5, s6, hph, hp, ro_ev, ro_def, ro_sg, ro_step, ro_st, ro_cm, Int.natCast_nonneg, List.append_nil, tf_b, ft_b]
  try rfl
theorem rl_4n (hk : v.kind = 4) (hb : bb = true) (L : List UInt8) (hL : L.length ≤ 130) (htr : callP E f_usufructref27_try [stA y, sA s, vi s.step, vb (decide (s.phase = 1)), vi s.tries] = some (vs (BA L))) (hp : s.phase = s'.phase) : callP E f_usufructref27_Line [trA P Q (-1), lv l, vi i] = some (vs (BA (64 :: (I ++ 32 :: ([108, 97, 116, 101] ++ L))))) := by
  obtain ⟨h1, h2, h3, h4, h5⟩ := drop_cons h0
  have h6 := wrap_succ (i := i) (by omega)
  have e1 : (⟨#[64]⟩ : ByteArray) = BA [64] := rfl
  have e2 : (⟨#[32]⟩ : ByteArray) = BA [32] := rfl
  have s1 := szl (a := [64]) (b := I) (by simp only [List.length_append, List.length_cons, List.length_nil]; omega)
  have s2 := szl (a := [64] ++ I) (b := [32]) (by simp only [List.length_append, List.length_cons, List.length_nil]; omega)
  have e3 : (⟨#[108, 97, 116, 101]⟩ : ByteArray) = BA [108, 97, 116, 101] := rfl
  have s3 := szl (a := [64] ++ I ++ [32]) (b := [108, 97, 116, 101]) (by simp only [List.length_append, List.length_cons, List.length_nil]; omega)
  have s4 := szl (a := [64] ++ I ++ [32] ++ [108, 97, 116, 101]) (b := L) (by simp only [List.length_append, List.length_cons, List.length_nil]; omega)
  simp only [List.append_assoc, List.cons_append, List.nil_append] at s2 s3 s4
  obtain ⟨kd, nw, sg, nm, ⟨r1, r2, r3, r4, r5⟩, df⟩ := v
  obtain ⟨z1, z2, z3, z4, z5, z6, z7, z8, z9⟩ := s
  obtain ⟨w1, w2, w3, w4, w5, w6, w7, w8, w9⟩ := s'
  dsimp only at *
  subst hk hb
  subst hp
  rw [hE.run rfl rfl]
  simp -implicitDefEqProofs only [go_sem, ir_usufructref27_Line, trA, lsM, StT.cells, h1, h3, h6, hy, hy', hd, hr, hr', EvT.cells, ba_app, List.append_assoc, e1, e2, e3, s1, s2, s3, s4, htr, ro_ev, ro_def, ro_sg, ro_step, ro_st, ro_cm, Int.natCast_nonneg, List.append_nil, tf_b, ft_b]
  try rfl
theorem rl_5s (hk : v.kind = 5) (hb : bb = true) (W : List UInt8) (hW : W.length ≤ 11) (hph : callP E f_usufructref27_Phase [vi s'.phase] = some (vs (BA W))) (hp : ¬ s.phase = s'.phase) : callP E f_usufructref27_Line [trA P Q (-1), lv l, vi i] = some (vs (BA (64 :: (I ++ 32 :: ([101, 120, 112, 105, 114, 101] ++ ([32, 62, 32] ++ W)))))) := by
  obtain ⟨h1, h2, h3, h4, h5⟩ := drop_cons h0
  have h6 := wrap_succ (i := i) (by omega)
  have e1 : (⟨#[64]⟩ : ByteArray) = BA [64] := rfl
  have e2 : (⟨#[32]⟩ : ByteArray) = BA [32] := rfl
  have s1 := szl (a := [64]) (b := I) (by simp only [List.length_append, List.length_cons, List.length_nil]; omega)
  have s2 := szl (a := [64] ++ I) (b := [32]) (by simp only [List.length_append, List.length_cons, List.length_nil]; omega)
  have e3 : (⟨#[101, 120, 112, 105, 114, 101]⟩ : ByteArray) = BA [101, 120, 112, 105, 114, 101] := rfl
  have s3 := szl (a := [64] ++ I ++ [32]) (b := [101, 120, 112, 105, 114, 101]) (by simp only [List.length_append, List.length_cons, List.length_nil]; omega)
  have e4 : (⟨#[32, 62, 32]⟩ : ByteArray) = BA [32, 62, 32] := rfl
  have s5 := szl (a := [64] ++ I ++ [32] ++ [101, 120, 112, 105, 114, 101]) (b := [32, 62, 32]) (by simp only [List.length_append, List.length_cons, List.length_nil]; omega)
  have s6 := szl (a := [64] ++ I ++ [32] ++ [101, 120, 112, 105, 114, 101] ++ [32, 62, 32]) (b := W) (by simp only [List.length_append, List.length_cons, List.length_nil]; omega)
  simp only [List.append_assoc, List.cons_append, List.nil_append] at s2 s3 s5 s6
  obtain ⟨kd, nw, sg, nm, ⟨r1, r2, r3, r4, r5⟩, df⟩ := v
  obtain ⟨z1, z2, z3, z4, z5, z6, z7, z8, z9⟩ := s
  obtain ⟨w1, w2, w3, w4, w5, w6, w7, w8, w9⟩ := s'
  dsimp only at *
  subst hk hb
  rw [hE.run rfl rfl]
  simp -implicitDefEqProofs only [go_sem, ir_usufructref27_Line, trA, lsM, StT.cells, h1, h3, h6, hy, hy', hd, hr, hr', EvT.cells, ba_app, List.append_assoc, e1, e2, e3, s1, s2, s3, e4, s5, s6, hph, hp, ro_ev, ro_def, ro_sg, ro_step, ro_st, ro_cm, Int.natCast_nonneg, List.append_nil, tf_b, ft_b]
  try rfl
theorem rl_5n (hk : v.kind = 5) (hb : bb = true) (hp : s.phase = s'.phase) : callP E f_usufructref27_Line [trA P Q (-1), lv l, vi i] = some (vs (BA (64 :: (I ++ 32 :: ([101, 120, 112, 105, 114, 101]))))) := by
  obtain ⟨h1, h2, h3, h4, h5⟩ := drop_cons h0
  have h6 := wrap_succ (i := i) (by omega)
  have e1 : (⟨#[64]⟩ : ByteArray) = BA [64] := rfl
  have e2 : (⟨#[32]⟩ : ByteArray) = BA [32] := rfl
  have s1 := szl (a := [64]) (b := I) (by simp only [List.length_append, List.length_cons, List.length_nil]; omega)
  have s2 := szl (a := [64] ++ I) (b := [32]) (by simp only [List.length_append, List.length_cons, List.length_nil]; omega)
  have e3 : (⟨#[101, 120, 112, 105, 114, 101]⟩ : ByteArray) = BA [101, 120, 112, 105, 114, 101] := rfl
  have s3 := szl (a := [64] ++ I ++ [32]) (b := [101, 120, 112, 105, 114, 101]) (by simp only [List.length_append, List.length_cons, List.length_nil]; omega)
  simp only [List.append_assoc, List.cons_append, List.nil_append] at s2 s3
  obtain ⟨kd, nw, sg, nm, ⟨r1, r2, r3, r4, r5⟩, df⟩ := v
  obtain ⟨z1, z2, z3, z4, z5, z6, z7, z8, z9⟩ := s
  obtain ⟨w1, w2, w3, w4, w5, w6, w7, w8, w9⟩ := s'
  dsimp only at *
  subst hk hb
  subst hp
  rw [hE.run rfl rfl]
  simp -implicitDefEqProofs only [go_sem, ir_usufructref27_Line, trA, lsM, StT.cells, h1, h3, h6, hy, hy', hd, hr, hr', EvT.cells, ba_app, List.append_assoc, e1, e2, e3, s1, s2, s3, ro_ev, ro_def, ro_sg, ro_step, ro_st, ro_cm, Int.natCast_nonneg, List.append_nil, tf_b, ft_b]
  try rfl
theorem rl_6s (hk : v.kind = 6) (hb : bb = true) (W : List UInt8) (hW : W.length ≤ 11) (hph : callP E f_usufructref27_Phase [vi s'.phase] = some (vs (BA W))) (hp : ¬ s.phase = s'.phase) : callP E f_usufructref27_Line [trA P Q (-1), lv l, vi i] = some (vs (BA (64 :: (I ++ 32 :: ([99, 97, 110, 99, 101, 108] ++ ([32, 62, 32] ++ W)))))) := by
  obtain ⟨h1, h2, h3, h4, h5⟩ := drop_cons h0
  have h6 := wrap_succ (i := i) (by omega)
  have e1 : (⟨#[64]⟩ : ByteArray) = BA [64] := rfl
  have e2 : (⟨#[32]⟩ : ByteArray) = BA [32] := rfl
  have s1 := szl (a := [64]) (b := I) (by simp only [List.length_append, List.length_cons, List.length_nil]; omega)
  have s2 := szl (a := [64] ++ I) (b := [32]) (by simp only [List.length_append, List.length_cons, List.length_nil]; omega)
  have e3 : (⟨#[99, 97, 110, 99, 101, 108]⟩ : ByteArray) = BA [99, 97, 110, 99, 101, 108] := rfl
  have s3 := szl (a := [64] ++ I ++ [32]) (b := [99, 97, 110, 99, 101, 108]) (by simp only [List.length_append, List.length_cons, List.length_nil]; omega)
  have e4 : (⟨#[32, 62, 32]⟩ : ByteArray) = BA [32, 62, 32] := rfl
  have s5 := szl (a := [64] ++ I ++ [32] ++ [99, 97, 110, 99, 101, 108]) (b := [32, 62, 32]) (by simp only [List.length_append, List.length_cons, List.length_nil]; omega)
  have s6 := szl (a := [64] ++ I ++ [32] ++ [99, 97, 110, 99, 101, 108] ++ [32, 62, 32]) (b := W) (by simp only [List.length_append, List.length_cons, List.length_nil]; omega)
  simp only [List.append_assoc, List.cons_append, List.nil_append] at s2 s3 s5 s6
  obtain ⟨kd, nw, sg, nm, ⟨r1, r2, r3, r4, r5⟩, df⟩ := v
  obtain ⟨z1, z2, z3, z4, z5, z6, z7, z8, z9⟩ := s
  obtain ⟨w1, w2, w3, w4, w5, w6, w7, w8, w9⟩ := s'
  dsimp only at *
  subst hk hb
  rw [hE.run rfl rfl]
  simp -implicitDefEqProofs only [go_sem, ir_usufructref27_Line, trA, lsM, StT.cells, h1, h3, h6, hy, hy', hd, hr, hr', EvT.cells, ba_app, List.append_assoc, e1, e2, e3, s1, s2, s3, e4, s5, s6, hph, hp, ro_ev, ro_def, ro_sg, ro_step, ro_st, ro_cm, Int.natCast_nonneg, List.append_nil, tf_b, ft_b]
  try rfl
theorem rl_6n (hk : v.kind = 6) (hb : bb = true) (hp : s.phase = s'.phase) : callP E f_usufructref27_Line [trA P Q (-1), lv l, vi i] = some (vs (BA (64 :: (I ++ 32 :: ([99, 97, 110, 99, 101, 108]))))) := by
  obtain ⟨h1, h2, h3, h4, h5⟩ := drop_cons h0
  have h6 := wrap_succ (i := i) (by omega)
  have e1 : (⟨#[64]⟩ : ByteArray) = BA [64] := rfl
  have e2 : (⟨#[32]⟩ : ByteArray) = BA [32] := rfl
  have s1 := szl (a := [64]) (b := I) (by simp only [List.length_append, List.length_cons, List.length_nil]; omega)
  have s2 := szl (a := [64] ++ I) (b := [32]) (by simp only [List.length_append, List.length_cons, List.length_nil]; omega)
  have e3 : (⟨#[99, 97, 110, 99, 101, 108]⟩ : ByteArray) = BA [99, 97, 110, 99, 101, 108] := rfl
  have s3 := szl (a := [64] ++ I ++ [32]) (b := [99, 97, 110, 99, 101, 108]) (by simp only [List.length_append, List.length_cons, List.length_nil]; omega)
  simp only [List.append_assoc, List.cons_append, List.nil_append] at s2 s3
  obtain ⟨kd, nw, sg, nm, ⟨r1, r2, r3, r4, r5⟩, df⟩ := v
  obtain ⟨z1, z2, z3, z4, z5, z6, z7, z8, z9⟩ := s
  obtain ⟨w1, w2, w3, w4, w5, w6, w7, w8, w9⟩ := s'
  dsimp only at *
  subst hk hb
  subst hp
  rw [hE.run rfl rfl]
  simp -implicitDefEqProofs only [go_sem, ir_usufructref27_Line, trA, lsM, StT.cells, h1, h3, h6, hy, hy', hd, hr, hr', EvT.cells, ba_app, List.append_assoc, e1, e2, e3, s1, s2, s3, ro_ev, ro_def, ro_sg, ro_step, ro_st, ro_cm, Int.natCast_nonneg, List.append_nil, tf_b, ft_b]
  try rfl
theorem rl_7s (hk : v.kind = 7) (hb : bb = true) (W : List UInt8) (hW : W.length ≤ 11) (hph : callP E f_usufructref27_Phase [vi s'.phase] = some (vs (BA W))) (hp : ¬ s.phase = s'.phase) : callP E f_usufructref27_Line [trA P Q (-1), lv l, vi i] = some (vs (BA (64 :: (I ++ 32 :: ([114, 101, 116, 114, 121] ++ ([32, 62, 32] ++ W)))))) := by
  obtain ⟨h1, h2, h3, h4, h5⟩ := drop_cons h0
  have h6 := wrap_succ (i := i) (by omega)
  have e1 : (⟨#[64]⟩ : ByteArray) = BA [64] := rfl
  have e2 : (⟨#[32]⟩ : ByteArray) = BA [32] := rfl
  have s1 := szl (a := [64]) (b := I) (by simp only [List.length_append, List.length_cons, List.length_nil]; omega)
  have s2 := szl (a := [64] ++ I) (b := [32]) (by simp only [List.length_append, List.length_cons, List.length_nil]; omega)
  have e3 : (⟨#[114, 101, 116, 114, 121]⟩ : ByteArray) = BA [114, 101, 116, 114, 121] := rfl
  have s3 := szl (a := [64] ++ I ++ [32]) (b := [114, 101, 116, 114, 121]) (by simp only [List.length_append, List.length_cons, List.length_nil]; omega)
  have e4 : (⟨#[32, 62, 32]⟩ : ByteArray) = BA [32, 62, 32] := rfl
  have s5 := szl (a := [64] ++ I ++ [32] ++ [114, 101, 116, 114, 121]) (b := [32, 62, 32]) (by simp only [List.length_append, List.length_cons, List.length_nil]; omega)
  have s6 := szl (a := [64] ++ I ++ [32] ++ [114, 101, 116, 114, 121] ++ [32, 62, 32]) (b := W) (by simp only [List.length_append, List.length_cons, List.length_nil]; omega)
  simp only [List.append_assoc, List.cons_append, List.nil_append] at s2 s3 s5 s6
  obtain ⟨kd, nw, sg, nm, ⟨r1, r2, r3, r4, r5⟩, df⟩ := v
  obtain ⟨z1, z2, z3, z4, z5, z6, z7, z8, z9⟩ := s
  obtain ⟨w1, w2, w3, w4, w5, w6, w7, w8, w9⟩ := s'
  dsimp only at *
  subst hk hb
  rw [hE.run rfl rfl]
  simp -implicitDefEqProofs only [go_sem, ir_usufructref27_Line, trA, lsM, StT.cells, h1, h3, h6, hy, hy', hd, hr, hr', EvT.cells, ba_app, List.append_assoc, e1, e2, e3, s1, s2, s3, e4, s5, s6, hph, hp, ro_ev, ro_def, ro_sg, ro_step, ro_st, ro_cm, Int.natCast_nonneg, List.append_nil, tf_b, ft_b]
  try rfl
theorem rl_7n (hk : v.kind = 7) (hb : bb = true) (hp : s.phase = s'.phase) : callP E f_usufructref27_Line [trA P Q (-1), lv l, vi i] = some (vs (BA (64 :: (I ++ 32 :: ([114, 101, 116, 114, 121]))))) := by
  obtain ⟨h1, h2, h3, h4, h5⟩ := drop_cons h0
  have h6 := wrap_succ (i := i) (by omega)
  have e1 : (⟨#[64]⟩ : ByteArray) = BA [64] := rfl
  have e2 : (⟨#[32]⟩ : ByteArray) = BA [32] := rfl
  have s1 := szl (a := [64]) (b := I) (by simp only [List.length_append, List.length_cons, List.length_nil]; omega)
  have s2 := szl (a := [64] ++ I) (b := [32]) (by simp only [List.length_append, List.length_cons, List.length_nil]; omega)
  have e3 : (⟨#[114, 101, 116, 114, 121]⟩ : ByteArray) = BA [114, 101, 116, 114, 121] := rfl
  have s3 := szl (a := [64] ++ I ++ [32]) (b := [114, 101, 116, 114, 121]) (by simp only [List.length_append, List.length_cons, List.length_nil]; omega)
  simp only [List.append_assoc, List.cons_append, List.nil_append] at s2 s3
  obtain ⟨kd, nw, sg, nm, ⟨r1, r2, r3, r4, r5⟩, df⟩ := v
  obtain ⟨z1, z2, z3, z4, z5, z6, z7, z8, z9⟩ := s
  obtain ⟨w1, w2, w3, w4, w5, w6, w7, w8, w9⟩ := s'
  dsimp only at *
  subst hk hb
  subst hp
  rw [hE.run rfl rfl]
  simp -implicitDefEqProofs only [go_sem, ir_usufructref27_Line, trA, lsM, StT.cells, h1, h3, h6, hy, hy', hd, hr, hr', EvT.cells, ba_app, List.append_assoc, e1, e2, e3, s1, s2, s3, ro_ev, ro_def, ro_sg, ro_step, ro_st, ro_cm, Int.natCast_nonneg, List.append_nil, tf_b, ft_b]
  try rfl
theorem rl_8s (hk : v.kind = 8) (hb : bb = true) (W : List UInt8) (hW : W.length ≤ 11) (hph : callP E f_usufructref27_Phase [vi s'.phase] = some (vs (BA W))) (hp : ¬ s.phase = s'.phase) : callP E f_usufructref27_Line [trA P Q (-1), lv l, vi i] = some (vs (BA (64 :: (I ++ 32 :: ([115, 107, 105, 112] ++ ([32, 62, 32] ++ W)))))) := by
  obtain ⟨h1, h2, h3, h4, h5⟩ := drop_cons h0
  have h6 := wrap_succ (i := i) (by omega)
  have e1 : (⟨#[64]⟩ : ByteArray) = BA [64] := rfl
  have e2 : (⟨#[32]⟩ : ByteArray) = BA [32] := rfl
  have s1 := szl (a := [64]) (b := I) (by simp only [List.length_append, List.length_cons, List.length_nil]; omega)
  have s2 := szl (a := [64] ++ I) (b := [32]) (by simp only [List.length_append, List.length_cons, List.length_nil]; omega)
  have e3 : (⟨#[115, 107, 105, 112]⟩ : ByteArray) = BA [115, 107, 105, 112] := rfl
  have s3 := szl (a := [64] ++ I ++ [32]) (b := [115, 107, 105, 112]) (by simp only [List.length_append, List.length_cons, List.length_nil]; omega)
  have e4 : (⟨#[32, 62, 32]⟩ : ByteArray) = BA [32, 62, 32] := rfl
  have s5 := szl (a := [64] ++ I ++ [32] ++ [115, 107, 105, 112]) (b := [32, 62, 32]) (by simp only [List.length_append, List.length_cons, List.length_nil]; omega)
  have s6 := szl (a := [64] ++ I ++ [32] ++ [115, 107, 105, 112] ++ [32, 62, 32]) (b := W) (by simp only [List.length_append, List.length_cons, List.length_nil]; omega)
  simp only [List.append_assoc, List.cons_append, List.nil_append] at s2 s3 s5 s6
  obtain ⟨kd, nw, sg, nm, ⟨r1, r2, r3, r4, r5⟩, df⟩ := v
  obtain ⟨z1, z2, z3, z4, z5, z6, z7, z8, z9⟩ := s
  obtain ⟨w1, w2, w3, w4, w5, w6, w7, w8, w9⟩ := s'
  dsimp only at *
  subst hk hb
  rw [hE.run rfl rfl]
  simp -implicitDefEqProofs only [go_sem, ir_usufructref27_Line, trA, lsM, StT.cells, h1, h3, h6, hy, hy', hd, hr, hr', EvT.cells, ba_app, List.append_assoc, e1, e2, e3, s1, s2, s3, e4, s5, s6, hph, hp, ro_ev, ro_def, ro_sg, ro_step, ro_st, ro_cm, Int.natCast_nonneg, List.append_nil, tf_b, ft_b]
  try rfl
theorem rl_8n (hk : v.kind = 8) (hb : bb = true) (hp : s.phase = s'.phase) : callP E f_usufructref27_Line [trA P Q (-1), lv l, vi i] = some (vs (BA (64 :: (I ++ 32 :: ([115, 107, 105, 112]))))) := by
  obtain ⟨h1, h2, h3, h4, h5⟩ := drop_cons h0
  have h6 := wrap_succ (i := i) (by omega)
  have e1 : (⟨#[64]⟩ : ByteArray) = BA [64] := rfl
  have e2 : (⟨#[32]⟩ : ByteArray) = BA [32] := rfl
  have s1 := szl (a := [64]) (b := I) (by simp only [List.length_append, List.length_cons, List.length_nil]; omega)
  have s2 := szl (a := [64] ++ I) (b := [32]) (by simp only [List.length_append, List.length_cons, List.length_nil]; omega)
  have e3 : (⟨#[115, 107, 105, 112]⟩ : ByteArray) = BA [115, 107, 105, 112] := rfl
  have s3 := szl (a := [64] ++ I ++ [32]) (b := [115, 107, 105, 112]) (by simp only [List.length_append, List.length_cons, List.length_nil]; omega)
  simp only [List.append_assoc, List.cons_append, List.nil_append] at s2 s3
  obtain ⟨kd, nw, sg, nm, ⟨r1, r2, r3, r4, r5⟩, df⟩ := v
  obtain ⟨z1, z2, z3, z4, z5, z6, z7, z8, z9⟩ := s
  obtain ⟨w1, w2, w3, w4, w5, w6, w7, w8, w9⟩ := s'
  dsimp only at *
  subst hk hb
  subst hp
  rw [hE.run rfl rfl]
  simp -implicitDefEqProofs only [go_sem, ir_usufructref27_Line, trA, lsM, StT.cells, h1, h3, h6, hy, hy', hd, hr, hr', EvT.cells, ba_app, List.append_assoc, e1, e2, e3, s1, s2, s3, ro_ev, ro_def, ro_sg, ro_step, ro_st, ro_cm, Int.natCast_nonneg, List.append_nil, tf_b, ft_b]
  try rfl
theorem rl_9s (hk : v.kind = 9) (hb : bb = true) (W : List UInt8) (hW : W.length ≤ 11) (hph : callP E f_usufructref27_Phase [vi s'.phase] = some (vs (BA W))) (hp : ¬ s.phase = s'.phase) : callP E f_usufructref27_Line [trA P Q (-1), lv l, vi i] = some (vs (BA (64 :: (I ++ 32 :: ([97, 98, 97, 110, 100, 111, 110] ++ ([32, 62, 32] ++ W)))))) := by
  obtain ⟨h1, h2, h3, h4, h5⟩ := drop_cons h0
  have h6 := wrap_succ (i := i) (by omega)
  have e1 : (⟨#[64]⟩ : ByteArray) = BA [64] := rfl
  have e2 : (⟨#[32]⟩ : ByteArray) = BA [32] := rfl
  have s1 := szl (a := [64]) (b := I) (by simp only [List.length_append, List.length_cons, List.length_nil]; omega)
  have s2 := szl (a := [64] ++ I) (b := [32]) (by simp only [List.length_append, List.length_cons, List.length_nil]; omega)
  have e3 : (⟨#[97, 98, 97, 110, 100, 111, 110]⟩ : ByteArray) = BA [97, 98, 97, 110, 100, 111, 110] := rfl
  have s3 := szl (a := [64] ++ I ++ [32]) (b := [97, 98, 97, 110, 100, 111, 110]) (by simp only [List.length_append, List.length_cons, List.length_nil]; omega)
  have e4 : (⟨#[32, 62, 32]⟩ : ByteArray) = BA [32, 62, 32] := rfl
  have s5 := szl (a := [64] ++ I ++ [32] ++ [97, 98, 97, 110, 100, 111, 110]) (b := [32, 62, 32]) (by simp only [List.length_append, List.length_cons, List.length_nil]; omega)
  have s6 := szl (a := [64] ++ I ++ [32] ++ [97, 98, 97, 110, 100, 111, 110] ++ [32, 62, 32]) (b := W) (by simp only [List.length_append, List.length_cons, List.length_nil]; omega)
  simp only [List.append_assoc, List.cons_append, List.nil_append] at s2 s3 s5 s6
  obtain ⟨kd, nw, sg, nm, ⟨r1, r2, r3, r4, r5⟩, df⟩ := v
  obtain ⟨z1, z2, z3, z4, z5, z6, z7, z8, z9⟩ := s
  obtain ⟨w1, w2, w3, w4, w5, w6, w7, w8, w9⟩ := s'
  dsimp only at *
  subst hk hb
  rw [hE.run rfl rfl]
  simp -implicitDefEqProofs only [go_sem, ir_usufructref27_Line, trA, lsM, StT.cells, h1, h3, h6, hy, hy', hd, hr, hr', EvT.cells, ba_app, List.append_assoc, e1, e2, e3, s1, s2, s3, e4, s5, s6, hph, hp, ro_ev, ro_def, ro_sg, ro_step, ro_st, ro_cm, Int.natCast_nonneg, List.append_nil, tf_b, ft_b]
  try rfl
theorem rl_9n (hk : v.kind = 9) (hb : bb = true) (hp : s.phase = s'.phase) : callP E f_usufructref27_Line [trA P Q (-1), lv l, vi i] = some (vs (BA (64 :: (I ++ 32 :: ([97, 98, 97, 110, 100, 111, 110]))))) := by
  obtain ⟨h1, h2, h3, h4, h5⟩ := drop_cons h0
  have h6 := wrap_succ (i := i) (by omega)
  have e1 : (⟨#[64]⟩ : ByteArray) = BA [64] := rfl
  have e2 : (⟨#[32]⟩ : ByteArray) = BA [32] := rfl
  have s1 := szl (a := [64]) (b := I) (by simp only [List.length_append, List.length_cons, List.length_nil]; omega)
  have s2 := szl (a := [64] ++ I) (b := [32]) (by simp only [List.length_append, List.length_cons, List.length_nil]; omega)
  have e3 : (⟨#[97, 98, 97, 110, 100, 111, 110]⟩ : ByteArray) = BA [97, 98, 97, 110, 100, 111, 110] := rfl
  have s3 := szl (a := [64] ++ I ++ [32]) (b := [97, 98, 97, 110, 100, 111, 110]) (by simp only [List.length_append, List.length_cons, List.length_nil]; omega)
  simp only [List.append_assoc, List.cons_append, List.nil_append] at s2 s3
  obtain ⟨kd, nw, sg, nm, ⟨r1, r2, r3, r4, r5⟩, df⟩ := v
  obtain ⟨z1, z2, z3, z4, z5, z6, z7, z8, z9⟩ := s
  obtain ⟨w1, w2, w3, w4, w5, w6, w7, w8, w9⟩ := s'
  dsimp only at *
  subst hk hb
  subst hp
  rw [hE.run rfl rfl]
  simp -implicitDefEqProofs only [go_sem, ir_usufructref27_Line, trA, lsM, StT.cells, h1, h3, h6, hy, hy', hd, hr, hr', EvT.cells, ba_app, List.append_assoc, e1, e2, e3, s1, s2, s3, ro_ev, ro_def, ro_sg, ro_step, ro_st, ro_cm, Int.natCast_nonneg, List.append_nil, tf_b, ft_b]
  try rfl
end
end Go.Proofs.YtoobogpbejdocaaGreatDoor.Ev
