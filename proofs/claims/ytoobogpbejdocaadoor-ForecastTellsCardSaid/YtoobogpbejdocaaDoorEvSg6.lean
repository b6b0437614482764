import Derived.Test.YtoobogpbejdocaaDoorEvSa
import Derived.Test.YtoobogpbejdocaaDoorEvSg3
set_option linter.unusedVariables false
set_option linter.unusedSectionVars false
set_option linter.unusedSimpArgs false
namespace Go.Proofs.YtoobogpbejdocaaDoor.Ev
attribute [local congr] bind_congr_head
attribute [local go_sem] AV.cells AV.tuple elems callN_any compact_same compact_new aggOf
theorem boxQ_av {α : Type} (st : Store) (k : Nat) (f : α → List AV) (s : Sl α) : boxQ st (s.av k f) = true := by cases s <;> rfl
theorem boxQ_ref (st : Store) (id g i o : Nat) : boxQ st (.ref id g i o) = (match st[id]? with | some (.box _) => true | _ => false) := rfl
theorem exA_av {α : Type} (k : Nat) (f : α → List AV) (s : Sl α) (v : Option AV) : exA (s.av k f) v = true := by cases s <;> rfl
theorem exA_rop (cs : List AV) (v : Option AV) : exA (.rop cs) v = true := rfl
theorem boxQ_rop (st : Store) (cs : List AV) : boxQ st (.rop cs) = true := rfl
theorem tf_b : (true == false) = false := rfl
theorem ft_b : (false == true) = false := rfl
theorem fn_emitRef {E : Prog} (hE : Std E fns) (d : DefT) (hd : DOK d) (s : SgT) (t : StepT) (h : SOK d s t) (hid : s.id ≤ 9223372036854775807) (now : Int) :
    callP E f_usufructref14_Emit [dA d, sA s, vi now] = some (.tup [sA (emitS d t s now), cA (emitC d t s)]) := by
  have hk := fn_keyRef hE d hd.sh s.id s.step hid (decide (s.phase = 1))
  simp only [DefT.cells] at hk
  have h0 := h.s0; have hst := h.st; have hlt := h.lt; have t0 := h.t0; have t1 := h.t1
  have c3 : ¬ (d.steps.list.length : Int) ≤ s.step := by omega
  have c2 : ¬ s.step < 0 := by omega
  have w : IntKind.i64.wrap (s.tries + 1) = s.tries + 1 := IntWalk.i64_in _ (by omega)
  clear h
  unfold emitS emitC
  obtain ⟨i, df, b, ph, sp, tr, o, du, sk⟩ := s
  dsimp only at *
  rw [hE.run rfl rfl]
  simp -implicitDefEqProofs only [go_sem, ir_usufructref14_Emit, w, c2, c3, h0, hst, StepT.cells, fn_ref01Add hE, hk, ro_step, cm0, boxQ_av, boxQ_ref, boxQ_rop, exA_av, exA_rop, tf_b, ft_b]
theorem nat2 : ((2 : Nat) : Int) = 2 := rfl
theorem nat3 : ((3 : Nat) : Int) = 3 := rfl
theorem nat4 : ((4 : Nat) : Int) = 4 := rfl
theorem nat5 : ((5 : Nat) : Int) = 5 := rfl
def actN (d : DefT) (t : StepT) (s : SgT) (now : Int) : Nat → SgT × Int
  | 0 => if s.out = true ∧ s.due ≤ now then (failsS t s now, 0) else (s, 9)
  | 1 => if s.phase = 0 ∧ endS d s.start ≤ now then (backS s now, 0) else (s, 9)
  | 2 => if s.phase = 0 then (backS s now, 0) else (s, 9)
  | 3 => if s.phase = 2 then (putS s 1 s.step now, 0) else (s, 9)
  | 4 => if s.phase = 2 then (doneS d ⟨s.id, s.df, s.start, s.phase, s.step, s.tries, s.out, s.due, if s.skips < 32 then s.skips + 1 else s.skips⟩ now, 0) else (s, 9)
  | _ => if s.phase = 2 then (sendS s 5, 0) else (s, 9)
def actS (d : DefT) (t : StepT) (s : SgT) (now : Int) (k : Nat) : SgT × Int := if overS s = true then (s, 19) else actN d t s now k
section
variable {E : Prog} (hE : Std E fns) (hv : VO E) (d : DefT) (hd : DOK d) (s : SgT) (t : StepT) (h : SOK d s t) (now : Int) (n0 : 0 ≤ now) (n1 : now ≤ 1099511627776)
include hE hv hd h n0 n1
end
section
variable {E : Prog} (hE : Std E fns) (d : DefT) (hd : DOK d) (s : SgT) (t : StepT) (h : SOK d s t) (now : Int) (n0 : 0 ≤ now) (n1 : now ≤ 1099511627776)
include hE hd h n0 n1
set_option maxHeartbeats 4000000 in
theorem fn_doRef (k : Nat) (hk : k ≤ 5) : callP E f_usufructref14_Do [dA d, sA s, vi k, vi now] = some (.tup [sA (actS d t s now k).1, vi (actS d t s now k).2]) := by
  have hck := fn_sgcheckRef hE d hd s t h now (tick_in n0 n1)
  have hfl := fun h1 => fn_failsRef hE d hd s t h h1 now
  have hou := h.ou
  have he := fn_endRef hE d s.start
  simp only [DefT.cells] at he
  have hb := fn_backRef hE s h.s0 (by have := h.lt; have := hd.f; omega) now
  have hA := fn_put hE s 1 s.step now
  have hO := fn_send hE s 5
  have hD := fn_doneRef hE d ⟨s.id, s.df, s.start, s.phase, s.step, s.tries, s.out, s.due, if s.skips < 32 then s.skips + 1 else s.skips⟩ h.s0 h.lt hd.f.2.2 now
  have k0 := h.k0; have k1 := h.k1
  have w : IntKind.i64.wrap (s.skips + 1) = s.skips + 1 := IntWalk.i64_in _ (by omega)
  clear h
  unfold actS
  cases ho : overS s with
  | true =>
    rw [ckS, ho] at hck
    clear ho
    obtain ⟨i, df, b, ph, sp, tr, o, du, sk⟩ := s
    dsimp only at *
    rw [hE.run rfl rfl]
    simp -implicitDefEqProofs only [go_sem, ir_usufructref14_Do, hck, ro_step, boxQ_av, boxQ_ref, boxQ_rop, exA_av, exA_rop, tf_b, ft_b]
  | false =>
    rw [ckS, ho] at hck
    clear ho
    rw [if_neg (by simp)]
    obtain ⟨i, df, b, ph, sp, tr, o, du, sk⟩ := s
    have hkk : k = 0 ∨ k = 1 ∨ k = 2 ∨ k = 3 ∨ k = 4 ∨ k = 5 := by omega
    clear hk
    rcases hkk with rfl | rfl | rfl | rfl | rfl | rfl <;> unfold actN <;> dsimp only at * <;> rw [hE.run rfl rfl]
    · cases o with
      | false => simp -implicitDefEqProofs only [go_sem, ir_usufructref14_Do, Int.natCast_zero, hck, ro_step, boxQ_av, boxQ_ref, boxQ_rop, exA_av, exA_rop, tf_b, ft_b]
      | true =>
        have hfl' := hfl (hou rfl).1
        by_cases c : du ≤ now
        · simp -implicitDefEqProofs only [go_sem, ir_usufructref14_Do, Int.natCast_zero, hck, hfl', c, ro_step, boxQ_av, boxQ_ref, boxQ_rop, exA_av, exA_rop, tf_b, ft_b]
        · simp -implicitDefEqProofs only [go_sem, ir_usufructref14_Do, Int.natCast_zero, hck, c, ro_step, boxQ_av, boxQ_ref, boxQ_rop, exA_av, exA_rop, tf_b, ft_b]
    · by_cases c : ph = 0
      · subst c
        by_cases c2 : endS d b ≤ now
        · simp -implicitDefEqProofs only [go_sem, ir_usufructref14_Do, Int.natCast_one, hck, he, hb, c2, ro_step, boxQ_av, boxQ_ref, boxQ_rop, exA_av, exA_rop, tf_b, ft_b]
        · simp -implicitDefEqProofs only [go_sem, ir_usufructref14_Do, Int.natCast_one, hck, he, c2, ro_step, boxQ_av, boxQ_ref, boxQ_rop, exA_av, exA_rop, tf_b, ft_b]
      · simp -implicitDefEqProofs only [go_sem, ir_usufructref14_Do, Int.natCast_one, hck, c, ro_step, boxQ_av, boxQ_ref, boxQ_rop, exA_av, exA_rop, tf_b, ft_b]
    · by_cases c : ph = 0
      · subst c
        simp -implicitDefEqProofs only [go_sem, ir_usufructref14_Do, nat2, hck, hb, ro_step, boxQ_av, boxQ_ref, boxQ_rop, exA_av, exA_rop, tf_b, ft_b]
      · simp -implicitDefEqProofs only [go_sem, ir_usufructref14_Do, nat2, hck, c, ro_step, boxQ_av, boxQ_ref, boxQ_rop, exA_av, exA_rop, tf_b, ft_b]
    · by_cases c : ph = 2
      · subst c
        simp -implicitDefEqProofs only [go_sem, ir_usufructref14_Do, nat3, hck, hA, ro_step, boxQ_av, boxQ_ref, boxQ_rop, exA_av, exA_rop, tf_b, ft_b]
      · simp -implicitDefEqProofs only [go_sem, ir_usufructref14_Do, nat3, hck, c, ro_step, boxQ_av, boxQ_ref, boxQ_rop, exA_av, exA_rop, tf_b, ft_b]
    · by_cases c : ph = 2
      · subst c
        by_cases c2 : sk < 32
        · rw [if_pos c2] at hD
          simp -implicitDefEqProofs only [go_sem, ir_usufructref14_Do, nat4, hck, w, c2, hD, ro_step, boxQ_av, boxQ_ref, boxQ_rop, exA_av, exA_rop, tf_b, ft_b]
        · rw [if_neg c2] at hD
          simp -implicitDefEqProofs only [go_sem, ir_usufructref14_Do, nat4, hck, c2, hD, ro_step, boxQ_av, boxQ_ref, boxQ_rop, exA_av, exA_rop, tf_b, ft_b]
      · simp -implicitDefEqProofs only [go_sem, ir_usufructref14_Do, nat4, hck, c, ro_step, boxQ_av, boxQ_ref, boxQ_rop, exA_av, exA_rop, tf_b, ft_b]
    · by_cases c : ph = 2
      · subst c
        simp -implicitDefEqProofs only [go_sem, ir_usufructref14_Do, nat5, hck, hO, ro_step, boxQ_av, boxQ_ref, boxQ_rop, exA_av, exA_rop, tf_b, ft_b]
      · simp -implicitDefEqProofs only [go_sem, ir_usufructref14_Do, nat5, hck, c, ro_step, boxQ_av, boxQ_ref, boxQ_rop, exA_av, exA_rop, tf_b, ft_b]
end
structure EvT where
  kind : Int
  now : Int
  saga : Int
  name : ByteArray
  rep : RpT
  df : DefT
def EvT.cells (v : EvT) : List AV := [vi v.kind, vi v.now, vi v.saga, vs v.name, vi v.rep.saga, vi v.rep.step, vb v.rep.undo, vi v.rep.try_, vb v.rep.good, vs v.df.name, vi v.df.deadline, v.df.steps.av 12 StepT.cells]
end Go.Proofs.YtoobogpbejdocaaDoor.Ev
