import Derived.Test.YtoobogpbejdocaaGreatDoorEvSa
import Derived.Test.YtoobogpbejdocaaGreatDoorEvSg3
set_option linter.unusedVariables false
set_option linter.unusedSectionVars false
set_option linter.unusedSimpArgs false
namespace Go.Proofs.YtoobogpbejdocaaGreatDoor.Ev
attribute [local congr] bind_congr_head
attribute [local go_sem] AV.cells AV.tuple elems callN_any compact_same compact_new aggOf
theorem boxQ_av {α : Type} (st : Store) (k : Nat) (f : α → List AV) (s : Sl α) : boxQ st (s.av k f) = true := by cases s <;> rfl
theorem boxQ_ref (st : Store) (id g i o : Nat) : boxQ st (.ref id g i o) = (match st[id]? with | some (.box _) => true | _ => false) := rfl
def IOK (E : Prog) : Prop := ∀ n : Int, -9223372036854775808 ≤ n → n ≤ 9223372036854775807 → callP E f_strconv_Itoa_0 [vi n] = some (vs (BA (Lib.itoa n)))
theorem exA_av {α : Type} (k : Nat) (f : α → List AV) (s : Sl α) (v : Option AV) : exA (s.av k f) v = true := by cases s <;> rfl
theorem exA_rop (cs : List AV) (v : Option AV) : exA (.rop cs) v = true := rfl
theorem boxQ_rop (st : Store) (cs : List AV) : boxQ st (.rop cs) = true := rfl
theorem tf_b : (true == false) = false := rfl
theorem ft_b : (false == true) = false := rfl
def emS (d : DefT) (t : StepT) (s : SgT) (now : Int) : SgT × CmT × Int := if overS s = true then (s, cm0, 19) else if smayS d t s now = true then (emitS d t s now, emitC d t s, 0) else (s, cm0, 9)
theorem fn_emit {E : Prog} (hE : Std E fns) (hv : VO E) (hi : IOK E) (d : DefT) (hd : DOK d) (s : SgT) (t : StepT) (h : SOK d s t) (hid : s.id ≤ 9223372036854775807) (now : Int) (n0 : 0 ≤ now) (n1 : now ≤ 1099511627776) :
    callP E f_saga_Emit [dA d, sA s, vi now] = some (.tup [sA (emS d t s now).1, cA (emS d t s now).2.1, vi (emS d t s now).2.2]) := by
  have hck := fn_sgcheck hE hv d hd s t h now (tick_in n0 n1)
  have hm := fun ho => fn_smay hE d hd s t h ho now n0 n1
  have hk := fn_key hE hi d hd.sh s.id s.step hid (decide (s.phase = 1))
  simp only [DefT.cells] at hk
  have h0 := h.s0; have hst := h.st; have hlt := h.lt; have t0 := h.t0; have t1 := h.t1
  have c3 : ¬ (d.steps.list.length : Int) ≤ s.step := by omega
  have c2 : ¬ s.step < 0 := by omega
  have w : IntKind.i64.wrap (s.tries + 1) = s.tries + 1 := IntWalk.i64_in _ (by omega)
  clear h
  unfold emS emitS emitC
  cases ho : overS s with
  | true =>
    rw [ckS, ho] at hck
    clear hm ho
    obtain ⟨i, df, b, ph, sp, tr, o, du, sk⟩ := s
    dsimp only at *
    rw [hE.run rfl rfl]
    simp -implicitDefEqProofs only [go_sem, ir_saga_Emit, hck, ro_step, cm0, boxQ_av, boxQ_ref, boxQ_rop, exA_av, exA_rop, tf_b, ft_b]
  | false =>
    have hm' := hm ho
    rw [ckS, ho] at hck
    clear hm ho
    cases hmm : smayS d t s now with
    | false =>
      rw [hmm] at hm'
      clear hmm
      obtain ⟨i, df, b, ph, sp, tr, o, du, sk⟩ := s
      dsimp only at *
      rw [hE.run rfl rfl]
      simp -implicitDefEqProofs only [go_sem, ir_saga_Emit, hck, hm', ro_step, cm0, boxQ_av, boxQ_ref, boxQ_rop, exA_av, exA_rop, tf_b, ft_b]
    | true =>
      rw [hmm] at hm'
      clear hmm
      obtain ⟨i, df, b, ph, sp, tr, o, du, sk⟩ := s
      dsimp only at *
      rw [hE.run rfl rfl]
      simp -implicitDefEqProofs only [go_sem, ir_saga_Emit, hck, hm', w, c2, c3, h0, hst, StepT.cells, fn_tickAdd hE, hk, ro_step, cm0, boxQ_av, boxQ_ref, boxQ_rop, exA_av, exA_rop, tf_b, ft_b]
theorem fn_emitRef {E : Prog} (hE : Std E fns) (d : DefT) (hd : DOK d) (s : SgT) (t : StepT) (h : SOK d s t) (hid : s.id ≤ 9223372036854775807) (now : Int) :
    callP E f_usufructref14_Emit [dA d, sA s, vi now] = some (.tup [sA (emitS d t s now), cA (emitC d t s)]) := by
  have hk := fn_keyRef hE d hd.sh s.id s.step hid (decide (s.phase = 1))
  simp only [DefT.cells] at hk
  have h0 := h.s0; have hst := h.st; have hlt := h.lt; have t0 := h.t0; have t1 := h.t1
  have c3 : ¬ (d.steps.list.length : Int) ≤ s.step := by omega
  have c2 : ¬ s.step < 0 := by omega
  have w : IntKind.i64.wrap (s.tries + 1) = s.tries + 1 := IntWalk.i64_in _ (by omega)
  clear h
  unfold emitS emitC
  obtain ⟨i, df, b, ph, sp, tr, o, du, sk⟩ := s
  dsimp only at *
  rw [hE.run rfl rfl]
  simp -implicitDefEqProofs only [go_sem, ir_usufructref14_Emit, w, c2, c3, h0, hst, StepT.cells, fn_ref01Add hE, hk, ro_step, cm0, boxQ_av, boxQ_ref, boxQ_rop, exA_av, exA_rop, tf_b, ft_b]
def wayB (s : SgT) (r : RpT) : Bool := (decide (s.phase = 0) && !r.undo) || (decide (s.phase = 1) && r.undo)
def accB (s : SgT) (r : RpT) : Bool := wayB s r && (decide (r.step = s.step) && (decide (1 ≤ r.try_) && (decide (r.try_ ≤ s.tries) && (r.good || (s.out && decide (r.try_ = s.tries))))))
def replyS (d : DefT) (t : StepT) (s : SgT) (r : RpT) (now : Int) : SgT × Int :=
  if overS s = true then (s, 19) else if r.saga ≠ s.id then (s, 7) else if accB s r = false then (s, 15) else if r.good = true then (doneS d s now, 0) else (failsS t s now, 0)
set_option maxHeartbeats 4000000 in
theorem fn_accepted {E : Prog} (hE : Std E fns) (s : SgT) (p0 : 0 ≤ s.phase) (r : RpT) : callP E f_saga_accepted [sA s, rA r] = some (vb (accB s r)) := by
  obtain ⟨i, df, b, ph, sp, tr, o, du, sk⟩ := s
  obtain ⟨ri, rs, ru, rt, rg⟩ := r
  unfold accB wayB
  dsimp only at *
  rw [hE.run rfl rfl]
  by_cases c : 1 < ph
  · have c0 : ¬ ph = 0 := by omega
    have c1 : ¬ ph = 1 := by omega
    simp -implicitDefEqProofs only [go_sem, ir_saga_accepted, c, c0, c1, tf_b, ft_b]
  · have hph : ph = 0 ∨ ph = 1 := by omega
    by_cases c2 : rs = sp
    · by_cases c3 : rt < 1
      · have c4 : ¬ 1 ≤ rt := by omega
        rcases hph with rfl | rfl <;> cases ru <;> simp -implicitDefEqProofs only [go_sem, ir_saga_accepted, c2, c3, c4, tf_b, ft_b]
      · have c4 : 1 ≤ rt := by omega
        by_cases c5 : tr < rt
        · have c6 : ¬ rt ≤ tr := by omega
          rcases hph with rfl | rfl <;> cases ru <;> simp -implicitDefEqProofs only [go_sem, ir_saga_accepted, c2, c3, c4, c5, c6, tf_b, ft_b]
        · have c6 : rt ≤ tr := by omega
          rcases hph with rfl | rfl <;> cases ru <;> cases rg <;> cases o <;> simp -implicitDefEqProofs only [go_sem, ir_saga_accepted, c2, c3, c4, c5, c6, tf_b, ft_b]
    · rcases hph with rfl | rfl <;> cases ru <;> simp -implicitDefEqProofs only [go_sem, ir_saga_accepted, c2, tf_b, ft_b]
theorem acc_tries {s : SgT} {r : RpT} (h : accB s r = true) : 1 ≤ s.tries := by
  simp only [accB, Bool.and_eq_true, decide_eq_true_eq] at h
  omega
set_option maxHeartbeats 4000000 in
theorem fn_sreply {E : Prog} (hE : Std E fns) (hv : VO E) (d : DefT) (hd : DOK d) (s : SgT) (t : StepT) (h : SOK d s t) (r : RpT) (now : Int) (n0 : 0 ≤ now) (n1 : now ≤ 1099511627776) :
    callP E f_saga_Reply [dA d, sA s, rA r, vi now] = some (.tup [sA (replyS d t s r now).1, vi (replyS d t s r now).2]) := by
  have hck := fn_sgcheck hE hv d hd s t h now (tick_in n0 n1)
  have hac := fn_accepted hE s h.p0 r
  have hdn := fn_sdone hE d s h.s0 h.lt hd.f.2.2 now
  have hfl := fun h1 => fn_sfails hE d hd s t h h1 now
  have hat := acc_tries (s := s) (r := r)
  clear h
  unfold replyS
  cases ho : overS s with
  | true =>
    rw [ckS, ho] at hck
    clear ho
    obtain ⟨i, df, b, ph, sp, tr, o, du, sk⟩ := s
    obtain ⟨ri, rs, ru, rt, rg⟩ := r
    dsimp only at *
    rw [hE.run rfl rfl]
    simp -implicitDefEqProofs only [go_sem, ir_saga_Reply, hck, ro_step, boxQ_av, boxQ_ref, boxQ_rop, exA_av, exA_rop, tf_b, ft_b]
  | false =>
    rw [ckS, ho] at hck
    clear ho
    by_cases c : r.saga = s.id
    · cases hacc : accB s r with
      | false =>
        rw [hacc] at hac
        clear hacc hat
        obtain ⟨i, df, b, ph, sp, tr, o, du, sk⟩ := s
        obtain ⟨ri, rs, ru, rt, rg⟩ := r
        dsimp only at *
        subst c
        rw [hE.run rfl rfl]
        simp -implicitDefEqProofs only [go_sem, ir_saga_Reply, hck, hac, ro_step, boxQ_av, boxQ_ref, boxQ_rop, exA_av, exA_rop, tf_b, ft_b]
      | true =>
        have hfl' := hfl (hat hacc)
        rw [hacc] at hac
        clear hacc hat hfl
        obtain ⟨i, df, b, ph, sp, tr, o, du, sk⟩ := s
        obtain ⟨ri, rs, ru, rt, rg⟩ := r
        dsimp only at *
        subst c
        rw [hE.run rfl rfl]
        cases rg with
        | true => simp -implicitDefEqProofs only [go_sem, ir_saga_Reply, hck, hac, hdn, ro_step, boxQ_av, boxQ_ref, boxQ_rop, exA_av, exA_rop, tf_b, ft_b]
        | false => simp -implicitDefEqProofs only [go_sem, ir_saga_Reply, hck, hac, hfl', ro_step, boxQ_av, boxQ_ref, boxQ_rop, exA_av, exA_rop, tf_b, ft_b]
    · obtain ⟨i, df, b, ph, sp, tr, o, du, sk⟩ := s
      obtain ⟨ri, rs, ru, rt, rg⟩ := r
      dsimp only at *
      rw [hE.run rfl rfl]
      simp -implicitDefEqProofs only [go_sem, ir_saga_Reply, hck, c, ro_step, boxQ_av, boxQ_ref, boxQ_rop, exA_av, exA_rop, tf_b, ft_b]
set_option maxHeartbeats 4000000 in
theorem fn_sreplyRef {E : Prog} (hE : Std E fns) (d : DefT) (hd : DOK d) (s : SgT) (t : StepT) (h : SOK d s t) (r : RpT) (now : Int) (n0 : 0 ≤ now) (n1 : now ≤ 1099511627776) :
    callP E f_usufructref14_Reply [dA d, sA s, rA r, vi now] = some (.tup [sA (replyS d t s r now).1, vi (replyS d t s r now).2]) := by
  have hck := fn_sgcheckRef hE d hd s t h now (tick_in n0 n1)
  have hdn := fn_doneRef hE d s h.s0 h.lt hd.f.2.2 now
  have hfl := fun h1 => fn_failsRef hE d hd s t h h1 now
  have p0 := h.p0
  clear h
  unfold replyS
  cases ho : overS s with
  | true =>
    rw [ckS, ho] at hck
    clear ho
    obtain ⟨i, df, b, ph, sp, tr, o, du, sk⟩ := s
    obtain ⟨ri, rs, ru, rt, rg⟩ := r
    dsimp only at *
    rw [hE.run rfl rfl]
    simp -implicitDefEqProofs only [go_sem, ir_usufructref14_Reply, hck, ro_step, boxQ_av, boxQ_ref, boxQ_rop, exA_av, exA_rop, tf_b, ft_b]
  | false =>
    rw [ckS, ho] at hck
    clear ho
    by_cases c : r.saga = s.id
    · unfold accB wayB
      obtain ⟨i, df, b, ph, sp, tr, o, du, sk⟩ := s
      obtain ⟨ri, rs, ru, rt, rg⟩ := r
      dsimp only at *
      subst c
      rw [hE.run rfl rfl]
      by_cases c0 : 1 < ph
      · have c1 : ¬ ph = 0 := by omega
        have c2 : ¬ ph = 1 := by omega
        simp -implicitDefEqProofs only [go_sem, ir_usufructref14_Reply, hck, c1, c2, ro_step, boxQ_av, boxQ_ref, boxQ_rop, exA_av, exA_rop, tf_b, ft_b]
      · have hph : ph = 0 ∨ ph = 1 := by omega
        by_cases c2 : rs = sp
        · by_cases c3 : rt < 1
          · have c4 : ¬ 1 ≤ rt := by omega
            rcases hph with rfl | rfl <;> cases ru <;> simp -implicitDefEqProofs only [go_sem, ir_usufructref14_Reply, hck, c2, c3, c4, ro_step, boxQ_av, boxQ_ref, boxQ_rop, exA_av, exA_rop, tf_b, ft_b]
          · have c4 : 1 ≤ rt := by omega
            by_cases c5 : tr < rt
            · have c6 : ¬ rt ≤ tr := by omega
              rcases hph with rfl | rfl <;> cases ru <;> simp -implicitDefEqProofs only [go_sem, ir_usufructref14_Reply, hck, c2, c3, c4, c5, c6, ro_step, boxQ_av, boxQ_ref, boxQ_rop, exA_av, exA_rop, tf_b, ft_b]
            · have c6 : rt ≤ tr := by omega
              have hfl' := hfl (by omega)
              clear hfl
              cases rg with
              | true => rcases hph with rfl | rfl <;> cases ru <;> simp -implicitDefEqProofs only [go_sem, ir_usufructref14_Reply, hck, hdn, c2, c3, c4, c5, c6, ro_step, boxQ_av, boxQ_ref, boxQ_rop, exA_av, exA_rop, tf_b, ft_b]
              | false =>
                cases o with
                | false => rcases hph with rfl | rfl <;> cases ru <;> simp -implicitDefEqProofs only [go_sem, ir_usufructref14_Reply, hck, c2, c3, c4, c5, c6, ro_step, boxQ_av, boxQ_ref, boxQ_rop, exA_av, exA_rop, tf_b, ft_b]
                | true =>
                  by_cases c7 : rt = tr
                  · subst c7
                    clear c5 c6
                    rcases hph with rfl | rfl <;> cases ru <;> simp -implicitDefEqProofs only [go_sem, ir_usufructref14_Reply, hck, hfl', c2, c3, c4, Int.lt_irrefl, Int.le_refl, ro_step, boxQ_av, boxQ_ref, boxQ_rop, exA_av, exA_rop, tf_b, ft_b]
                  · have c8 : rt < tr := by omega
                    rcases hph with rfl | rfl <;> cases ru <;> simp -implicitDefEqProofs only [go_sem, ir_usufructref14_Reply, hck, c2, c3, c4, c5, c6, c7, c8, ro_step, boxQ_av, boxQ_ref, boxQ_rop, exA_av, exA_rop, tf_b, ft_b]
        · rcases hph with rfl | rfl <;> cases ru <;> simp -implicitDefEqProofs only [go_sem, ir_usufructref14_Reply, hck, c2, ro_step, boxQ_av, boxQ_ref, boxQ_rop, exA_av, exA_rop, tf_b, ft_b]
    · obtain ⟨i, df, b, ph, sp, tr, o, du, sk⟩ := s
      obtain ⟨ri, rs, ru, rt, rg⟩ := r
      dsimp only at *
      rw [hE.run rfl rfl]
      simp -implicitDefEqProofs only [go_sem, ir_usufructref14_Reply, hck, c, ro_step, boxQ_av, boxQ_ref, boxQ_rop, exA_av, exA_rop, tf_b, ft_b]
theorem nat2 : ((2 : Nat) : Int) = 2 := rfl
theorem nat3 : ((3 : Nat) : Int) = 3 := rfl
theorem nat4 : ((4 : Nat) : Int) = 4 := rfl
theorem nat5 : ((5 : Nat) : Int) = 5 := rfl
def actN (d : DefT) (t : StepT) (s : SgT) (now : Int) : Nat → SgT × Int
  | 0 => if s.out = true ∧ s.due ≤ now then (failsS t s now, 0) else (s, 9)
  | 1 => if s.phase = 0 ∧ endS d s.start ≤ now then (backS s now, 0) else (s, 9)
  | 2 => if s.phase = 0 then (backS s now, 0) else (s, 9)
  | 3 => if s.phase = 2 then (putS s 1 s.step now, 0) else (s, 9)
  | 4 => if s.phase = 2 then (doneS d ⟨s.id, s.df, s.start, s.phase, s.step, s.tries, s.out, s.due, if s.skips < 32 then s.skips + 1 else s.skips⟩ now, 0) else (s, 9)
  | _ => if s.phase = 2 then (sendS s 5, 0) else (s, 9)
def actS (d : DefT) (t : StepT) (s : SgT) (now : Int) (k : Nat) : SgT × Int := if overS s = true then (s, 19) else actN d t s now k
section
variable {E : Prog} (hE : Std E fns) (hv : VO E) (d : DefT) (hd : DOK d) (s : SgT) (t : StepT) (h : SOK d s t) (now : Int) (n0 : 0 ≤ now) (n1 : now ≤ 1099511627776)
include hE hv hd h n0 n1
theorem fn_late : callP E f_saga_Late [dA d, sA s, vi now] = some (.tup [sA (actS d t s now 0).1, vi (actS d t s now 0).2]) := by
  have hck := fn_sgcheck hE hv d hd s t h now (tick_in n0 n1)
  have hdu := fn_due hE now s.due n0 n1 h.a0 h.a1
  have hfl := fun h1 => fn_sfails hE d hd s t h h1 now
  have hou := h.ou
  clear h
  unfold actS actN
  cases ho : overS s with
  | true =>
    rw [ckS, ho] at hck
    clear ho
    obtain ⟨i, df, b, ph, sp, tr, o, du, sk⟩ := s
    dsimp only at *
    rw [hE.run rfl rfl]
    simp -implicitDefEqProofs only [go_sem, ir_saga_Late, hck, ro_step, boxQ_av, boxQ_ref, boxQ_rop, exA_av, exA_rop, tf_b, ft_b]
  | false =>
    rw [ckS, ho] at hck
    clear ho
    obtain ⟨i, df, b, ph, sp, tr, o, du, sk⟩ := s
    dsimp only at *
    rw [hE.run rfl rfl]
    cases o with
    | false => simp -implicitDefEqProofs only [go_sem, ir_saga_Late, hck, ro_step, boxQ_av, boxQ_ref, boxQ_rop, exA_av, exA_rop, tf_b, ft_b]
    | true =>
      have hfl' := hfl (hou rfl).1
      by_cases c : du ≤ now
      · rw [decide_eq_true c] at hdu
        simp -implicitDefEqProofs only [go_sem, ir_saga_Late, hck, hdu, hfl', c, ro_step, boxQ_av, boxQ_ref, boxQ_rop, exA_av, exA_rop, tf_b, ft_b]
      · rw [decide_eq_false c] at hdu
        simp -implicitDefEqProofs only [go_sem, ir_saga_Late, hck, hdu, c, ro_step, boxQ_av, boxQ_ref, boxQ_rop, exA_av, exA_rop, tf_b, ft_b]
theorem fn_expire : callP E f_saga_Expire [dA d, sA s, vi now] = some (.tup [sA (actS d t s now 1).1, vi (actS d t s now 1).2]) := by
  have hck := fn_sgcheck hE hv d hd s t h now (tick_in n0 n1)
  have he := fn_end hE d s.start
  simp only [DefT.cells] at he
  have hb := fn_sback hE s h.s0 (by have := h.lt; have := hd.f; omega) now
  clear h
  unfold actS actN
  cases ho : overS s with
  | true =>
    rw [ckS, ho] at hck
    clear ho
    obtain ⟨i, df, b, ph, sp, tr, o, du, sk⟩ := s
    dsimp only at *
    rw [hE.run rfl rfl]
    simp -implicitDefEqProofs only [go_sem, ir_saga_Expire, hck, ro_step, boxQ_av, boxQ_ref, boxQ_rop, exA_av, exA_rop, tf_b, ft_b]
  | false =>
    rw [ckS, ho] at hck
    clear ho
    obtain ⟨i, df, b, ph, sp, tr, o, du, sk⟩ := s
    dsimp only at *
    rw [hE.run rfl rfl]
    by_cases c : ph = 0
    · subst c
      by_cases c2 : endS d b ≤ now
      · have c3 : ¬ now < endS d b := by omega
        simp -implicitDefEqProofs only [go_sem, ir_saga_Expire, hck, he, hb, c2, c3, ro_step, boxQ_av, boxQ_ref, boxQ_rop, exA_av, exA_rop, tf_b, ft_b]
      · have c3 : now < endS d b := by omega
        simp -implicitDefEqProofs only [go_sem, ir_saga_Expire, hck, he, c2, c3, ro_step, boxQ_av, boxQ_ref, boxQ_rop, exA_av, exA_rop, tf_b, ft_b]
    · simp -implicitDefEqProofs only [go_sem, ir_saga_Expire, hck, c, ro_step, boxQ_av, boxQ_ref, boxQ_rop, exA_av, exA_rop, tf_b, ft_b]
theorem fn_cancel : callP E f_saga_Cancel [dA d, sA s, vi now] = some (.tup [sA (actS d t s now 2).1, vi (actS d t s now 2).2]) := by
  have hck := fn_sgcheck hE hv d hd s t h now (tick_in n0 n1)
  have hb := fn_sback hE s h.s0 (by have := h.lt; have := hd.f; omega) now
  clear h
  unfold actS actN
  cases ho : overS s with
  | true =>
    rw [ckS, ho] at hck
    clear ho
    obtain ⟨i, df, b, ph, sp, tr, o, du, sk⟩ := s
    dsimp only at *
    rw [hE.run rfl rfl]
    simp -implicitDefEqProofs only [go_sem, ir_saga_Cancel, hck, ro_step, boxQ_av, boxQ_ref, boxQ_rop, exA_av, exA_rop, tf_b, ft_b]
  | false =>
    rw [ckS, ho] at hck
    clear ho
    obtain ⟨i, df, b, ph, sp, tr, o, du, sk⟩ := s
    dsimp only at *
    rw [hE.run rfl rfl]
    by_cases c : ph = 0
    · subst c
      simp -implicitDefEqProofs only [go_sem, ir_saga_Cancel, hck, hb, ro_step, boxQ_av, boxQ_ref, boxQ_rop, exA_av, exA_rop, tf_b, ft_b]
    · simp -implicitDefEqProofs only [go_sem, ir_saga_Cancel, hck, c, ro_step, boxQ_av, boxQ_ref, boxQ_rop, exA_av, exA_rop, tf_b, ft_b]
theorem fn_parked : callP E f_saga_parked [dA d, sA s, vi now] = some (vi (if overS s = true then 19 else if s.phase = 2 then 0 else 9)) := by
  have hck := fn_sgcheck hE hv d hd s t h now (tick_in n0 n1)
  clear h
  cases ho : overS s with
  | true =>
    rw [ckS, ho] at hck
    clear ho
    obtain ⟨i, df, b, ph, sp, tr, o, du, sk⟩ := s
    dsimp only at *
    rw [hE.run rfl rfl]
    simp -implicitDefEqProofs only [go_sem, ir_saga_parked, hck, ro_step, boxQ_av, boxQ_ref, boxQ_rop, exA_av, exA_rop, tf_b, ft_b]
  | false =>
    rw [ckS, ho] at hck
    clear ho
    obtain ⟨i, df, b, ph, sp, tr, o, du, sk⟩ := s
    dsimp only at *
    rw [hE.run rfl rfl]
    by_cases c : ph = 2
    · subst c
      simp -implicitDefEqProofs only [go_sem, ir_saga_parked, hck, ro_step, boxQ_av, boxQ_ref, boxQ_rop, exA_av, exA_rop, tf_b, ft_b]
    · simp -implicitDefEqProofs only [go_sem, ir_saga_parked, hck, c, ro_step, boxQ_av, boxQ_ref, boxQ_rop, exA_av, exA_rop, tf_b, ft_b]
theorem fn_retry : callP E f_saga_Retry [dA d, sA s, vi now] = some (.tup [sA (actS d t s now 3).1, vi (actS d t s now 3).2]) := by
  have hck := fn_parked hE hv d hd s t h now n0 n1
  have hA := fn_sat hE s 1 s.step now
  clear h
  unfold actS actN
  cases ho : overS s with
  | true =>
    rw [ho] at hck
    clear ho
    obtain ⟨i, df, b, ph, sp, tr, o, du, sk⟩ := s
    dsimp only at *
    rw [hE.run rfl rfl]
    simp -implicitDefEqProofs only [go_sem, ir_saga_Retry, hck, ro_step, boxQ_av, boxQ_ref, boxQ_rop, exA_av, exA_rop, tf_b, ft_b]
  | false =>
    rw [ho] at hck
    clear ho
    obtain ⟨i, df, b, ph, sp, tr, o, du, sk⟩ := s
    dsimp only at *
    rw [hE.run rfl rfl]
    by_cases c : ph = 2
    · subst c
      simp -implicitDefEqProofs only [go_sem, ir_saga_Retry, hck, hA, ro_step, boxQ_av, boxQ_ref, boxQ_rop, exA_av, exA_rop, tf_b, ft_b]
    · simp -implicitDefEqProofs only [go_sem, ir_saga_Retry, hck, c, ro_step, boxQ_av, boxQ_ref, boxQ_rop, exA_av, exA_rop, tf_b, ft_b]
theorem fn_skip : callP E f_saga_Skip [dA d, sA s, vi now] = some (.tup [sA (actS d t s now 4).1, vi (actS d t s now 4).2]) := by
  have hck := fn_parked hE hv d hd s t h now n0 n1
  have hD := fn_sdone hE d ⟨s.id, s.df, s.start, s.phase, s.step, s.tries, s.out, s.due, if s.skips < 32 then s.skips + 1 else s.skips⟩ h.s0 h.lt hd.f.2.2 now
  have k0 := h.k0; have k1 := h.k1
  have w : IntKind.i64.wrap (s.skips + 1) = s.skips + 1 := IntWalk.i64_in _ (by omega)
  have hm : (if (32 : Int) < s.skips + 1 then 32 else s.skips + 1) = (if s.skips < 32 then s.skips + 1 else s.skips) := by
    split <;> split <;> omega
  clear h
  unfold actS actN
  cases ho : overS s with
  | true =>
    rw [ho] at hck
    clear ho
    obtain ⟨i, df, b, ph, sp, tr, o, du, sk⟩ := s
    dsimp only at *
    rw [hE.run rfl rfl]
    simp -implicitDefEqProofs only [go_sem, ir_saga_Skip, hck, ro_step, boxQ_av, boxQ_ref, boxQ_rop, exA_av, exA_rop, tf_b, ft_b]
  | false =>
    rw [ho] at hck
    clear ho
    obtain ⟨i, df, b, ph, sp, tr, o, du, sk⟩ := s
    dsimp only at *
    rw [hE.run rfl rfl]
    by_cases c : ph = 2
    · subst c
      simp -implicitDefEqProofs only [go_sem, ir_saga_Skip, hck, w, hm, hD, ro_step, boxQ_av, boxQ_ref, boxQ_rop, exA_av, exA_rop, tf_b, ft_b]
    · simp -implicitDefEqProofs only [go_sem, ir_saga_Skip, hck, c, ro_step, boxQ_av, boxQ_ref, boxQ_rop, exA_av, exA_rop, tf_b, ft_b]
theorem fn_abandon : callP E f_saga_Abandon [dA d, sA s, vi now] = some (.tup [sA (actS d t s now 5).1, vi (actS d t s now 5).2]) := by
  have hck := fn_parked hE hv d hd s t h now n0 n1
  have hA := fn_sover hE s 5
  clear h
  unfold actS actN
  cases ho : overS s with
  | true =>
    rw [ho] at hck
    clear ho
    obtain ⟨i, df, b, ph, sp, tr, o, du, sk⟩ := s
    dsimp only at *
    rw [hE.run rfl rfl]
    simp -implicitDefEqProofs only [go_sem, ir_saga_Abandon, hck, ro_step, boxQ_av, boxQ_ref, boxQ_rop, exA_av, exA_rop, tf_b, ft_b]
  | false =>
    rw [ho] at hck
    clear ho
    obtain ⟨i, df, b, ph, sp, tr, o, du, sk⟩ := s
    dsimp only at *
    rw [hE.run rfl rfl]
    by_cases c : ph = 2
    · subst c
      simp -implicitDefEqProofs only [go_sem, ir_saga_Abandon, hck, hA, ro_step, boxQ_av, boxQ_ref, boxQ_rop, exA_av, exA_rop, tf_b, ft_b]
    · simp -implicitDefEqProofs only [go_sem, ir_saga_Abandon, hck, c, ro_step, boxQ_av, boxQ_ref, boxQ_rop, exA_av, exA_rop, tf_b, ft_b]
end
section
variable {E : Prog} (hE : Std E fns) (d : DefT) (hd : DOK d) (s : SgT) (t : StepT) (h : SOK d s t) (now : Int) (n0 : 0 ≤ now) (n1 : now ≤ 1099511627776)
include hE hd h n0 n1
set_option maxHeartbeats 4000000 in
theorem fn_doRef (k : Nat) (hk : k ≤ 5) : callP E f_usufructref14_Do [dA d, sA s, vi k, vi now] = some (.tup [sA (actS d t s now k).1, vi (actS d t s now k).2]) := by
  have hck := fn_sgcheckRef hE d hd s t h now (tick_in n0 n1)
  have hfl := fun h1 => fn_failsRef hE d hd s t h h1 now
  have hou := h.ou
  have he := fn_endRef hE d s.start
  simp only [DefT.cells] at he
  have hb := fn_backRef hE s h.s0 (by have := h.lt; have := hd.f; omega) now
  have hA := fn_put hE s 1 s.step now
  have hO := fn_send hE s 5
  have hD := fn_doneRef hE d ⟨s.id, s.df, s.start, s.phase, s.step, s.tries, s.out, s.due, if s.skips < 32 then s.skips + 1 else s.skips⟩ h.s0 h.lt hd.f.2.2 now
  have k0 := h.k0; have k1 := h.k1
  have w : IntKind.i64.wrap (s.skips + 1) = s.skips + 1 := IntWalk.i64_in _ (by omega)
  clear h
  unfold actS
  cases ho : overS s with
  | true =>
    rw [ckS, ho] at hck
    clear ho
    obtain ⟨i, df, b, ph, sp, tr, o, du, sk⟩ := s
    dsimp only at *
    rw [hE.run rfl rfl]
    simp -implicitDefEqProofs only [go_sem, ir_usufructref14_Do, hck, ro_step, boxQ_av, boxQ_ref, boxQ_rop, exA_av, exA_rop, tf_b, ft_b]
  | false =>
    rw [ckS, ho] at hck
    clear ho
    rw [if_neg (by simp)]
    obtain ⟨i, df, b, ph, sp, tr, o, du, sk⟩ := s
    have hkk : k = 0 ∨ k = 1 ∨ k = 2 ∨ k = 3 ∨ k = 4 ∨ k = 5 := by omega
    clear hk
    rcases hkk with rfl | rfl | rfl | rfl | rfl | rfl <;> unfold actN <;> dsimp only at * <;> rw [hE.run rfl rfl]
    · cases o with
      | false => simp -implicitDefEqProofs only [go_sem, ir_usufructref14_Do, Int.natCast_zero, hck, ro_step, boxQ_av, boxQ_ref, boxQ_rop, exA_av, exA_rop, tf_b, ft_b]
      | true =>
        have hfl' := hfl (hou rfl).1
        by_cases c : du ≤ now
        · simp -implicitDefEqProofs only [go_sem, ir_usufructref14_Do, Int.natCast_zero, hck, hfl', c, ro_step, boxQ_av, boxQ_ref, boxQ_rop, exA_av, exA_rop, tf_b, ft_b]
        · simp -implicitDefEqProofs only [go_sem, ir_usufructref14_Do, Int.natCast_zero, hck, c, ro_step, boxQ_av, boxQ_ref, boxQ_rop, exA_av, exA_rop, tf_b, ft_b]
    · by_cases c : ph = 0
      · subst c
        by_cases c2 : endS d b ≤ now
        · simp -implicitDefEqProofs only [go_sem, ir_usufructref14_Do, Int.natCast_one, hck, he, hb, c2, ro_step, boxQ_av, boxQ_ref, boxQ_rop, exA_av, exA_rop, tf_b, ft_b]
        · simp -implicitDefEqProofs only [go_sem, ir_usufructref14_Do, Int.natCast_one, hck, he, c2, ro_step, boxQ_av, boxQ_ref, boxQ_rop, exA_av, exA_rop, tf_b, ft_b]
      · simp -implicitDefEqProofs only [go_sem, ir_usufructref14_Do, Int.natCast_one, hck, c, ro_step, boxQ_av, boxQ_ref, boxQ_rop, exA_av, exA_rop, tf_b, ft_b]
    · by_cases c : ph = 0
      · subst c
        simp -implicitDefEqProofs only [go_sem, ir_usufructref14_Do, nat2, hck, hb, ro_step, boxQ_av, boxQ_ref, boxQ_rop, exA_av, exA_rop, tf_b, ft_b]
      · simp -implicitDefEqProofs only [go_sem, ir_usufructref14_Do, nat2, hck, c, ro_step, boxQ_av, boxQ_ref, boxQ_rop, exA_av, exA_rop, tf_b, ft_b]
    · by_cases c : ph = 2
      · subst c
        simp -implicitDefEqProofs only [go_sem, ir_usufructref14_Do, nat3, hck, hA, ro_step, boxQ_av, boxQ_ref, boxQ_rop, exA_av, exA_rop, tf_b, ft_b]
      · simp -implicitDefEqProofs only [go_sem, ir_usufructref14_Do, nat3, hck, c, ro_step, boxQ_av, boxQ_ref, boxQ_rop, exA_av, exA_rop, tf_b, ft_b]
    · by_cases c : ph = 2
      · subst c
        by_cases c2 : sk < 32
        · rw [if_pos c2] at hD
          simp -implicitDefEqProofs only [go_sem, ir_usufructref14_Do, nat4, hck, w, c2, hD, ro_step, boxQ_av, boxQ_ref, boxQ_rop, exA_av, exA_rop, tf_b, ft_b]
        · rw [if_neg c2] at hD
          simp -implicitDefEqProofs only [go_sem, ir_usufructref14_Do, nat4, hck, c2, hD, ro_step, boxQ_av, boxQ_ref, boxQ_rop, exA_av, exA_rop, tf_b, ft_b]
      · simp -implicitDefEqProofs only [go_sem, ir_usufructref14_Do, nat4, hck, c, ro_step, boxQ_av, boxQ_ref, boxQ_rop, exA_av, exA_rop, tf_b, ft_b]
    · by_cases c : ph = 2
      · subst c
        simp -implicitDefEqProofs only [go_sem, ir_usufructref14_Do, nat5, hck, hO, ro_step, boxQ_av, boxQ_ref, boxQ_rop, exA_av, exA_rop, tf_b, ft_b]
      · simp -implicitDefEqProofs only [go_sem, ir_usufructref14_Do, nat5, hck, c, ro_step, boxQ_av, boxQ_ref, boxQ_rop, exA_av, exA_rop, tf_b, ft_b]
end
structure EvT where
  kind : Int
  now : Int
  saga : Int
  name : ByteArray
  rep : RpT
  df : DefT
def EvT.cells (v : EvT) : List AV := [vi v.kind, vi v.now, vi v.saga, vs v.name, vi v.rep.saga, vi v.rep.step, vb v.rep.undo, vi v.rep.try_, vb v.rep.good, vs v.df.name, vi v.df.deadline, v.df.steps.av 12 StepT.cells]
abbrev vA (v : EvT) : AV := .agg [vi v.kind, vi v.now, vi v.saga, vs v.name, vi v.rep.saga, vi v.rep.step, vb v.rep.undo, vi v.rep.try_, vb v.rep.good, vs v.df.name, vi v.df.deadline, v.df.steps.av 12 StepT.cells]
def rp0 : RpT := ⟨0, 0, false, 0, false⟩
def emptyD (d : DefT) : Bool := decide (d.name = eTx) && (decide (d.deadline = 0) && decide (d.steps.list.length = 0))
theorem eqL_rp (x y : RpT) : eqL [.i, .i, .b, .i, .b] [vi x.saga, vi x.step, vb x.undo, vi x.try_, vb x.good] [vi y.saga, vi y.step, vb y.undo, vi y.try_, vb y.good] = some (decide (x = y)) := by
  obtain ⟨a1, a2, a3, a4, a5⟩ := x
  obtain ⟨b1, b2, b3, b4, b5⟩ := y
  simp only [eqL, eqV, if_true, RpT.mk.injEq, Option.some.injEq, Bool.decide_and, Bool.and_true, Bool.and_assoc, int_beq]
  cases a3 <;> cases b3 <;> cases a5 <;> cases b5 <;> rfl
theorem fn_empty {E : Prog} (hE : Std E fns) (d : DefT) : callP E f_code_empty [dA d] = some (vb (emptyD d)) := by
  have e0 : ((d.steps.list.length : Int) = 0) = (d.steps.list.length = 0) := by simp
  rw [hE.run rfl rfl]
  unfold emptyD
  by_cases c : d.name = eTx
  · by_cases c2 : d.deadline = 0
    · simp -implicitDefEqProofs only [go_sem, ir_code_empty, c, c2, e0, ro_step]
    · simp -implicitDefEqProofs only [go_sem, ir_code_empty, c, c2, ro_step]
  · simp -implicitDefEqProofs only [go_sem, ir_code_empty, c, ro_step]
def repB (r : RpT) : Bool := decide (0 ≤ r.saga) && (decide (0 ≤ r.step) && decide (0 ≤ r.try_))
def repE (r : RpT) : Bool := decide (r = rp0)
def evGood (v : EvT) : Bool :=
  if v.kind < 0 ∨ 10 < v.kind ∨ tickGood v.now = false ∨ v.saga < 0 then false
  else if (v.kind ≠ 3 ∧ repE v.rep = false) ∨ (v.kind ≠ 1 ∧ v.name ≠ eTx) ∨ (v.kind ≠ 0 ∧ emptyD v.df = false) then false
  else if v.kind = 0 then decide ((checkS v.df).2 = 0) && decide (v.saga = 0)
  else if v.kind = 1 then labelGood v.name
  else if v.kind = 3 then repB v.rep
  else true
theorem fn_evgood {E : Prog} (hE : Std E fns) (hv : VO E) (v : EvT) (hn : v.name.size ≤ 200) (hd : shortD v.df) : callP E f_code_Good [vA v] = some (vb (evGood v)) := by
  have hc := fn_check hE hv v.df hd
  have hl := fn_labelGood hE hv v.name (by omega)
  have he := fn_empty hE v.df
  have hr := eqL_rp v.rep rp0
  rw [show decide (v.rep = rp0) = repE v.rep from rfl] at hr
  simp only [DefT.cells] at hc
  unfold evGood
  obtain ⟨kd, nw, sg, nm, ⟨r1, r2, r3, r4, r5⟩, df⟩ := v
  simp only [rp0] at hr
  dsimp only at *
  rw [hE.run rfl rfl]
  simp -implicitDefEqProofs only [go_sem, ir_code_Good, fn_tickGood hE, hc, hl, he, hr, gand_b, gor_b, ro_step, boxQ_av, boxQ_ref, boxQ_rop, exA_av, exA_rop]
  simp only [Bool.or_eq_true, Bool.and_eq_true, decide_eq_true_eq, Bool.not_eq_true', decide_eq_false_iff_not, Bool.decide_eq_true, Bool.decide_and, Bool.and_assoc, or_assoc, rp0, eTx, repB]
  repeat' split
  all_goals rfl
theorem tick_no (n : Int) : tickGood n = false ↔ (n < 0 ∨ 1099511627776 < n) := by
  simp only [tickGood, Bool.and_eq_false_iff, decide_eq_false_iff_not]
  omega
theorem fn_evgoodRef {E : Prog} (hE : Std E fns) (v : EvT) (hn : v.name.size ≤ 200) (hd : shortD v.df) : callP E f_usufructref15_Good [vA v] = some (vb (evGood v)) := by
  have hc := fn_checkRef hE v.df hd
  have hl := fn_refGood hE v.name (by omega)
  have hr := eqL_rp v.rep rp0
  rw [show decide (v.rep = rp0) = repE v.rep from rfl] at hr
  simp only [DefT.cells] at hc
  have hem : (emptyD v.df = false) = (¬ v.df.name = eTx ∨ ¬ v.df.deadline = 0 ∨ 0 < (v.df.steps.list.length : Int)) := by
    apply propext
    simp only [emptyD, Bool.and_eq_false_iff, decide_eq_false_iff_not]
    constructor
    · rintro (h | h | h)
      · exact .inl h
      · exact .inr (.inl h)
      · exact .inr (.inr (by omega))
    · rintro (h | h | h)
      · exact .inl h
      · exact .inr (.inl h)
      · exact .inr (.inr (by omega))
  have hrp : repE v.rep = true → repB v.rep = true := by
    intro h; rw [of_decide_eq_true h]; rfl
  unfold evGood
  simp only [hem]
  clear hem
  obtain ⟨kd, nw, sg, nm, ⟨r1, r2, r3, r4, r5⟩, df⟩ := v
  simp only [rp0] at hr hrp
  dsimp only at *
  rw [hE.run rfl rfl]
  simp -implicitDefEqProofs only [go_sem, ir_usufructref15_Good, hc, hl, hr, gand_b, gor_b, ro_step, boxQ_av, boxQ_ref, boxQ_rop, exA_av, exA_rop]
  simp only [Bool.or_eq_true, Bool.and_eq_true, decide_eq_true_eq, Bool.not_eq_true', decide_eq_false_iff_not, Bool.decide_eq_true, Bool.decide_and, Bool.and_assoc, or_assoc, rp0, eTx, tick_no]
  simp only [repB, Bool.and_eq_true, decide_eq_true_eq] at hrp ⊢
  by_cases h1 : kd < 0 ∨ 10 < kd ∨ nw < 0 ∨ 1099511627776 < nw ∨ sg < 0
  · rw [if_pos (by omega), if_pos h1]
  · rw [if_neg (by omega), if_neg h1]
    by_cases h2 : ¬ kd = 0 ∧ (¬ df.name = ⟨#[]⟩ ∨ ¬ df.deadline = 0 ∨ 0 < (df.steps.list.length : Int))
    · rw [if_pos h2, if_pos (.inr (.inr h2))]
    · rw [if_neg h2]
      by_cases h3 : ¬ kd = 1 ∧ ¬ nm = ⟨#[]⟩
      · rw [if_pos h3, if_pos (.inr (.inl h3))]
      · rw [if_neg h3]
        by_cases h4 : ¬ kd = 3 ∧ repE ⟨r1, r2, r3, r4, r5⟩ = false
        · rw [if_pos h4, if_pos (.inl h4)]
        · have hx : ¬ ((¬ kd = 3 ∧ repE ⟨r1, r2, r3, r4, r5⟩ = false) ∨ (¬ kd = 1 ∧ ¬ nm = ⟨#[]⟩) ∨ (¬ kd = 0 ∧ (¬ df.name = ⟨#[]⟩ ∨ ¬ df.deadline = 0 ∨ 0 < (df.steps.list.length : Int)))) := by
            rintro (h | h | h)
            · exact h4 h
            · exact h3 h
            · exact h2 h
          rw [if_neg h4, if_neg hx]
          by_cases k0 : kd = 0
          · simp only [k0, if_true]
          · rw [if_neg k0, if_neg k0]
            by_cases k1 : kd = 1
            · simp only [k1, if_true]
            · rw [if_neg k1, if_neg k1]
              by_cases k3 : kd = 3
              · simp only [k3, if_true]
              · rw [if_neg k3]
                have h5 : repE ⟨r1, r2, r3, r4, r5⟩ = true := by
                  cases h : repE ⟨r1, r2, r3, r4, r5⟩ with
                  | true => rfl
                  | false => exact absurd ⟨k3, h⟩ h4
                have := hrp h5
                rw [decide_eq_true this.1, decide_eq_true this.2.1, decide_eq_true this.2.2]
                rfl
end Go.Proofs.YtoobogpbejdocaaGreatDoor.Ev
