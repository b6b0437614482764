import Derived.Test.YtoobogpbejdocaaGreatDoorEvSa
import Derived.Test.YtoobogpbejdocaaGreatDoorEvFdA
set_option linter.unusedVariables false
set_option linter.unusedSectionVars false
set_option linter.unusedSimpArgs false
namespace Go.Proofs.YtoobogpbejdocaaGreatDoor.Ev
attribute [local congr] bind_congr_head
attribute [local go_sem] AV.cells AV.tuple elems boxQ callN_any compact_same compact_new aggOf
def phW (n : Int) : List UInt8 := if n = 0 then [114, 117, 110, 110, 105, 110, 103] else if n = 1 then [117, 110, 100, 111, 105, 110, 103] else if n = 2 then [112, 97, 114, 107, 101, 100] else if n = 3 then [99, 111, 109, 112, 108, 101, 116, 101, 100] else if n = 4 then [99, 111, 109, 112, 101, 110, 115, 97, 116, 101, 100] else if n = 5 then [97, 98, 97, 110, 100, 111, 110, 101, 100] else []
def kdW (n : Int) : List UInt8 := if n = 5 then [101, 120, 112, 105, 114, 101] else if n = 6 then [99, 97, 110, 99, 101, 108] else if n = 7 then [114, 101, 116, 114, 121] else if n = 8 then [115, 107, 105, 112] else if n = 9 then [97, 98, 97, 110, 100, 111, 110] else if n = 10 then [102, 111, 114, 103, 101, 116] else []
def tryL (d : DefT) (step : Int) (undo : Bool) (n : Int) : List UInt8 := match d.steps.list[step.toNat]? with
  | some t => 32 :: (t.name.data.toList ++ ((if undo = true then [32, 117, 110, 100, 111, 32] else [32, 100, 111, 32]) ++ Lib.itoa n))
  | none => []
def deedL (v : EvT) (d : DefT) (s : SgT) : List UInt8 :=
  if v.kind = 1 then [115, 116, 97, 114, 116, 32] ++ v.name.data.toList
  else if v.kind = 2 then [115, 101, 110, 100] ++ tryL d s.step (decide (s.phase = 1)) (s.tries + 1)
  else if v.kind = 3 then (if v.rep.good = true then [103, 111, 111, 100] else [98, 97, 100]) ++ tryL d v.rep.step v.rep.undo v.rep.try_
  else if v.kind = 4 then [108, 97, 116, 101] ++ tryL d s.step (decide (s.phase = 1)) s.tries
  else kdW v.kind
def sfxL (v : EvT) (s s' : SgT) (b : Bool) : List UInt8 := if b = true ∧ v.kind ≠ 1 ∧ s.phase ≠ s'.phase then [32, 62, 32] ++ phW s'.phase else []
def lineL (v : EvT) (d : DefT) (s s' : SgT) (b : Bool) : List UInt8 := 64 :: (Lib.itoa v.now ++ 32 :: (deedL v d s ++ sfxL v s s' b))
def mline (x x' : StT) (v : EvT) : List UInt8 :=
  lineL v (defAt x.defs.list (sgAt x.sagas.list v.saga).1.df).1 (sgAt x.sagas.list v.saga).1 (sgAt x'.sagas.list v.saga).1 (sgAt x'.sagas.list v.saga).2
theorem phW_len (n : Int) : (phW n).length ≤ 11 := by
  unfold phW
  repeat' split
  all_goals decide
theorem kdW_len (n : Int) : (kdW n).length ≤ 7 := by
  unfold kdW
  repeat' split
  all_goals decide
theorem sg_at {S : List SgT} (hs : S.Pairwise ltI) {s : SgT} {k : Nat} (h : S[k]? = some s) : fidx (isId s.id) S 0 = (k : Int) := by
  rcases fidx_cases (isId s.id) S 0 with ⟨_, h2⟩ | ⟨i, z, h1, h2, h3, _⟩
  · have := h2 s (List.mem_of_getElem? h)
    rw [decide_eq_false_iff_not] at this
    exact absurd rfl this
  · rw [Nat.zero_add] at h1
    have hz : z.id = s.id := of_decide_eq_true h3
    obtain ⟨a1, e1⟩ := List.getElem?_eq_some_iff.1 h2
    obtain ⟨a2, e2⟩ := List.getElem?_eq_some_iff.1 h
    have hp := List.pairwise_iff_getElem.1 hs
    rcases Nat.lt_trichotomy i k with h4 | h4 | h4
    · have := hp i k a1 a2 h4
      rw [e1, e2] at this
      simp only [ltI] at this; omega
    · rw [h1, h4]
    · have := hp k i a2 a1 h4
      rw [e1, e2] at this
      simp only [ltI] at this; omega
theorem sg_none {S : List SgT} {k : Int} (h : ∀ s, s ∈ S → s.id ≠ k) : fidx (isId k) S 0 = -1 := by
  rcases fidx_cases (isId k) S 0 with ⟨h1, _⟩ | ⟨i, z, _, h2, h3, _⟩
  · exact h1
  · exact absurd (of_decide_eq_true h3) (h z (List.mem_of_getElem? h2))
structure MOK (x x' : StT) (v : EvT) : Prop where
  ok : XOK x
  ok' : XOK x'
  g : Grow x x' v 0
  nm : v.name.size ≤ 200
structure Act2 (x x' : StT) (v : EvT) (d : DefT) (t : StepT) (s s' : SgT) : Prop where
  wa : sgAt x.sagas.list v.saga = (s, true)
  df : defAt x.defs.list s.df = (d, true)
  df' : defAt x'.defs.list s.df = (d, true)
  fj : ∃ j : Nat, fidx (isNm s.df) x.defs.list 0 = (j : Int) ∧ x.defs.list[j]? = some d
  dk : DOK d
  so : SOK d s t
  i1 : v.saga < x.next
  i0 : 0 ≤ v.saga
  is9 : v.kind ≤ 9 → sgAt x'.sagas.list v.saga = (s', true) ∧ 0 ≤ s'.phase ∧ s'.phase ≤ 5
  is10 : v.kind = 10 → sgAt x'.sagas.list v.saga = (zeroS, false)
  em : v.kind = 2 → s'.tries = s.tries + 1
  rp : v.kind = 3 → v.rep.step = s.step ∧ 1 ≤ v.rep.try_ ∧ v.rep.try_ ≤ s.tries
theorem MOK.act {x x' : StT} {v : EvT} (m : MOK x x' v) (h2 : 2 ≤ v.kind) : ∃ d t s s', Act2 x x' v d t s s' := by
  obtain ⟨hg, _⟩ := m.g.b rfl
  obtain ⟨k, j, s, d, t, h, hD, hS⟩ := m.g.a rfl h2
  obtain ⟨_, k10, n0, n1, s0⟩ := ev_in hg
  have hi := h.iv
  have h1 := sgAt_yes h.fk h.sk
  have h3 := defAt_yes h.fj h.dj
  have h4 : defAt x'.defs.list s.df = (d, true) := by rw [hD]; exact h3
  have hss : x'.sagas.list.Pairwise ltI := m.ok'.ss
  have hlt := h.lt
  have i1 := h.i1
  rcases hS with ⟨k9, hS, he⟩ | ⟨kk, hS⟩
  · obtain ⟨⟨t', so'⟩, hid, _⟩ := sok_call h.dk h.so v n0 n1
    have hk : x'.sagas.list[k]? = some (callS d t s v).1 := by rw [hS, List.getElem?_set_self hlt]
    have hf := sg_at hss hk
    rw [hid, hi] at hf
    refine ⟨d, t, s, (callS d t s v).1, h1, h3, h4, ⟨j, h.fj, h.dj⟩, h.dk, h.so, by omega, s0, fun _ => ⟨sgAt_yes hf hk, so'.p0, so'.p5⟩, fun hh => absurd hh (by omega), fun hh => ?_, fun hh => ?_⟩
    · rw [callS, if_pos hh] at he ⊢
      unfold emS at he ⊢
      split
      · rename_i c; rw [if_pos c] at he; exact absurd he (by dsimp only; omega)
      · rename_i c
        rw [if_neg c] at he
        split
        · rfl
        · rename_i c2; rw [if_neg c2] at he; exact absurd he (by dsimp only; omega)
    · rw [callS, if_neg (by omega), if_pos hh] at he
      unfold replyS at he
      dsimp only at he
      split at he
      · exact absurd he (by dsimp only; omega)
      · split at he
        · exact absurd he (by dsimp only; omega)
        · split at he
          · exact absurd he (by dsimp only; omega)
          · rename_i c
            have ha : accB s v.rep = true := by simpa using c
            simp only [accB, Bool.and_eq_true, decide_eq_true_eq] at ha
            exact ⟨ha.2.1, ha.2.2.1, ha.2.2.2.1⟩
  · refine ⟨d, t, s, zeroS, h1, h3, h4, ⟨j, h.fj, h.dj⟩, h.dk, h.so, by omega, s0, fun hh => absurd hh (by omega), fun _ => ?_, fun hh => absurd hh (by omega), fun hh => absurd hh (by omega)⟩
    refine sgAt_no (sg_none fun z hz hz2 => ?_)
    rw [hS, ← List.eraseIdx_eq_take_drop_succ] at hz
    obtain ⟨i, hik, hiz⟩ := List.mem_eraseIdx_iff_getElem?.1 hz
    have := sg_at m.ok.ss hiz
    rw [hz2, h.fk] at this
    omega
structure MoT where
  v : EvT
  x : StT
  y : StT
def MoT.cells (m : MoT) : List AV := [vi m.v.kind, vi m.v.now, vi m.v.saga, vs m.v.name, vi m.v.rep.saga, vi m.v.rep.step, vb m.v.rep.undo, vi m.v.rep.try_, vb m.v.rep.good, vs m.v.df.name, vi m.v.df.deadline, m.v.df.steps.av 12 StepT.cells,
  m.x.defs.av 3 DefT.cells, m.x.sagas.av 9 SgT.cells, vi m.x.next, m.y.defs.av 3 DefT.cells, m.y.sagas.av 9 SgT.cells, vi m.y.next]
theorem ro_mo : Ro MoT.cells := fun m => by
  have h1 := ids_avR (k := 3) (s := m.x.defs) ro_def
  have h2 := ids_avR (k := 9) (s := m.x.sagas) ro_sg
  have h3 := ids_avR (k := 3) (s := m.y.defs) ro_def
  have h4 := ids_avR (k := 9) (s := m.y.sagas) ro_sg
  have h5 := ids_avR (k := 12) (s := m.v.df.steps) ro_step
  simp only [MoT.cells, idss, AV.ids, h1, h2, h3, h4, h5, List.append_nil]
def MoT.line (m : MoT) : List UInt8 := mline m.x m.y m.v
def MoT.ok (m : MoT) : Prop := MOK m.x m.y m.v
def mosL (x : StT) : List EvT → List (StT × StT × CmT) → List MoT
  | v :: r, (x', _, _) :: T => ⟨v, x, x'⟩ :: mosL x' r T
  | _, _ => []
theorem mos_ok {E : Prog} {x y : StT} {l : List EvT} {T : List (StT × StT × CmT)} {b : Bool} (t : Steps E x y l T b) : XOK x → (∀ v, v ∈ l → shortS v = 0) → ∀ m, m ∈ mosL x l T → m.ok := by
  induction t with
  | nil => intro _ _ m h; simp [mosL] at h
  | stop => intro _ _ m h; simp [mosL] at h
  | go _ _ _ ok g _ ih =>
    intro hx hs m h
    rw [mosL, List.mem_cons] at h
    rcases h with rfl | h
    · exact ⟨hx, ok, g, (short_ev (hs _ List.mem_cons_self)).1⟩
    · exact ih ok (fun w hw => hs w (List.mem_cons_of_mem _ hw)) m h
theorem mos_len : ∀ (x : StT) (l : List EvT) (T : List (StT × StT × CmT)), (mosL x l T).length ≤ l.length
  | x, [], T => by simp [mosL]
  | x, v :: r, [] => by simp [mosL]
  | x, v :: r, (x', _, _) :: T => by simp only [mosL, List.length_cons]; exact Nat.succ_le_succ (mos_len x' r T)
theorem steps_take {E : Prog} : ∀ (k : Nat) {x y : StT} {l : List EvT} {T : List (StT × StT × CmT)}, Steps E x y l T true → Steps E x y (l.take k) (T.take k) true ∧ mosL x (l.take k) (T.take k) = (mosL x l T).take k
  | 0, x, y, l, T, _ => ⟨.nil, by simp [mosL]⟩
  | k + 1, x, y, l, T, t => by
    cases t with
    | nil => exact ⟨.nil, by simp [mosL]⟩
    | @go _ _ v r x' y' c T' _ d1 d2 q' ok gr t =>
      obtain ⟨h1, h2⟩ := steps_take k t
      exact ⟨.go d1 d2 q' ok gr h1, by simp only [List.take_succ_cons, mosL, h2]⟩
def ofR (id : Int) : List MoT → List (List UInt8)
  | [] => []
  | m :: r => if m.v.kind = 0 then ofR id r else if m.v.saga = id then m.line :: ofR id r else ofR id r
def allR : List MoT → List (List UInt8)
  | [] => []
  | m :: r => if m.v.kind = 0 then allR r else (Lib.itoa m.v.saga ++ 32 :: m.line) :: allR r
theorem allR_len : ∀ M, (allR M).length ≤ M.length
  | [] => Nat.le_refl _
  | m :: r => by
    have := allR_len r
    rw [allR]
    split <;> simp only [List.length_cons] <;> omega
theorem all_pre : ∀ (M : List MoT) (k : Nat), ∃ S, allR M = allR (M.take k) ++ S
  | [], k => ⟨[], by simp [allR]⟩
  | m :: r, 0 => ⟨allR (m :: r), by simp [allR]⟩
  | m :: r, k + 1 => by
    obtain ⟨S, h⟩ := all_pre r k
    refine ⟨S, ?_⟩
    rw [List.take_succ_cons, allR, allR]
    split
    · exact h
    · rw [h]; rfl
def cntL (M : List MoT) : Nat → Nat
  | 0 => 0
  | n + 1 => cntL M n + (ofR n M).length
theorem cnt_nil : ∀ n, cntL [] n = 0
  | 0 => rfl
  | n + 1 => by rw [cntL, cnt_nil n]; rfl
theorem cnt_cons (m : MoT) (r : List MoT) : ∀ n : Nat, cntL (m :: r) n = cntL r n + if m.v.kind ≠ 0 ∧ 0 ≤ m.v.saga ∧ m.v.saga < n then 1 else 0
  | 0 => by
    rw [cntL, cntL, if_neg (by omega)]
  | n + 1 => by
    rw [cntL, cntL, cnt_cons m r n, ofR]
    by_cases c : m.v.kind = 0
    · rw [if_pos c, if_neg (fun h => h.1 c), if_neg (fun h => h.1 c)]; omega
    · rw [if_neg c]
      by_cases c2 : m.v.saga = n
      · rw [if_pos c2, if_neg (by omega), if_pos (by omega), List.length_cons]; omega
      · rw [if_neg c2]
        by_cases c3 : 0 ≤ m.v.saga ∧ m.v.saga < n
        · rw [if_pos ⟨c, c3⟩, if_pos (by omega)]; omega
        · rw [if_neg (fun h => c3 h.2), if_neg (by omega)]; omega
theorem cnt_all (n : Nat) : ∀ M : List MoT, (∀ m, m ∈ M → m.v.kind = 0 ∨ (0 ≤ m.v.saga ∧ m.v.saga < n)) → cntL M n = (allR M).length
  | [], _ => cnt_nil n
  | m :: r, h => by
    rw [cnt_cons, allR, cnt_all n r fun z hz => h z (List.mem_cons_of_mem _ hz)]
    rcases h m List.mem_cons_self with c | c
    · rw [if_neg (fun h => h.1 c), if_pos c]; rfl
    · by_cases c0 : m.v.kind = 0
      · rw [if_neg (fun h => h.1 c0), if_pos c0]; rfl
      · rw [if_pos ⟨c0, c⟩, if_neg c0, List.length_cons]
theorem mos_next {E : Prog} {x y : StT} {l : List EvT} {T : List (StT × StT × CmT)} {b : Bool} (t : Steps E x y l T b) : XOK x → (∀ v, v ∈ l → shortS v = 0) → x.next ≤ (lastX x T).next ∧ (lastX x T).next ≤ x.next + l.length ∧ ∀ m, m ∈ mosL x l T → m.v.kind = 0 ∨ (0 ≤ m.v.saga ∧ m.v.saga < (lastX x T).next) := by
  induction t with
  | nil => exact fun _ _ => ⟨Int.le_refl _, by simp [lastX], fun m h => by simp [mosL] at h⟩
  | stop => exact fun _ _ => ⟨Int.le_refl _, by simp only [lastX]; omega, fun m h => by simp [mosL] at h⟩
  | @go x y v r x' y' c T b _ _ _ ok g _ ih =>
    intro hx hs
    obtain ⟨h1, h2, h3⟩ := ih ok fun w hw => hs w (List.mem_cons_of_mem _ hw)
    have hn : x.next ≤ x'.next ∧ x'.next ≤ x.next + 1 := by
      rcases g.n with ⟨_, _, h⟩ | ⟨_, h⟩ <;> omega
    have hm : MOK x x' v := ⟨hx, ok, g, (short_ev (hs _ List.mem_cons_self)).1⟩
    rw [lastX]
    refine ⟨by omega, by simp only [List.length_cons]; omega, fun m h => ?_⟩
    rw [mosL, List.mem_cons] at h
    rcases h with rfl | h
    · obtain ⟨hg, hst⟩ := g.b rfl
      obtain ⟨k0, k10, n0, n1, s0⟩ := ev_in hg
      by_cases c0 : v.kind = 0
      · exact .inl c0
      · refine .inr ⟨s0, ?_⟩
        by_cases c1 : v.kind = 1
        · have := hst c1
          rcases g.n with ⟨_, _, h⟩ | ⟨h, _⟩
          · dsimp only; omega
          · exact absurd ⟨rfl, c1⟩ h
        · obtain ⟨d, t, s, s', a⟩ := hm.act (by omega)
          have := a.i1
          dsimp only; omega
    · exact h3 m h
def phVals : List Value := [Value.string ⟨#[114, 117, 110, 110, 105, 110, 103]⟩, Value.string ⟨#[117, 110, 100, 111, 105, 110, 103]⟩, Value.string ⟨#[112, 97, 114, 107, 101, 100]⟩, Value.string ⟨#[99, 111, 109, 112, 108, 101, 116, 101, 100]⟩, Value.string ⟨#[99, 111, 109, 112, 101, 110, 115, 97, 116, 101, 100]⟩, Value.string ⟨#[97, 98, 97, 110, 100, 111, 110, 101, 100]⟩]
def phTab : List AV := phVals.map AV.v
theorem fn_Phase {E : Prog} (hE : Std E fns) (hg : E.glob 0 = some phTab) (n : Int) (h0 : 0 ≤ n) (h1 : n ≤ 5) : callP E f_script_Phase [vi n] = some (vs (BA (phW n))) := by
  rw [hE.run rfl rfl]
  have hn : n = 0 ∨ n = 1 ∨ n = 2 ∨ n = 3 ∨ n = 4 ∨ n = 5 := by omega
  rcases hn with rfl | rfl | rfl | rfl | rfl | rfl <;> simp -implicitDefEqProofs only [go_sem, ir_script_Phase, hg, phTab, phVals, List.map_cons, List.map_nil, ev_iap, iapF] <;> rfl
theorem fn_moSaga {E : Prog} (hE : Std E fns) (m : MoT) (h : m.ok) (k : Int) : callP E f_history_moment_saga [.agg m.cells, vi k] = some (.tup [sA (sgAt m.x.sagas.list k).1, sA (sgAt m.y.sagas.list k).1, vb (sgAt m.y.sagas.list k).2]) := by
  have h1 := fn_stFind hE m.x h.ok.sl k
  have h2 := fn_stFind hE m.y h.ok'.sl k
  rw [hE.run rfl rfl]
  simp -implicitDefEqProofs only [go_sem, ir_history_moment_saga, MoT.cells, h1, h2, ro_def, ro_sg, ro_step, boxQ_av, boxQ_ref, boxQ_rop, exA_av, exA_rop]
theorem tryL_len {d : DefT} (hd : DOK d) {step : Int} {t : StepT} (ht : d.steps.list[step.toNat]? = some t) (u : Bool) {n : Int} (n0 : 0 ≤ n) (n1 : n ≤ 2000) : (tryL d step u n).length ≤ 130 := by
  have h1 := (hd.sh.2.2 t (List.mem_of_getElem? ht)).1
  have h2 := itoa_len n0 (by omega)
  rw [← ba_of t.name, ba_size] at h1
  unfold tryL
  rw [ht]
  cases u <;> simp only [List.length_cons, List.length_append, if_true, Bool.false_eq_true, if_false, List.length_nil] <;> omega
theorem fn_moTry {E : Prog} (hE : Std E fns) (hi : IOK E) (m : MoT) (h : m.ok) (s : SgT) (d : DefT) (hd : DOK d) (hdf : defAt m.y.defs.list s.df = (d, true)) (step : Int) (t : StepT) (h0 : 0 ≤ step) (ht : d.steps.list[step.toNat]? = some t) (u : Bool) (n : Int) (n0 : 0 ≤ n) (n1 : n ≤ 2000) :
    callP E f_history_moment_try [.agg m.cells, sA s, vi step, vb u, vi n] = some (vs (BA (tryL d step u n))) := by
  have hD := fn_Def hE m.y.defs m.y.sagas m.y.next h.ok'.dl h.ok'.dk s.df
  rw [hdf] at hD
  have hit := hi n (by omega) (by omega)
  have h1 := (hd.sh.2.2 t (List.mem_of_getElem? ht)).1
  have h2 := itoa_len n0 (by omega)
  rw [← ba_of t.name, ba_size] at h1
  have e0 : (⟨#[32]⟩ : ByteArray) = BA [32] := rfl
  have e1 : (⟨#[32, 117, 110, 100, 111, 32]⟩ : ByteArray) = BA [32, 117, 110, 100, 111, 32] := rfl
  have e2 : (⟨#[32, 100, 111, 32]⟩ : ByteArray) = BA [32, 100, 111, 32] := rfl
  have s1 : ¬ (9223372036854775807 : Int) < (((BA [32]).size + (BA t.name.data.toList).size : Nat) : Int) := by simp only [ba_size, List.length_cons, List.length_nil]; omega
  have s2 : ¬ (9223372036854775807 : Int) < (((BA ([32] ++ t.name.data.toList)).size + (BA [32, 117, 110, 100, 111, 32]).size : Nat) : Int) := by simp only [ba_size, List.length_append, List.length_cons, List.length_nil]; omega
  have s2' : ¬ (9223372036854775807 : Int) < (((BA ([32] ++ t.name.data.toList)).size + (BA [32, 100, 111, 32]).size : Nat) : Int) := by simp only [ba_size, List.length_append, List.length_cons, List.length_nil]; omega
  have s3 : ¬ (9223372036854775807 : Int) < (((BA ([32] ++ t.name.data.toList ++ [32, 117, 110, 100, 111, 32])).size + (BA (Lib.itoa n)).size : Nat) : Int) := by simp only [ba_size, List.length_append, List.length_cons, List.length_nil]; omega
  have s3' : ¬ (9223372036854775807 : Int) < (((BA ([32] ++ t.name.data.toList ++ [32, 100, 111, 32])).size + (BA (Lib.itoa n)).size : Nat) : Int) := by simp only [ba_size, List.length_append, List.length_cons, List.length_nil]; omega
  have hcells : t.cells = [vs (BA t.name.data.toList), vs t.party, vi t.timeout, vi t.tr.ret, vi t.tr.base, vi t.tr.fac, vi t.tr.cap, vi t.un.ret, vi t.un.base, vi t.un.fac, vi t.un.cap, vi t.prio] := by rw [ba_of]; rfl
  have hlt := (List.getElem?_eq_some_iff.1 ht).1
  have c4 : 0 ≤ step := h0
  simp only [List.append_assoc, List.cons_append, List.nil_append] at s2 s2' s3 s3'
  rw [hE.run rfl rfl]
  unfold tryL
  rw [ht]
  dsimp only
  cases u
  · simp -implicitDefEqProofs only [go_sem, ir_history_moment_try, MoT.cells, hD, hit, ht, c4, e0, e1, e2, hcells, ba_app, List.append_assoc, s1, s2, s2', s3, s3', ro_def, ro_sg, ro_step]
    try rfl
  · simp -implicitDefEqProofs only [go_sem, ir_history_moment_try, MoT.cells, hD, hit, ht, c4, e0, e1, e2, hcells, ba_app, List.append_assoc, s1, s2, s2', s3, s3', ro_def, ro_sg, ro_step]
    try rfl
structure Said (E : Prog) (m : MoT) (s s' : SgT) (d : DefT) : Prop where
  run : callP E f_history_moment_deed [.agg m.cells, sA s, sA s'] = some (vs (BA (deedL m.v d s)))
  len : (deedL m.v d s).length ≤ 300
section
variable {E : Prog} (hE : Std E fns) (hi : IOK E) (m : MoT) (h : m.ok)
include hE h
theorem deed_1 (hk : m.v.kind = 1) (s s' : SgT) (d : DefT) : Said E m s s' d := by
  have hn := h.nm
  obtain ⟨⟨kd, nw, sg, nm, ⟨r1, r2, r3, r4, r5⟩, df⟩, x, y⟩ := m
  obtain ⟨L, rfl⟩ : ∃ L, nm = BA L := ⟨nm.data.toList, (ba_of _).symm⟩
  dsimp only at hk hn
  subst hk
  rw [ba_size] at hn
  have e0 : (⟨#[115, 116, 97, 114, 116, 32]⟩ : ByteArray) = BA [115, 116, 97, 114, 116, 32] := rfl
  have e1 : deedL ⟨1, nw, sg, BA L, ⟨r1, r2, r3, r4, r5⟩, df⟩ d s = [115, 116, 97, 114, 116, 32] ++ L := by rw [deedL, if_pos rfl]; dsimp only; rw [ba_data]
  have s1 : ¬ (9223372036854775807 : Int) < (((BA [115, 116, 97, 114, 116, 32]).size + (BA L).size : Nat) : Int) := by simp only [ba_size, List.length_cons, List.length_nil]; omega
  refine ⟨?_, ?_⟩
  · dsimp only
    rw [e1, hE.run rfl rfl]
    simp -implicitDefEqProofs only [go_sem, ir_history_moment_deed, MoT.cells, e0, ba_app, s1, ro_def, ro_sg, ro_step]
  · dsimp only
    rw [e1]
    simp only [List.length_append, List.length_cons, List.length_nil]; omega
include hi
theorem deed_2 (hk : m.v.kind = 2) (d : DefT) (t : StepT) (s s' : SgT) (a : Act2 m.x m.y m.v d t s s') : Said E m s s' d := by
  have so := a.so; have t0 := so.t0; have t1 := so.t1
  have hem := a.em hk
  have ht := fn_moTry hE hi m h s d a.dk a.df' s.step t so.s0 so.st (decide (s.phase = 1)) (s.tries + 1) (by omega) (by omega)
  have hl := tryL_len a.dk (step := s.step) so.st (decide (s.phase = 1)) (n := (s.tries + 1)) (by omega) (by omega)
  rw [← hem] at ht hl
  have hd : deedL m.v d s = [115, 101, 110, 100] ++ tryL d s.step (decide (s.phase = 1)) s'.tries := by
    unfold deedL
    rw [if_neg (by omega), if_pos hk, hem]
  clear a so
  generalize tryL d s.step (decide (s.phase = 1)) s'.tries = L at ht hl hd
  refine ⟨?_, by rw [hd]; simp only [List.length_append, List.length_cons, List.length_nil]; omega⟩
  rw [hd]
  clear hd
  have e0 : (⟨#[115, 101, 110, 100]⟩ : ByteArray) = BA [115, 101, 110, 100] := rfl
  have s1 : ¬ (9223372036854775807 : Int) < (((BA [115, 101, 110, 100]).size + (BA L).size : Nat) : Int) := by simp only [ba_size, List.length_cons, List.length_nil]; omega
  clear h
  obtain ⟨⟨kd, nw, sg, nm, ⟨r1, r2, r3, r4, r5⟩, df⟩, x, y⟩ := m
  obtain ⟨i, sdf, b, ph, sp, tr, o, du, sk⟩ := s
  obtain ⟨i', sdf', b', ph', sp', tr', o', du', sk'⟩ := s'
  dsimp only at *
  subst hk
  simp only [MoT.cells] at ht
  rw [hE.run rfl rfl]
  simp -implicitDefEqProofs only [go_sem, ir_history_moment_deed, MoT.cells, ht, e0, ba_app, s1, ro_def, ro_sg, ro_step, tf_b, ft_b]
theorem deed_3g (hk : m.v.kind = 3) (hg : m.v.rep.good = true) (d : DefT) (t : StepT) (s s' : SgT) (a : Act2 m.x m.y m.v d t s s') : Said E m s s' d := by
  have so := a.so; have t0 := so.t0; have t1 := so.t1
  obtain ⟨p1, p2, p3⟩ := a.rp hk
  have ht := fn_moTry hE hi m h s d a.dk a.df' m.v.rep.step t (by rw [p1]; exact so.s0) (by rw [p1]; exact so.st) m.v.rep.undo m.v.rep.try_ (by omega) (by omega)
  have hl := tryL_len a.dk (step := m.v.rep.step) (by rw [p1]; exact so.st) m.v.rep.undo (n := m.v.rep.try_) (by omega) (by omega)
  have hd : deedL m.v d s = [103, 111, 111, 100] ++ tryL d m.v.rep.step m.v.rep.undo m.v.rep.try_ := by
    unfold deedL
    rw [if_neg (by omega), if_neg (by omega), if_pos hk, hg]
    rfl
  clear a so
  generalize tryL d m.v.rep.step m.v.rep.undo m.v.rep.try_ = L at ht hl hd
  refine ⟨?_, by rw [hd]; simp only [List.length_append, List.length_cons, List.length_nil]; omega⟩
  rw [hd]
  clear hd
  have e0 : (⟨#[103, 111, 111, 100]⟩ : ByteArray) = BA [103, 111, 111, 100] := rfl
  have s1 : ¬ (9223372036854775807 : Int) < (((BA [103, 111, 111, 100]).size + (BA L).size : Nat) : Int) := by simp only [ba_size, List.length_cons, List.length_nil]; omega
  clear h
  obtain ⟨⟨kd, nw, sg, nm, ⟨r1, r2, r3, r4, r5⟩, df⟩, x, y⟩ := m
  obtain ⟨i, sdf, b, ph, sp, tr, o, du, sk⟩ := s
  obtain ⟨i', sdf', b', ph', sp', tr', o', du', sk'⟩ := s'
  dsimp only at *
  subst hk hg
  simp only [MoT.cells] at ht
  rw [hE.run rfl rfl]
  simp -implicitDefEqProofs only [go_sem, ir_history_moment_deed, MoT.cells, ht, e0, ba_app, s1, ro_def, ro_sg, ro_step, tf_b, ft_b]
theorem deed_3b (hk : m.v.kind = 3) (hg : m.v.rep.good = false) (d : DefT) (t : StepT) (s s' : SgT) (a : Act2 m.x m.y m.v d t s s') : Said E m s s' d := by
  have so := a.so; have t0 := so.t0; have t1 := so.t1
  obtain ⟨p1, p2, p3⟩ := a.rp hk
  have ht := fn_moTry hE hi m h s d a.dk a.df' m.v.rep.step t (by rw [p1]; exact so.s0) (by rw [p1]; exact so.st) m.v.rep.undo m.v.rep.try_ (by omega) (by omega)
  have hl := tryL_len a.dk (step := m.v.rep.step) (by rw [p1]; exact so.st) m.v.rep.undo (n := m.v.rep.try_) (by omega) (by omega)
  have hd : deedL m.v d s = [98, 97, 100] ++ tryL d m.v.rep.step m.v.rep.undo m.v.rep.try_ := by
    unfold deedL
    rw [if_neg (by omega), if_neg (by omega), if_pos hk, hg]
    rfl
  clear a so
  generalize tryL d m.v.rep.step m.v.rep.undo m.v.rep.try_ = L at ht hl hd
  refine ⟨?_, by rw [hd]; simp only [List.length_append, List.length_cons, List.length_nil]; omega⟩
  rw [hd]
  clear hd
  have e0 : (⟨#[98, 97, 100]⟩ : ByteArray) = BA [98, 97, 100] := rfl
  have s1 : ¬ (9223372036854775807 : Int) < (((BA [98, 97, 100]).size + (BA L).size : Nat) : Int) := by simp only [ba_size, List.length_cons, List.length_nil]; omega
  clear h
  obtain ⟨⟨kd, nw, sg, nm, ⟨r1, r2, r3, r4, r5⟩, df⟩, x, y⟩ := m
  obtain ⟨i, sdf, b, ph, sp, tr, o, du, sk⟩ := s
  obtain ⟨i', sdf', b', ph', sp', tr', o', du', sk'⟩ := s'
  dsimp only at *
  subst hk hg
  simp only [MoT.cells] at ht
  rw [hE.run rfl rfl]
  simp -implicitDefEqProofs only [go_sem, ir_history_moment_deed, MoT.cells, ht, e0, ba_app, s1, ro_def, ro_sg, ro_step, tf_b, ft_b]
theorem deed_4 (hk : m.v.kind = 4) (d : DefT) (t : StepT) (s s' : SgT) (a : Act2 m.x m.y m.v d t s s') : Said E m s s' d := by
  have so := a.so; have t0 := so.t0; have t1 := so.t1
  have ht := fn_moTry hE hi m h s d a.dk a.df' s.step t so.s0 so.st (decide (s.phase = 1)) s.tries (by omega) (by omega)
  have hl := tryL_len a.dk (step := s.step) so.st (decide (s.phase = 1)) (n := s.tries) (by omega) (by omega)
  have hd : deedL m.v d s = [108, 97, 116, 101] ++ tryL d s.step (decide (s.phase = 1)) s.tries := by
    unfold deedL
    rw [if_neg (by omega), if_neg (by omega), if_neg (by omega), if_pos hk]
  clear a so
  generalize tryL d s.step (decide (s.phase = 1)) s.tries = L at ht hl hd
  refine ⟨?_, by rw [hd]; simp only [List.length_append, List.length_cons, List.length_nil]; omega⟩
  rw [hd]
  clear hd
  have e0 : (⟨#[108, 97, 116, 101]⟩ : ByteArray) = BA [108, 97, 116, 101] := rfl
  have s1 : ¬ (9223372036854775807 : Int) < (((BA [108, 97, 116, 101]).size + (BA L).size : Nat) : Int) := by simp only [ba_size, List.length_cons, List.length_nil]; omega
  clear h
  obtain ⟨⟨kd, nw, sg, nm, ⟨r1, r2, r3, r4, r5⟩, df⟩, x, y⟩ := m
  obtain ⟨i, sdf, b, ph, sp, tr, o, du, sk⟩ := s
  obtain ⟨i', sdf', b', ph', sp', tr', o', du', sk'⟩ := s'
  dsimp only at *
  subst hk
  simp only [MoT.cells] at ht
  rw [hE.run rfl rfl]
  simp -implicitDefEqProofs only [go_sem, ir_history_moment_deed, MoT.cells, ht, e0, ba_app, s1, ro_def, ro_sg, ro_step, tf_b, ft_b]
omit hi
theorem deed_w (h0 : 5 ≤ m.v.kind) (h1 : m.v.kind ≤ 10) (s s' : SgT) (d : DefT) : Said E m s s' d := by
  have hd : deedL m.v d s = kdW m.v.kind := by
    unfold deedL
    rw [if_neg (by omega), if_neg (by omega), if_neg (by omega), if_neg (by omega)]
  refine ⟨?_, by rw [hd]; have := kdW_len m.v.kind; omega⟩
  rw [hd]
  clear hd h
  obtain ⟨⟨kd, nw, sg, nm, ⟨r1, r2, r3, r4, r5⟩, df⟩, x, y⟩ := m
  dsimp only at *
  rw [hE.run rfl rfl]
  have hk : kd = 5 ∨ kd = 6 ∨ kd = 7 ∨ kd = 8 ∨ kd = 9 ∨ kd = 10 := by omega
  rcases hk with rfl | rfl | rfl | rfl | rfl | rfl <;> simp -implicitDefEqProofs only [go_sem, ir_history_moment_deed, MoT.cells, ev_iap, iapF, Int.reduceToNat, ro_def, ro_sg, ro_step] <;> rfl
end
theorem said_of {E : Prog} (hE : Std E fns) (hi : IOK E) (m : MoT) (h : m.ok) (hk : m.v.kind ≠ 0) :
    Said E m (sgAt m.x.sagas.list m.v.saga).1 (sgAt m.y.sagas.list m.v.saga).1 (defAt m.x.defs.list (sgAt m.x.sagas.list m.v.saga).1.df).1 ∧
    ((sgAt m.y.sagas.list m.v.saga).2 = true → m.v.kind ≠ 1 → 0 ≤ (sgAt m.y.sagas.list m.v.saga).1.phase ∧ (sgAt m.y.sagas.list m.v.saga).1.phase ≤ 5) := by
  obtain ⟨hg, _⟩ := h.g.b rfl
  obtain ⟨k0, k10, n0, n1, s0⟩ := ev_in hg
  by_cases k1 : m.v.kind = 1
  · exact ⟨deed_1 hE m h k1 _ _ _, fun _ hh => absurd k1 hh⟩
  · obtain ⟨d, t, s, s', a⟩ := h.act (by omega)
    rw [a.wa]
    dsimp only
    rw [a.df]
    by_cases k10 : m.v.kind = 10
    · rw [a.is10 k10]
      exact ⟨deed_w hE m h (by omega) (by omega) _ _ _, fun hh => by cases hh⟩
    · obtain ⟨i1, i2, i3⟩ := a.is9 (by omega)
      rw [i1]
      refine ⟨?_, fun _ _ => ⟨i2, i3⟩⟩
      by_cases k2 : m.v.kind = 2
      · exact deed_2 hE hi m h k2 d t s s' a
      · by_cases k3 : m.v.kind = 3
        · cases hgd : m.v.rep.good with
          | true => exact deed_3g hE hi m h k3 hgd d t s s' a
          | false => exact deed_3b hE hi m h k3 hgd d t s s' a
        · by_cases k4 : m.v.kind = 4
          · exact deed_4 hE hi m h k4 d t s s' a
          · exact deed_w hE m h (by omega) (by omega) _ _ _
theorem fn_moLine {E : Prog} (hE : Std E fns) (hi : IOK E) (hg : E.glob 0 = some phTab) (m : MoT) (h : m.ok) (hk : m.v.kind ≠ 0) : callP E f_history_moment_line [.agg m.cells] = some (vs (BA m.line)) ∧ m.line.length ≤ 400 := by
  obtain ⟨hs, hp⟩ := said_of hE hi m h hk
  have hsg := fn_moSaga hE m h m.v.saga
  obtain ⟨hgd, _⟩ := h.g.b rfl
  obtain ⟨k0, k10, n0, n1, s0⟩ := ev_in hgd
  have hit := hi m.v.now (by omega) (by omega)
  have hil := itoa_len n0 (by omega)
  unfold MoT.line mline
  generalize (defAt m.x.defs.list (sgAt m.x.sagas.list m.v.saga).1.df).1 = d at *
  generalize (sgAt m.x.sagas.list m.v.saga).1 = s at *
  generalize (sgAt m.y.sagas.list m.v.saga).1 = s' at *
  generalize (sgAt m.y.sagas.list m.v.saga).2 = bb at *
  obtain ⟨hd, hdl⟩ := hs
  unfold lineL
  generalize deedL m.v d s = D at *
  clear h hgd
  have hsf : (sfxL m.v s s' bb).length ≤ 14 := by
    unfold sfxL
    split
    · have := phW_len s'.phase
      simp only [List.length_append, List.length_cons, List.length_nil]; omega
    · exact Nat.zero_le _
  refine ⟨?_, by simp only [List.length_cons, List.length_append]; omega⟩
  have e1 : (⟨#[64]⟩ : ByteArray) = BA [64] := rfl
  have e2 : (⟨#[32]⟩ : ByteArray) = BA [32] := rfl
  have e3 : (⟨#[32, 62, 32]⟩ : ByteArray) = BA [32, 62, 32] := rfl
  have s1 : ¬ (9223372036854775807 : Int) < (((BA [64]).size + (BA (Lib.itoa m.v.now)).size : Nat) : Int) := by simp only [ba_size, List.length_cons, List.length_nil]; omega
  have s2 : ¬ (9223372036854775807 : Int) < (((BA ([64] ++ Lib.itoa m.v.now)).size + (BA [32]).size : Nat) : Int) := by simp only [ba_size, List.length_append, List.length_cons, List.length_nil]; omega
  have s3 : ¬ (9223372036854775807 : Int) < (((BA ([64] ++ Lib.itoa m.v.now ++ [32])).size + (BA D).size : Nat) : Int) := by simp only [ba_size, List.length_append, List.length_cons, List.length_nil]; omega
  simp only [List.append_assoc, List.cons_append, List.nil_append] at s2 s3
  have flat : ∀ z, callP E f_history_moment_line [.agg m.cells] = some z ↔ callP E f_history_moment_line [.agg m.cells] = some z := fun z => Iff.rfl
  clear flat
  by_cases cb : bb = true ∧ m.v.kind ≠ 1 ∧ s.phase ≠ s'.phase
  · obtain ⟨c1, c2, c3⟩ := cb
    obtain ⟨p1, p2⟩ := hp c1 c2
    have hph := fn_Phase hE hg s'.phase p1 p2
    have hpl := phW_len s'.phase
    have e4 : sfxL m.v s s' bb = [32, 62, 32] ++ phW s'.phase := by rw [sfxL, if_pos ⟨c1, c2, c3⟩]
    have s4 : ¬ (9223372036854775807 : Int) < (((BA [32, 62, 32]).size + (BA (phW s'.phase)).size : Nat) : Int) := by simp only [ba_size, List.length_cons, List.length_nil]; omega
    have s5 : ¬ (9223372036854775807 : Int) < (((BA ([64] ++ Lib.itoa m.v.now ++ [32] ++ D)).size + (BA ([32, 62, 32] ++ phW s'.phase)).size : Nat) : Int) := by simp only [ba_size, List.length_append, List.length_cons, List.length_nil]; omega
    simp only [List.append_assoc, List.cons_append, List.nil_append] at s5 s4
    rw [e4]
    clear e4 hp hsf
    subst c1
    obtain ⟨⟨kd, nw, sg, nm, ⟨r1, r2, r3, r4, r5⟩, df⟩, x, y⟩ := m
    obtain ⟨i, sdf, b, ph, sp, tr, o, du, sk⟩ := s
    obtain ⟨i', sdf', b', ph', sp', tr', o', du', sk'⟩ := s'
    dsimp only at *
    simp only [MoT.cells] at hsg hd
    rw [hE.run rfl rfl]
    simp -implicitDefEqProofs only [go_sem, ir_history_moment_line, MoT.cells, hsg, hd, hit, hph, e1, e2, e3, ba_app, List.append_assoc, s1, s2, s3, s4, s5, c2, c3, ro_def, ro_sg, ro_step]
  · have e4 : sfxL m.v s s' bb = [] := by rw [sfxL, if_neg cb]
    rw [e4]
    clear e4 hp hsf
    obtain ⟨⟨kd, nw, sg, nm, ⟨r1, r2, r3, r4, r5⟩, df⟩, x, y⟩ := m
    obtain ⟨i, sdf, b, ph, sp, tr, o, du, sk⟩ := s
    obtain ⟨i', sdf', b', ph', sp', tr', o', du', sk'⟩ := s'
    dsimp only at *
    simp only [MoT.cells] at hsg hd
    rw [hE.run rfl rfl]
    cases bb with
    | false =>
      simp -implicitDefEqProofs only [go_sem, ir_history_moment_line, MoT.cells, hsg, hd, hit, e1, e2, e3, ba_app, List.append_assoc, s1, s2, s3, ro_def, ro_sg, ro_step, List.append_nil]
    | true =>
      by_cases c2 : kd = 1
      · subst c2
        simp -implicitDefEqProofs only [go_sem, ir_history_moment_line, MoT.cells, hsg, hd, hit, e1, e2, e3, ba_app, List.append_assoc, s1, s2, s3, ro_def, ro_sg, ro_step, List.append_nil]
      · have c3 : ph = ph' := Classical.byContradiction fun hh => cb ⟨rfl, c2, hh⟩
        subst c3
        simp -implicitDefEqProofs only [go_sem, ir_history_moment_line, MoT.cells, hsg, hd, hit, e1, e2, e3, ba_app, List.append_assoc, s1, s2, s3, c2, ro_def, ro_sg, ro_step, List.append_nil]
end Go.Proofs.YtoobogpbejdocaaGreatDoor.Ev
