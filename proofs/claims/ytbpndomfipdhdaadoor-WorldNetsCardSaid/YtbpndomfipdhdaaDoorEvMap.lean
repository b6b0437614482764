/-
  Maps: made, asked, set, deleted from, counted, compared with nil.
-/
import Derived.Test.YtbpndomfipdhdaaDoorEvPrimD
import Derived.MapKept
set_option linter.unusedVariables false
set_option linter.unusedSimpArgs false
namespace Go.Proofs.YtbpndomfipdhdaaDoor.Ev
open Go.RowKit
section
variable {P : Program} {G : Nat → Option (List AV)} {bases : List Nat} {C : Ctx} {e : Env} {a : Act}

theorem ba_eq {x y : ByteArray} (h : x.toList = y.toList) : x = y := by
  rw [ByteArray.toList_eq, ByteArray.toList_eq] at h
  cases x; cases y
  simp only at h
  congr 1
  exact Array.ext' h
theorem ba_beq (x y : ByteArray) : (x == y) = (x.toList == y.toList) := by
  have h1 : (x == y) = (x.data == y.data) := rfl
  rw [h1, Bool.eq_iff_iff, beq_iff_eq, beq_iff_eq]
  exact ⟨fun e => by rw [ByteArray.toList_eq, ByteArray.toList_eq, e], fun e => by rw [ba_eq e]⟩
theorem eqV_true {t : TK} {k k' : Value} (h : eqV t k k' = some true) : k = k' := by
  unfold eqV at h
  split at h
  · split at h
    · rename_i hk; subst hk; simp at h; rw [h]
    · cases h
  · rename_i x y
    simp only [Option.some.injEq, beq_iff_eq] at h
    rw [ba_eq h]
  · simp at h; rw [h]
  · cases h
theorem eqV_kind {t : TK} {k : Value} (h : eqV t k k = some true) : (∃ i n, k = .int i n) ∨ (∃ s, k = .string s) ∨ ∃ b, k = .bool b := by
  unfold eqV at h
  split at h
  · rename_i k' _ _; exact .inl ⟨_, _, rfl⟩
  · exact .inr (.inl ⟨_, rfl⟩)
  · exact .inr (.inr ⟨_, rfl⟩)
  · cases h
theorem eqV_left {t : TK} {k k' : Value} {b : Bool} (h : eqV t k k' = some b) : eqV t k k = some true := by
  unfold eqV at h
  split at h
  · simp [eqV]
  · simp [eqV]
  · simp [eqV]
  · cases h
theorem eqV_false {t : TK} {k k' : Value} (h : eqV t k k' = some false) : k' ≠ k := fun e => by
  have := eqV_left h
  rw [e] at h
  rw [this] at h
  cases h
theorem sameBits_refl {t : TK} {k : Value} (h : eqV t k k = some true) : Instr.sameBits 10000 k k = true := by
  rcases eqV_kind h with ⟨i, n, rfl⟩ | ⟨s, rfl⟩ | ⟨b, rfl⟩ <;> simp [Instr.sameBits, ba_beq]
theorem sameNow_eq {d : TypeDesc} {t : TK} {k k' : Value} {b : Bool} (hd : kindOf d = some t) (h : eqV t k k' = some b) : Instr.sameNow d k k' = some b := by
  unfold kindOf at hd
  split at hd <;> cases hd
  · unfold eqV at h
    split at h
    · simpa [Instr.sameNow] using h
    · rename_i e; cases e
    · rename_i e; cases e
    · cases h
  · unfold eqV at h
    split at h
    · rename_i e; cases e
    · rename_i a c
      simp only [Instr.sameNow, ba_beq]
      exact h
    · rename_i e; cases e
    · cases h
  · unfold eqV at h
    split at h
    · rename_i e; cases e
    · rename_i e; cases e
    · simpa [Instr.sameNow] using h
    · cases h
theorem run_checkKey {kt : TypeId} {d : TypeDesc} {t : TK} (h : P.underlying kt = some d) (hd : kindOf d = some t) (b : Bool) (v : Value) (w : World) : (Instr.checkKey b 10000 kt v).run P w = .ok () w := by
  unfold Instr.checkKey
  unfold kindOf at hd
  simp only [Sem.run_bind, run_underlying h, Result.andThen_ok]
  split at hd <;> cases hd <;> rfl
theorem mapT_ok {mt : TypeId} {q : TK × TypeId} (h : mapT P mt = some q) : ∃ kt d, P.underlying mt = some (.map kt q.2) ∧ P.underlying kt = some d ∧ kindOf d = some q.1 := by
  unfold mapT at h
  split at h
  · rename_i k e hu
    simp only [Option.bind_eq_some_iff, Option.some.injEq] at h
    obtain ⟨d, h1, t, h2, rfl⟩ := h
    exact ⟨k, d, hu, h1, h2⟩
  · cases h
/-! ### the model's search -/
theorem find_ok {d : TypeDesc} {t : TK} {k : Value} (hd : kindOf d = some t) : ∀ {es : List (Value × AV)} {en : List MapEntry} {r : Option AV}, en.map (·.key) = es.map (·.1) → mfind t k es = some r → ∀ i,
    (r = none ∧ Instr.findNow d k en i = some none) ∨ ∃ j p m, es[j]? = some p ∧ en[j]? = some m ∧ r = some p.2 ∧ Instr.findNow d k en i = some (some (i + j, m.val))
  | [], [], r, _, h, i => by simp only [mfind, Option.some.injEq] at h; subst h; exact .inl ⟨rfl, rfl⟩
  | [], m :: en, r, hk, _, i => by simp at hk
  | p :: es, [], r, hk, _, i => by simp at hk
  | p :: es, m :: en, r, hk, h, i => by
    simp only [List.map_cons, List.cons.injEq] at hk
    obtain ⟨hk1, hk2⟩ := hk
    simp only [mfind] at h
    split at h
    · rename_i he
      cases h
      exact .inr ⟨0, p, m, rfl, rfl, rfl, by simp only [Instr.findNow, hk1, sameNow_eq hd he]; rfl⟩
    · rename_i he
      rcases find_ok hd hk2 h (i + 1) with ⟨h1, h2⟩ | ⟨j, q, n, h1, h2, h3, h4⟩
      · exact .inl ⟨h1, by simp only [Instr.findNow, hk1, sameNow_eq hd he, h2]⟩
      · exact .inr ⟨j + 1, q, n, h1, h2, h3, by simp only [Instr.findNow, hk1, sameNow_eq hd he, h4]; congr 3; omega⟩
    · cases h
theorem put_ok {d : TypeDesc} {t : TK} {k : Value} {x : AV} (hd : kindOf d = some t) : ∀ {es es' : List (Value × AV)} {en : List MapEntry}, en.map (·.key) = es.map (·.1) → mput t k x es = some es' → ∀ i,
    (es' = es ++ [(k, x)] ∧ (∀ m, m ∈ en → m.key ≠ k) ∧ Instr.findNow d k en i = some none) ∨ ∃ j m, en[j]? = some m ∧ m.key = k ∧ es' = es.set j (k, x) ∧ Instr.findNow d k en i = some (some (i + j, m.val))
  | [], es', [], _, h, i => by simp only [mput, Option.some.injEq] at h; subst h; exact .inl ⟨rfl, by simp, rfl⟩
  | [], _, m :: en, hk, _, i => by simp at hk
  | p :: es, _, [], hk, _, i => by simp at hk
  | p :: es, es', m :: en, hk, h, i => by
    simp only [List.map_cons, List.cons.injEq] at hk
    obtain ⟨hk1, hk2⟩ := hk
    simp only [mput] at h
    split at h
    · rename_i he
      cases h
      have := eqV_true he
      exact .inr ⟨0, m, rfl, by rw [hk1, this], by rw [this]; rfl, by simp only [Instr.findNow, hk1, sameNow_eq hd he]; rfl⟩
    · rename_i he
      split at h
      · rename_i l hl
        cases h
        rcases put_ok hd hk2 hl (i + 1) with ⟨h1, h0, h2⟩ | ⟨j, n, h1, h2, h3, h4⟩
        · exact .inl ⟨by rw [h1]; rfl, fun q hq => (List.mem_cons.1 hq).elim (fun e => by rw [e, hk1]; exact eqV_false he) (h0 q), by simp only [Instr.findNow, hk1, sameNow_eq hd he, h2]⟩
        · exact .inr ⟨j + 1, n, h1, h2, by rw [h3]; rfl, by simp only [Instr.findNow, hk1, sameNow_eq hd he, h4]; congr 3; omega⟩
      · cases h
    · cases h
theorem del_ok {d : TypeDesc} {t : TK} {k : Value} (hd : kindOf d = some t) : ∀ {es es' : List (Value × AV)} {en : List MapEntry}, en.map (·.key) = es.map (·.1) → mdel t k es = some es' → ∀ i,
    (es' = es ∧ Instr.findNow d k en i = some none) ∨ ∃ j m, en[j]? = some m ∧ es' = es.eraseIdx j ∧ Instr.findNow d k en i = some (some (i + j, m.val))
  | [], es', [], _, h, i => by simp only [mdel, Option.some.injEq] at h; subst h; exact .inl ⟨rfl, rfl⟩
  | [], _, m :: en, hk, _, i => by simp at hk
  | p :: es, _, [], hk, _, i => by simp at hk
  | p :: es, es', m :: en, hk, h, i => by
    simp only [List.map_cons, List.cons.injEq] at hk
    obtain ⟨hk1, hk2⟩ := hk
    simp only [mdel] at h
    split at h
    · rename_i he
      cases h
      exact .inr ⟨0, m, rfl, rfl, by simp only [Instr.findNow, hk1, sameNow_eq hd he]; rfl⟩
    · rename_i he
      split at h
      · rename_i l hl
        cases h
        rcases del_ok hd hk2 hl (i + 1) with ⟨h1, h2⟩ | ⟨j, n, h1, h3, h4⟩
        · exact .inl ⟨by rw [h1], by simp only [Instr.findNow, hk1, sameNow_eq hd he, h2]⟩
        · exact .inr ⟨j + 1, n, h1, by rw [h3]; rfl, by simp only [Instr.findNow, hk1, sameNow_eq hd he, h4]; congr 3; omega⟩
      · cases h
    · cases h
theorem MapR.keys {es : List (Value × AV)} {en : List MapEntry} (h : MapR C es en) : en.map (·.key) = es.map (·.1) := by
  apply List.ext_getElem?
  intro i
  simp only [List.getElem?_map]
  by_cases hi : i < es.length
  · have hj : i < en.length := by rw [← h.1]; exact hi
    rw [List.getElem?_eq_getElem hi, List.getElem?_eq_getElem hj]
    simp only [Option.map_some, (h.2 i _ _ (List.getElem?_eq_getElem hi) (List.getElem?_eq_getElem hj)).1]
  · have hj : ¬ i < en.length := by rw [← h.1]; exact hi
    rw [List.getElem?_eq_none (by omega), List.getElem?_eq_none (by omega)]; rfl
/-- What a map's value lies in. -/
theorem mapOf_ok (hO : C.OK) {m : AV} {c : Value} {es : List (Value × AV)} (hv : VR C m c) (h : mapOf C.st m = some es) :
    (c = .map none ∧ es = []) ∨ ∃ id b o en clock, m = .mp id ∧ c = .map (some b) ∧ C.st[id]? = some (.map es) ∧ C.B[id]? = some (b, o) ∧ C.w.heap[b]? = some (.map en clock) ∧ MapR C es en.toList ∧ MapKept.Stamped en clock := by
  unfold mapOf at h
  split at h
  · simp only [Option.some.injEq] at h; subst h
    exact .inl ⟨VR_plain hv, rfl⟩
  · rename_i id
    split at h
    · rename_i es' hst
      simp only [Option.some.injEq] at h; subst h
      simp only [VR] at hv
      obtain ⟨es2, b, o, h1, h2, h3⟩ := hv
      obtain ⟨b', o', hB, hR⟩ := hO.get hst
      rw [h2] at hB; injection hB with hB; injection hB with q1 q2; subst q1; subst q2
      simp only [ObR] at hR
      obtain ⟨en, cl, h4, h6, h5⟩ := hR
      exact .inr ⟨id, b, o, en, cl, rfl, h3, hst, h2, h4, h5, h6⟩
    · cases h
  · cases h
theorem VR_zeroA {t : TypeId} {z : AV} (h : zeroA P t = some z) : ∃ v, (∀ w, (zeroValue t).run P w = .ok v w) ∧ VR C z v ∧ z.tuple = false := by
  unfold zeroA at h
  simp only [Option.bind_eq_some_iff] at h
  obtain ⟨i, hi, x, hx, h⟩ := h
  split at h
  · rename_i hq
    simp only [Option.some.injEq] at h
    subst h
    exact ⟨x, fun w => by simp [zeroValue, run_typeInfo w hi, hx], VR_ofVal hq, ofVal_tuple hq⟩
  · cases h
theorem ps_lk {mt : TypeId} {ok : Bool} {m k : Operand} {q : TK × TypeId} {z : AV} {p : Prim} (hm : mapT P mt = some q) (hz : zeroA P q.2 = some z)
    (hc : ((cOpd m).bind fun m => (cOpd k).bind fun k => some (Prim.lk q.1 ok z m k)) = some p) : PS P G bases (.lookup mt m k ok) p := by
  intro C e a oo r st' hoo hO hg hE h
  simp only [Option.bind_eq_some_iff, Option.some.injEq] at hc
  obtain ⟨m', h1, k', h2, rfl⟩ := hc
  obtain ⟨kt, d, u1, u2, hd⟩ := mapT_ok hm
  obtain ⟨zv, z1, z2, z3⟩ := VR_zeroA (C := C) hz
  simp only [Prim.ev] at h
  obtain ⟨mv, k1, h⟩ := ev1 h
  split at h
  · rename_i kv k2
    split at h
    · rename_i es k3
      split at h
      · rename_i rr k4
        simp only [Option.some.injEq, Prod.mk.injEq] at h
        obtain ⟨rfl, rfl⟩ := h
        have e2 := VR_plain (cOpd_ok h2 hg hE k2)
        have e1 := cOpd_ok h1 hg hE k1
        -- the model's answer
        have key : ∃ (v : Value) (b : Bool), (Instr.lookup mt (a.eval m) (a.eval k) ok).run P C.w = .ok (if ok then .tuple #[v, .bool b] else v) C.w ∧ VR C (rr.getD z) v ∧ b = rr.isSome := by
          rcases mapOf_ok hO e1 k3 with ⟨c1, c2⟩ | ⟨id, b, o, en, cl, rfl, c1, c2, c3, c4, c5, c6⟩
          · subst c2
            simp only [mfind, Option.some.injEq] at k4; subst k4
            refine ⟨zv, false, ?_, z2, rfl⟩
            simp [Instr.lookup, run_underlying u1, c1, run_checkKey u2 hd, Instr.findKey, run_underlying u2, Instr.findNow, z1]
          · rcases find_ok hd c5.keys k4 0 with ⟨rfl, f1⟩ | ⟨j, p, n, f1, f2, rfl, f3⟩
            · refine ⟨zv, false, ?_, z2, rfl⟩
              simp [Instr.lookup, run_underlying u1, c1, run_checkKey u2 hd, Instr.findKey, run_underlying u2, e2, f1, z1, getObj, Sem.run, c4]
            · obtain ⟨g1, g2, g3⟩ := c5.2 j p n f1 f2
              refine ⟨n.val, true, ?_, g3, rfl⟩
              simp [Instr.lookup, run_underlying u1, c1, run_checkKey u2 hd, Instr.findKey, run_underlying u2, e2, f3, z1, getObj, Sem.run, c4]
        obtain ⟨v, b, hr, hv, rfl⟩ := key
        refine Does.stay hO (x := if ok then .tuple #[v, .bool rr.isSome] else v) ?_ ?_
        · simp [execOp, hoo, hr]
        · unfold lkR
          cases ok
          · simpa using hv
          · simp only [if_true, VR]
            exact ⟨_, rfl, by simp only [VRt]; exact ⟨_, _, rfl, hv, _, _, rfl, VR_v rfl, rfl⟩⟩
      · cases h
    · cases h
  · cases h
/-- A map turns. -/
theorem does_map {oo : Oper} (hO : C.OK) {id b o : Nat} {es es' : List (Value × AV)} {en en' : Array MapEntry} {cl cl' : Nat} (h1 : C.st[id]? = some (.map es)) (h2 : C.B[id]? = some (b, o)) (h3 : C.w.heap[b]? = some (.map en cl))
    {n : Next} (hn : n = .value (.tuple #[]) ∨ n = .skip) (hr : (execOp a.eval oo).run P C.w = .ok n { C.w with heap := C.w.heap.setIfInBounds b (.map en' cl') })
    (hm : MapR C es' en'.toList) (hs' : MapKept.Stamped en' cl') : Does P a oo C (.tup []) (C.st.set id (.map es')) := by
  obtain ⟨hat, hot⟩ := MapKept.heap_set (o' := .map en' cl') h3
  have T : Turn C { C.w with heap := C.w.heap.setIfInBounds b (.map en' cl') } id b o b o (.map es) (.map es') := by
    refine ⟨h1, h2, by simp [Ob.next], .inl ⟨by simp [Ob.still], rfl, rfl⟩, rfl, rfl, rfl, by simp, fun k _ hk => hot k hk, ?_, fun ad c hb hs => ?_, fun _ _ => .inl ⟨rfl, trivial⟩, .inl rfl⟩
    · unfold World.shape?
      simp only [hat, h3]
    · have := hs.1
      unfold World.cell? at this
      rw [hb, h3] at this
      cases this
  have hx := ext_set hO T
  have hk : (C.set { C.w with heap := C.w.heap.setIfInBounds b (.map en' cl') } id b o (.map es')).OK := ok_set hO T (by simp only [ObR]; exact ⟨en', cl', hat, hs', MapR_ext hx hm⟩)
  have ht : VR (C.set { C.w with heap := C.w.heap.setIfInBounds b (.map en' cl') } id b o (.map es')) (.tup []) (.tuple #[]) := by simp only [VR, VRt]; exact ⟨_, rfl, rfl⟩
  rcases hn with rfl | rfl
  · exact ⟨_, _, .tuple #[], hr, .inl rfl, hx, hk, rfl, ht⟩
  · exact ⟨_, _, .tuple #[], hr, .inr ⟨rfl, rfl⟩, hx, hk, rfl, ht⟩
theorem getD_key {en : Array MapEntry} {j : Nat} {n : MapEntry} (h : en.toList[j]? = some n) (d : Value) : ((en[j]?).map (·.key)).getD d = n.key := by
  rw [Array.getElem?_toList] at h
  rw [h]; rfl
theorem ps_mup {mt : TypeId} {m k x : Operand} {q : TK × TypeId} {p : Prim} (hm : mapT P mt = some q)
    (hc : ((cOpd m).bind fun m => (cOpd k).bind fun k => (cOpd x).bind fun x => some (Prim.mup q.1 m k x)) = some p) : PS P G bases (.mapUpdate mt m k x) p := by
  intro C e a oo r st' hoo hO hg hE h
  simp only [Option.bind_eq_some_iff, Option.some.injEq] at hc
  obtain ⟨m', h1, k', h2, x', h3, rfl⟩ := hc
  obtain ⟨kt, d, u1, u2, hd⟩ := mapT_ok hm
  simp only [Prim.ev] at h
  split at h
  · rename_i id k1
    split at h
    · rename_i kv k2
      split at h
      · rename_i av k3
        split at h
        · rename_i hq
          split at h
          · rename_i es k4
            split at h
            · rename_i es' k5
              simp only [Option.some.injEq, Prod.mk.injEq] at h
              obtain ⟨rfl, rfl⟩ := h
              have e2 := VR_plain (cOpd_ok h2 hg hE k2)
              have e1 := cOpd_ok h1 hg hE k1
              have e3 := cOpd_ok h3 hg hE k3
              rcases mapOf_ok hO (m := .mp id) (es := es) e1 (by simp [mapOf, k4]) with ⟨c1, c2⟩ | ⟨id', b, o, en, cl, hid, c1, c2, c3, c4, c5, c6⟩
              · simp only [VR] at e1
                obtain ⟨_, _, _, _, _, e1⟩ := e1
                rw [c1] at e1; cases e1
              · cases hid
                rcases put_ok hd c5.keys k5 0 with ⟨rfl, f0, f1⟩ | ⟨j, n, f1, f2, rfl, f3⟩
                · refine does_map hO c2 c3 c4 (en' := en.push { key := kv, val := a.eval x, born := cl }) (cl' := cl + 1) (.inr rfl) ?_ ?_ (MapKept.stamped_push c6 f0)
                  · simp [execOp, hoo, Instr.mapUpdate, run_underlying u1, c1, MapKept.run_getObj_map c4, run_checkKey u2 hd, MapKept.run_findKey u2 f1, MapKept.run_setObj_map _ c4, e2]
                  · refine ⟨by simp [c5.1], fun i p mm g1 g2 => ?_⟩
                    rw [Array.toList_push] at g2
                    by_cases hi : i < es.length
                    · rw [List.getElem?_append_left hi] at g1
                      rw [List.getElem?_append_left (by rw [← c5.1]; exact hi)] at g2
                      exact c5.2 i p mm g1 g2
                    · have hi2 : ¬ i < en.toList.length := by rw [← c5.1]; exact hi
                      rw [List.getElem?_append_right (by omega)] at g1 g2
                      rw [← c5.1] at g2
                      cases hz : i - es.length with
                      | zero => rw [hz] at g1 g2; simp at g1 g2; subst g1; subst g2; exact ⟨rfl, hq.1, e3⟩
                      | succ z => rw [hz] at g1; simp at g1
                · have hjl : j < en.size := by
                    have := (List.getElem?_eq_some_iff.1 f1).1
                    simpa using this
                  rw [Nat.zero_add] at f3
                  have hkk : Instr.keyThatStays (((en[j]?).map (·.key)).getD kv) kv = (pure kv : Sem Value) := by
                    rw [getD_key f1, f2]
                    unfold Instr.keyThatStays
                    rw [if_pos (sameBits_refl hq.2.2)]
                  refine does_map hO c2 c3 c4 (en' := en.modify j fun e => { e with key := kv, val := a.eval x }) (cl' := cl) (.inr rfl) ?_ ?_ (MapKept.stamped_modify c6 j _ (fun _ _ => rfl) fun e _ he => by rw [Array.getElem?_toList] at f1; rw [f1] at he; cases he; exact f2.symm)
                  · simp only [execOp, hoo, Instr.mapUpdate, run_underlying u1, c1, MapKept.run_getObj_map c4, run_checkKey u2 hd, e2, MapKept.run_findKey u2 f3, Sem.run_bind, Result.andThen_ok, hkk, Sem.run_pure, MapKept.run_setObj_map _ c4]
                  · refine ⟨by simp [c5.1], fun i p mm g1 g2 => ?_⟩
                    rw [Array.toList_modify, List.getElem?_modify] at g2
                    rw [List.getElem?_set] at g1
                    by_cases hi : j = i
                    · subst hi
                      rw [if_pos rfl] at g1
                      rw [f1] at g2
                      split at g1
                      · simp at g1 g2
                        subst g1; subst g2
                        exact ⟨rfl, hq.1, e3⟩
                      · cases g1
                    · rw [if_neg hi] at g1
                      simp only [if_neg hi] at g2
                      simp at g2
                      exact c5.2 i p mm g1 (by simpa using g2)
            · cases h
          · cases h
        · cases h
      · cases h
    · cases h
  · cases h
theorem ps_mdl {mt : TypeId} {ts : List TypeId} {m k : Operand} {q : TK × TypeId} {p : Prim} (hm : mapT P mt = some q)
    (hc : ((cOpd m).bind fun m => (cOpd k).bind fun k => some (Prim.mdl q.1 m k)) = some p) : PS P G bases (.call { callee := .builtin .delete, args := #[m, k], argTypes := ⟨mt :: ts⟩ }) p := by
  intro C e a oo r st' hoo hO hg hE h
  simp only [Option.bind_eq_some_iff, Option.some.injEq] at hc
  obtain ⟨m', h1, k', h2, rfl⟩ := hc
  obtain ⟨kt, d, u1, u2, hd⟩ := mapT_ok hm
  simp only [Prim.ev] at h
  split at h
  · rename_i id k1
    split at h
    · rename_i kv k2
      split at h
      · rename_i es k4
        split at h
        · rename_i es' k5
          simp only [Option.some.injEq, Prod.mk.injEq] at h
          obtain ⟨rfl, rfl⟩ := h
          have e2 := VR_plain (cOpd_ok h2 hg hE k2)
          have e1 := cOpd_ok h1 hg hE k1
          rcases mapOf_ok hO (m := .mp id) (es := es) e1 (by simp [mapOf, k4]) with ⟨c1, c2⟩ | ⟨id', b, o, en, cl, hid, c1, c2, c3, c4, c5, c6⟩
          · simp only [VR] at e1
            obtain ⟨_, _, _, _, _, e1⟩ := e1
            rw [c1] at e1; cases e1
          · cases hid
            have hz : (⟨mt :: ts⟩ : Array TypeId)[0]? = some mt := rfl
            rcases del_ok hd c5.keys k5 0 with ⟨rfl, f1⟩ | ⟨j, n, f1, rfl, f3⟩
            · refine does_map hO c2 c3 c4 (en' := en) (cl' := cl) (.inl rfl) ?_ c5 c6
              · simp [execOp, hoo, resolve, invoke, builtin, Builtin.delete_, hz, run_underlying u1, c1, MapKept.run_getObj_map c4, run_checkKey u2 hd, MapKept.run_findKey u2 f1, MapKept.run_setObj_map _ c4, e2]
            · have hjl : j < en.size := by
                have := (List.getElem?_eq_some_iff.1 f1).1
                simpa using this
              rw [Nat.zero_add] at f3
              have hsub : (en.eraseIdxIfInBounds j).toList = en.toList.eraseIdx j := by
                unfold Array.eraseIdxIfInBounds
                rw [dif_pos hjl]
                simp
              refine does_map hO c2 c3 c4 (en' := en.eraseIdxIfInBounds j) (cl' := cl) (.inl rfl) ?_ ?_ (MapKept.stamped_erase c6 j)
              · simp [execOp, hoo, resolve, invoke, builtin, Builtin.delete_, hz, run_underlying u1, c1, MapKept.run_getObj_map c4, run_checkKey u2 hd, MapKept.run_findKey u2 f3, MapKept.run_setObj_map _ c4, e2]
              · rw [hsub]
                refine ⟨by rw [List.length_eraseIdx, List.length_eraseIdx, c5.1], fun i p mm g1 g2 => ?_⟩
                rw [List.getElem?_eraseIdx] at g1 g2
                split at g1
                · rename_i hi
                  rw [if_pos hi] at g2
                  exact c5.2 i p mm g1 g2
                · rename_i hi
                  rw [if_neg hi] at g2
                  exact c5.2 _ p mm g1 g2
        · cases h
      · cases h
    · cases h
  · cases h
theorem ps_mkm {mt : TypeId} : PS P G bases (.makeMap mt none) .mkm := by
  intro C e a oo r st' hoo hO hg hE h
  simp only [Prim.ev, Option.some.injEq, Prod.mk.injEq] at h
  obtain ⟨rfl, rfl⟩ := h
  have hbl := below_alloc C.w (.map #[] 0)
  have hat := heap_push_at C.w (.map #[] 0)
  refine ⟨C.push (C.w.alloc (.map #[] 0)) C.w.heap.size 0 (.map []), _, .map (some C.w.heap.size), ?_, .inl rfl, ext_push hO hbl _ (Nat.le_refl _), ok_push hO hbl (Nat.le_refl _) ?_, rfl, ?_⟩
  · simp [execOp, hoo, Instr.makeMap]
    rfl
  · simp only [ObR]
    exact ⟨#[], 0, hat, MapKept.stamped_empty 0, by simp [MapR]⟩
  · simp only [VR]
    exact ⟨[], C.w.heap.size, 0, push_st, push_B hO, rfl⟩
theorem ps_lenm {t kt el : TypeId} {x : Operand} {p : Prim} (hu : P.underlying t = some (.map kt el))
    (hc : ((cOpd x).bind fun x => some (Prim.lenm x)) = some p) : PS P G bases (.call { callee := .builtin .len, args := #[x], argTypes := #[t] }) p := by
  intro C e a oo r st' hoo hO hg hE h
  simp only [Option.bind_eq_some_iff, Option.some.injEq] at hc
  obtain ⟨y, h1, rfl⟩ := hc
  simp only [Prim.ev] at h
  obtain ⟨z, k1, h⟩ := ev1 h
  have e1 := cOpd_ok h1 hg hE k1
  split at h
  · rename_i es k2
    simp only [Option.some.injEq, Prod.mk.injEq] at h
    obtain ⟨rfl, rfl⟩ := h
    rcases mapOf_ok hO e1 k2 with ⟨c1, rfl⟩ | ⟨id, b, o, en, cl, rfl, c1, c2, c3, c4, c5, c6⟩
    · exact Does.stay hO (x := .int .i64 0) (by simp [execOp, hoo, resolve, invoke, builtin, Builtin.len_, run_underlying hu, c1, goInt]) (VR_v rfl)
    · refine Does.stay hO (x := .int .i64 es.length) ?_ (VR_v rfl)
      have := c5.1
      simp only [Array.length_toList] at this
      simp [execOp, hoo, resolve, invoke, builtin, Builtin.len_, run_underlying hu, c1, MapKept.run_getObj_map c4, goInt, this]
  · cases h
theorem run_equal_nilm {t kt el : TypeId} (hu : P.underlying t = some (.map kt el)) (b : Option Nat) (w : World) : (Op.equal t (.map b) (.map none)).run P w = .ok b.isNone w := by
  have key : ∀ d, (Op.equalIn (d + 1) t (.map b) (.map none)).run P w = .ok b.isNone w := by
    intro d
    cases b <;> simp [Op.equalIn, run_underlying hu]
  exact key 9999
theorem ps_isnilm {neg : Bool} {op : BinOp} {t yt kt el : TypeId} {x : Operand} {p : Prim} (hu : P.underlying t = some (.map kt el)) (hop : op = (if neg then .neq else .eql)) (hc : ((cOpd x).bind fun x => some (Prim.isnilm neg x)) = some p) : PS P G bases (.binOp op t x (.const (.map none)) yt) p := by
  intro C e a oo r st' hoo hO hg hE h
  simp only [Option.bind_eq_some_iff, Option.some.injEq] at hc
  obtain ⟨y, h1, rfl⟩ := hc
  have hrun : ∀ b, a.eval x = .map b → (execOp a.eval oo).run P C.w = .ok (.value (.bool (if neg then !b.isNone else b.isNone))) C.w := by
    intro b e1
    have e2 : a.eval (.const (.map none)) = .map none := rfl
    simp only [execOp, hoo, e1, e2, Sem.run_bind, run_eqGuard_one (show Value.map b ≠ .nilIface by simp) rfl, Result.andThen_ok]
    cases neg <;> simp at hop <;> subst hop <;> simp [binOp, run_equal_nilm hu]
  simp only [Prim.ev] at h
  split at h
  · rename_i k1
    simp only [Option.some.injEq, Prod.mk.injEq] at h
    obtain ⟨rfl, rfl⟩ := h
    have e1 := VR_plain (cOpd_ok h1 hg hE k1)
    refine Does.stay hO (hrun _ e1) ?_
    cases neg <;> exact VR_v rfl
  · rename_i id k1
    split at h
    · rename_i es k2
      simp only [Option.some.injEq, Prod.mk.injEq] at h
      obtain ⟨rfl, rfl⟩ := h
      have hv := cOpd_ok h1 hg hE k1
      simp only [VR] at hv
      obtain ⟨_, b, o, _, _, e1⟩ := hv
      refine Does.stay hO (hrun _ e1) ?_
      cases neg <;> exact VR_v rfl
    · cases h
  · cases h
/-! ### a row that nobody will write any more -/
theorem rowAt_true {w : World} {b : Nat} {ccs : Array Value} {t : TypeId} {nw : Bool} (h : RowAt w b ccs t nw) : RowAt w b ccs t true := by
  obtain ⟨fr, h1, h2⟩ := h
  exact ⟨fr, h1, h2.imp (fun h => h) fun h => ⟨rfl, h.2⟩⟩
/-- What is seen of a row from now on. -/
theorem snp_core (hO : C.OK) {id gen off ln b o' k cap : Nat} {xs : List (List AV)} {nw : Bool} {ad : Addr} (hst : C.st[id]? = some (.row k gen xs nw)) (p1 : C.B[id]? = some (b, o'))
    (pa : 0 < cap → ad = ⟨b, o' + off * k, none⟩) (p3 : ln ≤ cap) (b1 : off + ln ≤ xs.length) {w' : World} (T : Turn C w' id b o' b o' (.row k gen xs nw) (.row k gen xs true)) (hc : ∀ z, w'.cell? z = C.w.cell? z)
    (hD : (C.set w' id b o' (.row k gen xs true)).OK) : VR (C.set w' id b o' (.row k gen xs true)) (.sl k ((xs.drop off).take ln)) (.slice (some ad) ln cap) := by
  have hR : ObR C b o' (.row k gen xs nw) := hO.obs id _ b o' hst p1
  have hx := ext_set hO T
  have hl : ((xs.drop off).take ln).length = ln := by simp; omega
  simp only [VR]
  refine ⟨some ad, cap, by rw [hl], ⟨by rw [hl]; exact p3, rfl⟩, ?_⟩
  have hk : ∀ c, c ∈ xs → c.length = k := by obtain ⟨_, _, _, q2, _⟩ := hR; exact q2
  refine VRrow_mk fun i c hi => ?_
  have hil := (List.getElem?_eq_some_iff.1 hi).1
  rw [hl] at hil
  rw [List.getElem?_take, if_pos hil, List.getElem?_drop] at hi
  obtain rfl := pa (by omega)
  refine ⟨hk c (List.mem_of_getElem? hi), _, rfl, rfl, VRat_mk fun j q hj => ?_⟩
  obtain ⟨v, n1, n2⟩ := row_cell hR hi hj
  have hjk : j < k := by have := (List.getElem?_eq_some_iff.1 hj).1; rw [hk c (List.mem_of_getElem? hi)] at this; exact this
  have hoff : o' + off * k + ((0 + i) * k + j) = o' + (off + i) * k + j := by rw [Nat.zero_add, Nat.add_mul]; omega
  refine ⟨v, ⟨?_, ?_, ?_⟩, VR_ext hx n2.1, n2.2⟩
  · rw [add_plain, hoff]; exact (hc _).trans n1
  · rw [add_plain, hoff]
    rintro ⟨i', o2, ob, w1, w2, w3⟩
    have hid := (List.getElem?_eq_some_iff.1 hst).1
    have hid' := (List.getElem?_eq_some_iff.1 p1).1
    have e1 : (C.set w' id b o' (.row k gen xs true)).B[id]? = some (b, o') := by simp [Ctx.set, hid']
    have := hD.inj i' id b o2 o' w1 e1
    subst this
    rw [e1] at w1
    injection w1 with w1; injection w1 with _ w1
    subst w1
    have e2 : (C.set w' i' b o' (.row k gen xs true)).st[i']? = some (.row k gen xs true) := by simp [Ctx.set, hid]
    rw [e2] at w2
    injection w2 with w2
    subst w2
    have w4 : o' + xs.length * k ≤ o' + (off + i) * k + j := w3 rfl
    have w5 : (off + i + 1) * k ≤ xs.length * k := Nat.mul_le_mul_right _ (by omega)
    rw [Nat.add_mul] at w5
    omega
  · rw [add_plain]
    exact hO.dis id b o' _ p1
theorem ps_snp {x : Operand} {p : Prim} {o : Op} (ho : o = .move x ∨ o = .assign x) (hc : ((cOpd x).bind fun x => some (Prim.snp x)) = some p) : PS P G bases o p := by
  intro C e a oo r st' hoo hO hg hE h
  simp only [Option.bind_eq_some_iff, Option.some.injEq] at hc
  obtain ⟨y, h1, rfl⟩ := hc
  have hrun : (execOp a.eval oo).run P C.w = .ok (.value (a.eval x)) C.w := by
    rcases ho with rfl | rfl <;> simp [execOp, hoo]
  simp only [Prim.ev] at h
  split at h
  · rename_i id gen off ln k1
    have hv := cOpd_ok h1 hg hE k1
    split at h
    · rename_i k g xs nw hst
      split at h
      · rename_i hq
        obtain ⟨rfl, b1, b2⟩ := hq
        simp only [Option.some.injEq, Prod.mk.injEq] at h
        obtain ⟨rfl, rfl⟩ := h
        obtain ⟨b, o', cap, t, n, ad, p1, ⟨p2, pa⟩, p3, p4, p5, p6⟩ := VR_own hv hst
        have T : Turn C C.w id b o' b o' (.row k g xs nw) (.row k g xs true) :=
          ⟨hst, p1, by simp [Ob.next], .inl ⟨by simp [Ob.still], rfl, rfl⟩, rfl, rfl, rfl, Nat.le_refl _, fun _ _ _ => rfl, rfl, fun ad c _ hs => hs.1, fun off' hwr => .inl ⟨rfl, fun _ => hwr rfl⟩, .inl rfl⟩
        have hx := ext_set hO T
        have hR : ObR C b o' (.row k g xs nw) := hO.obs id _ b o' hst p1
        have hD := ok_set hO T (by
          obtain ⟨ccs, t', q1, q2, q3, q4⟩ := hR
          exact ⟨ccs, t', rowAt_true q1, q2, q3, VRs_ext hx q4⟩)
        refine ⟨C.set C.w id b o' (.row k g xs true), _, a.eval x, hrun, .inl rfl, hx, hD, rfl, ?_⟩
        rw [p2]
        exact snp_core hO hst p1 pa p3 b1 T (fun _ => rfl) hD
      · cases h
    · cases h
  · rename_i av _ k1
    split at h
    · simp only [Option.some.injEq, Prod.mk.injEq] at h
      obtain ⟨rfl, rfl⟩ := h
      exact Does.stay hO hrun (cOpd_ok h1 hg hE k1)
    · cases h
  · cases h
/-- A literal of bytes that is turned into the same type: the row bears the mark of a text's bytes from then on. -/
theorem ps_cvs {s el : TypeId} {x : Operand} {p : Prim} (hs : P.underlying s = some (.slice el)) (he : P.underlying el = some (.int .u8)) (hc : ((cOpd x).bind fun x => some (Prim.cvs x)) = some p) : PS P G bases (.convert s s x) p := by
  intro C e a oo r st' hoo hO hg hE h
  simp only [Option.bind_eq_some_iff, Option.some.injEq] at hc
  obtain ⟨y, h1, rfl⟩ := hc
  simp only [Prim.ev] at h
  split at h
  · rename_i id gen off ln k1
    have hv := cOpd_ok h1 hg hE k1
    split at h
    · rename_i k g xs nw hst
      split at h
      · rename_i hq
        obtain ⟨rfl, b1, b2, b3⟩ := hq
        simp only [Option.some.injEq, Prod.mk.injEq] at h
        obtain ⟨rfl, rfl⟩ := h
        obtain ⟨b, o', cap, t, n, ad, p1, ⟨p2, pa⟩, p3, p4, p5, p6⟩ := VR_own hv hst
        have hR : ObR C b o' (.row k g xs nw) := hO.obs id _ b o' hst p1
        obtain ⟨ccs, t', ⟨fr, q1, qf⟩, q2, q3, q4⟩ := hR
        obtain rfl := pa (by omega)
        have hsh : C.w.shape? b = some (t', ccs.size) := by simp [World.shape?, q1]
        let w' : World := C.w.freeze ⟨b, ccs.size, none⟩ 1
        obtain ⟨fr', hat, hfr⟩ : ∃ fr', w'.heap[b]? = some (.cells ccs t' fr') ∧ ccs.size ≤ fr'.1 := by
          obtain ⟨lo, hi⟩ := fr
          refine ⟨if (lo == hi) = true then (ccs.size, ccs.size + 1) else (min lo ccs.size, max hi (ccs.size + 1)), ?_, ?_⟩
          · simp only [w', World.freeze]
            rw [if_neg (by omega)]
            simp only [Array.getElem?_modify, if_true, q1]
            rfl
          · split
            · exact Nat.le_refl _
            · rename_i hne
              rcases qf with qf | ⟨_, qf⟩
              · cases qf; simp at hne
              · have : ccs.size ≤ lo := qf
                show ccs.size ≤ min lo ccs.size
                omega
        have hother : ∀ k', k' ≠ b → w'.heap[k']? = C.w.heap[k']? := fun k' hk => by
          simp only [w', World.freeze]
          rw [if_neg (by omega)]
          simp only [Array.getElem?_modify]
          rw [if_neg (by omega)]
        have hcell : ∀ z, w'.cell? z = C.w.cell? z := fun z => by
          by_cases hz : z.block = b
          · unfold World.cell?
            rw [hz, hat, q1]
          · exact cell_of_heap (hother _ hz)
        have hrun : (execOp a.eval oo).run P C.w = .ok (.value (.slice (some ⟨b, o' + off * k, none⟩) ln cap)) w' := by
          simp only [execOp, hoo, p2, convert, Sem.run_bind, run_underlying hs, run_underlying he, Result.andThen_ok, beq_self_eq_true, markStringish, run_shape, hsh, Sem.run_pure]
          rfl
        have T : Turn C w' id b o' b o' (.row k g xs nw) (.row k g xs true) :=
          ⟨hst, p1, by simp [Ob.next], .inl ⟨by simp [Ob.still], rfl, rfl⟩, by simp [w', World.freeze], by simp [w', World.freeze], by simp [w', World.freeze], by simp [w', World.freeze], fun k' _ hk => hother k' hk, by rw [hsh]; simp [World.shape?, hat], fun ad c _ hs => (hcell _).trans hs.1, fun off' hwr => .inl ⟨rfl, fun _ => hwr rfl⟩, .inl rfl⟩
        have hx := ext_set hO T
        have hD := ok_set hO T ⟨ccs, t', ⟨fr', hat, .inr ⟨rfl, hfr⟩⟩, q2, q3, VRs_ext hx q4⟩
        exact ⟨C.set w' id b o' (.row k g xs true), _, _, hrun, .inl rfl, hx, hD, rfl, snp_core hO hst p1 pa p3 b1 T hcell hD⟩
      · cases h
    · cases h
  · cases h
end
end Go.Proofs.YtbpndomfipdhdaaDoor.Ev
