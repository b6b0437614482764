import Derived.Test.YtoobogpbejdocaaDoorEvPrimD
import Derived.MapKept
set_option linter.unusedVariables false
set_option linter.unusedSectionVars false
set_option linter.unusedSimpArgs false
namespace Go.Proofs.YtoobogpbejdocaaDoor.Ev
open Go.RowKit
section
variable {P : Program} {G : Nat → Option (List AV)} {bases : List Nat}
theorem eq_items (w : World) {e : TypeId} {ks : List TK} (hk : plainN P 200 e = some ks) (hc : P.cellsOf e = ks.length) (X Y : Array Value) : ∀ (m j : Nat) (b : Bool), (j + m) * ks.length ≤ X.size → (j + m) * ks.length ≤ Y.size →
    eqVs (List.replicate m ks).flatten ((X.toList.drop (j * ks.length)).take (m * ks.length)) ((Y.toList.drop (j * ks.length)).take (m * ks.length)) = some b →
    (Op.eqItems 9999 e (P.cellsOf e) X Y (List.range' j m)).run P w = .ok b w
  | 0, j, b, hX, hY, h => by
    simp [eqVs] at h
    subst h
    simp [Op.eqItems]
  | m + 1, j, b, hX, hY, h => by
    have hm : (j + (m + 1)) * ks.length = j * ks.length + ks.length + m * ks.length := by rw [Nat.add_mul, Nat.succ_mul]; omega
    have hm2 : (j + 1 + m) * ks.length = j * ks.length + ks.length + m * ks.length := by rw [Nat.add_mul, Nat.succ_mul]
    have hm3 : (m + 1) * ks.length = ks.length + m * ks.length := by rw [Nat.succ_mul]; omega
    have hj : (j + 1) * ks.length = j * ks.length + ks.length := Nat.succ_mul _ _
    rw [List.replicate_succ, List.flatten_cons] at h
    obtain ⟨b1, b2, e1, e2, rfl⟩ := eqVs_split h
    rw [hm3, List.take_take, Nat.min_eq_left (by omega), List.take_take, Nat.min_eq_left (by omega)] at e1
    rw [hm3, List.drop_take, List.drop_drop, List.drop_take, List.drop_drop] at e2
    rw [show ks.length + m * ks.length - ks.length = m * ks.length by omega, ← hj] at e2
    obtain ⟨x, y, p1, p2, p3⟩ := (eq_plain (P := P) w 200).1 e ks hk 9999 (by omega) X Y (j * ks.length) b1 (by omega) (by omega) e1
    have p4 := eq_items w hk hc X Y m (j + 1) b2 (by omega) (by omega) e2
    rw [List.range'_succ, Op.eqItems, hc]
    rw [hc] at p4
    simp only [Sem.run_bind, p1, p2, p3, Result.andThen_ok]
    cases b1
    · simp
    · simpa using p4
theorem ps_aeqa {neg : Bool} {op : BinOp} {t yt e : TypeId} {n : Nat} {i : TypeInfo} {x y : Operand} {p : Prim} {ks : List TK} (ht : P.underlying t = some (.array n e)) (hi : P.info? e = some i) (hs : ks.length = i.size) (hop : op = (if neg then .neq else .eql)) (hk : plainN P 200 e = some ks) (hq : P.eqGuardType P.depth t = false)
    (hc : ((cOpd x).bind fun x => (cOpd y).bind fun y => some (Prim.aeq neg (List.replicate n ks).flatten x y)) = some p) : PS P G bases (.binOp op t x y yt) p := by
  intro C e' a oo r st' hoo hO hg hE h
  simp only [Option.bind_eq_some_iff, Option.some.injEq] at hc
  obtain ⟨x', h1, y', h2, rfl⟩ := hc
  simp only [Prim.ev] at h
  split at h
  · rename_i u k1
    split at h
    · rename_i v k2
      split at h
      · rename_i b k3
        simp only [Option.some.injEq, Prod.mk.injEq] at h
        obtain ⟨rfl, rfl⟩ := h
        have e1 := cOpd_ok h1 hg hE k1
        have e2 := cOpd_ok h2 hg hE k2
        simp only [VR] at e1 e2
        obtain ⟨X, e1, f1⟩ := e1
        obtain ⟨Y, e2, f2⟩ := e2
        have he := eqVs_of f1 f2 k3
        obtain ⟨l1, l2⟩ := eqVs_len he
        have hl : (List.replicate n ks).flatten.length = n * ks.length := by simp
        have s1 : X.size = n * ks.length := by rw [← hl, ← l1]; simp
        have s2 : Y.size = n * ks.length := by rw [← hl, ← l2]; simp
        have hcell : P.cellsOf e = ks.length := by simp [Program.cellsOf, hi, hs]
        have hr : (Op.equalIn 10000 t (.agg X) (.agg Y)).run P C.w = .ok b C.w := by
          rw [show (10000 : Nat) = 9999 + 1 from rfl, run_equalIn_array (w := C.w) 9999 X Y ht hi, List.range_eq_range']
          refine eq_items C.w hk hcell X Y n 0 b (by rw [Nat.zero_add]; omega) (by rw [Nat.zero_add]; omega) ?_
          rw [Nat.zero_mul, List.drop_zero, List.drop_zero, List.take_of_length_le (by simp; omega), List.take_of_length_le (by simp; omega)]
          exact he
        refine Does.stay hO (x := .bool (if neg then !b else b)) ?_ (VR_v rfl)
        simp only [execOp, hoo, e1, e2, Sem.run_bind, run_eqGuard_agg C.w op t x y X Y hq, Result.andThen_ok, Sem.run_pure]
        cases neg <;> simp at hop <;> subst hop <;> simp only [run_eql_struct, run_neq_struct, hr, Result.andThen_ok] <;> rfl
      · cases h
    · cases h
  · cases h
end
end Go.Proofs.YtoobogpbejdocaaDoor.Ev
set_option linter.unusedVariables false
set_option linter.unusedSimpArgs false
namespace Go.Proofs.YtoobogpbejdocaaDoor.Ev
open Go.RowKit
section
variable {P : Program} {G : Nat → Option (List AV)} {bases : List Nat} {C : Ctx} {e : Env} {a : Act}
theorem ba_eq {x y : ByteArray} (h : x.toList = y.toList) : x = y := by
  rw [ByteArray.toList_eq, ByteArray.toList_eq] at h
  cases x; cases y
  simp only at h
  congr 1
  exact Array.ext' h
theorem ba_beq (x y : ByteArray) : (x == y) = (x.toList == y.toList) := by
  have h1 : (x == y) = (x.data == y.data) := rfl
  rw [h1, Bool.eq_iff_iff, beq_iff_eq, beq_iff_eq]
  exact ⟨fun e => by rw [ByteArray.toList_eq, ByteArray.toList_eq, e], fun e => by rw [ba_eq e]⟩
theorem eqV_true {t : TK} {k k' : Value} (h : eqV t k k' = some true) : k = k' := by
  unfold eqV at h
  split at h
  · split at h
    · rename_i hk; subst hk; simp at h; rw [h]
    · cases h
  · rename_i x y
    simp only [Option.some.injEq, beq_iff_eq] at h
    rw [ba_eq h]
  · simp at h; rw [h]
  · cases h
theorem eqV_kind {t : TK} {k : Value} (h : eqV t k k = some true) : (∃ i n, k = .int i n) ∨ (∃ s, k = .string s) ∨ ∃ b, k = .bool b := by
  unfold eqV at h
  split at h
  · rename_i k' _ _; exact .inl ⟨_, _, rfl⟩
  · exact .inr (.inl ⟨_, rfl⟩)
  · exact .inr (.inr ⟨_, rfl⟩)
  · cases h
theorem eqV_left {t : TK} {k k' : Value} {b : Bool} (h : eqV t k k' = some b) : eqV t k k = some true := by
  unfold eqV at h
  split at h
  · simp [eqV]
  · simp [eqV]
  · simp [eqV]
  · cases h
theorem eqV_false {t : TK} {k k' : Value} (h : eqV t k k' = some false) : k' ≠ k := fun e => by
  have := eqV_left h
  rw [e] at h
  rw [this] at h
  cases h
theorem sameBits_refl {t : TK} {k : Value} (h : eqV t k k = some true) : Instr.sameBits 10000 k k = true := by
  rcases eqV_kind h with ⟨i, n, rfl⟩ | ⟨s, rfl⟩ | ⟨b, rfl⟩ <;> simp [Instr.sameBits, ba_beq]
theorem sameNow_eq {d : TypeDesc} {t : TK} {k k' : Value} {b : Bool} (hd : kindOf d = some t) (h : eqV t k k' = some b) : Instr.sameNow d k k' = some b := by
  unfold kindOf at hd
  split at hd <;> cases hd
  · unfold eqV at h
    split at h
    · simpa [Instr.sameNow] using h
    · rename_i e; cases e
    · rename_i e; cases e
    · cases h
  · unfold eqV at h
    split at h
    · rename_i e; cases e
    · rename_i a c
      simp only [Instr.sameNow, ba_beq]
      exact h
    · rename_i e; cases e
    · cases h
  · unfold eqV at h
    split at h
    · rename_i e; cases e
    · rename_i e; cases e
    · simpa [Instr.sameNow] using h
    · cases h
theorem run_checkKey {kt : TypeId} {d : TypeDesc} {t : TK} (h : P.underlying kt = some d) (hd : kindOf d = some t) (b : Bool) (v : Value) (w : World) : (Instr.checkKey b 10000 kt v).run P w = .ok () w := by
  unfold Instr.checkKey
  unfold kindOf at hd
  simp only [Sem.run_bind, run_underlying h, Result.andThen_ok]
  split at hd <;> cases hd <;> rfl
theorem mapT_ok {mt : TypeId} {q : TK × TypeId} (h : mapT P mt = some q) : ∃ kt d, P.underlying mt = some (.map kt q.2) ∧ P.underlying kt = some d ∧ kindOf d = some q.1 := by
  unfold mapT at h
  split at h
  · rename_i k e hu
    simp only [Option.bind_eq_some_iff, Option.some.injEq] at h
    obtain ⟨d, h1, t, h2, rfl⟩ := h
    exact ⟨k, d, hu, h1, h2⟩
  · cases h
theorem find_ok {d : TypeDesc} {t : TK} {k : Value} (hd : kindOf d = some t) : ∀ {es : List (Value × AV)} {en : List MapEntry} {r : Option AV}, en.map (·.key) = es.map (·.1) → mfind t k es = some r → ∀ i,
    (r = none ∧ Instr.findNow d k en i = some none) ∨ ∃ j p m, es[j]? = some p ∧ en[j]? = some m ∧ r = some p.2 ∧ Instr.findNow d k en i = some (some (i + j, m.val))
  | [], [], r, _, h, i => by simp only [mfind, Option.some.injEq] at h; subst h; exact .inl ⟨rfl, rfl⟩
  | [], m :: en, r, hk, _, i => by simp at hk
  | p :: es, [], r, hk, _, i => by simp at hk
  | p :: es, m :: en, r, hk, h, i => by
    simp only [List.map_cons, List.cons.injEq] at hk
    obtain ⟨hk1, hk2⟩ := hk
    simp only [mfind] at h
    split at h
    · rename_i he
      cases h
      exact .inr ⟨0, p, m, rfl, rfl, rfl, by simp only [Instr.findNow, hk1, sameNow_eq hd he]; rfl⟩
    · rename_i he
      rcases find_ok hd hk2 h (i + 1) with ⟨h1, h2⟩ | ⟨j, q, n, h1, h2, h3, h4⟩
      · exact .inl ⟨h1, by simp only [Instr.findNow, hk1, sameNow_eq hd he, h2]⟩
      · exact .inr ⟨j + 1, q, n, h1, h2, h3, by simp only [Instr.findNow, hk1, sameNow_eq hd he, h4]; congr 3; omega⟩
    · cases h
theorem put_ok {d : TypeDesc} {t : TK} {k : Value} {x : AV} (hd : kindOf d = some t) : ∀ {es es' : List (Value × AV)} {en : List MapEntry}, en.map (·.key) = es.map (·.1) → mput t k x es = some es' → ∀ i,
    (es' = es ++ [(k, x)] ∧ (∀ m, m ∈ en → m.key ≠ k) ∧ Instr.findNow d k en i = some none) ∨ ∃ j m, en[j]? = some m ∧ m.key = k ∧ es' = es.set j (k, x) ∧ Instr.findNow d k en i = some (some (i + j, m.val))
  | [], es', [], _, h, i => by simp only [mput, Option.some.injEq] at h; subst h; exact .inl ⟨rfl, by simp, rfl⟩
  | [], _, m :: en, hk, _, i => by simp at hk
  | p :: es, _, [], hk, _, i => by simp at hk
  | p :: es, es', m :: en, hk, h, i => by
    simp only [List.map_cons, List.cons.injEq] at hk
    obtain ⟨hk1, hk2⟩ := hk
    simp only [mput] at h
    split at h
    · rename_i he
      cases h
      have := eqV_true he
      exact .inr ⟨0, m, rfl, by rw [hk1, this], by rw [this]; rfl, by simp only [Instr.findNow, hk1, sameNow_eq hd he]; rfl⟩
    · rename_i he
      split at h
      · rename_i l hl
        cases h
        rcases put_ok hd hk2 hl (i + 1) with ⟨h1, h0, h2⟩ | ⟨j, n, h1, h2, h3, h4⟩
        · exact .inl ⟨by rw [h1]; rfl, fun q hq => (List.mem_cons.1 hq).elim (fun e => by rw [e, hk1]; exact eqV_false he) (h0 q), by simp only [Instr.findNow, hk1, sameNow_eq hd he, h2]⟩
        · exact .inr ⟨j + 1, n, h1, h2, by rw [h3]; rfl, by simp only [Instr.findNow, hk1, sameNow_eq hd he, h4]; congr 3; omega⟩
      · cases h
    · cases h
theorem del_ok {d : TypeDesc} {t : TK} {k : Value} (hd : kindOf d = some t) : ∀ {es es' : List (Value × AV)} {en : List MapEntry}, en.map (·.key) = es.map (·.1) → mdel t k es = some es' → ∀ i,
    (es' = es ∧ Instr.findNow d k en i = some none) ∨ ∃ j m, en[j]? = some m ∧ es' = es.eraseIdx j ∧ Instr.findNow d k en i = some (some (i + j, m.val))
  | [], es', [], _, h, i => by simp only [mdel, Option.some.injEq] at h; subst h; exact .inl ⟨rfl, rfl⟩
  | [], _, m :: en, hk, _, i => by simp at hk
  | p :: es, _, [], hk, _, i => by simp at hk
  | p :: es, es', m :: en, hk, h, i => by
    simp only [List.map_cons, List.cons.injEq] at hk
    obtain ⟨hk1, hk2⟩ := hk
    simp only [mdel] at h
    split at h
    · rename_i he
      cases h
      exact .inr ⟨0, m, rfl, rfl, by simp only [Instr.findNow, hk1, sameNow_eq hd he]; rfl⟩
    · rename_i he
      split at h
      · rename_i l hl
        cases h
        rcases del_ok hd hk2 hl (i + 1) with ⟨h1, h2⟩ | ⟨j, n, h1, h3, h4⟩
        · exact .inl ⟨by rw [h1], by simp only [Instr.findNow, hk1, sameNow_eq hd he, h2]⟩
        · exact .inr ⟨j + 1, n, h1, by rw [h3]; rfl, by simp only [Instr.findNow, hk1, sameNow_eq hd he, h4]; congr 3; omega⟩
      · cases h
    · cases h
theorem MapR.keys {es : List (Value × AV)} {en : List MapEntry} (h : MapR C es en) : en.map (·.key) = es.map (·.1) := by
  apply List.ext_getElem?
  intro i
  simp only [List.getElem?_map]
  by_cases hi : i < es.length
  · have hj : i < en.length := by rw [← h.1]; exact hi
    rw [List.getElem?_eq_getElem hi, List.getElem?_eq_getElem hj]
    simp only [Option.map_some, (h.2 i _ _ (List.getElem?_eq_getElem hi) (List.getElem?_eq_getElem hj)).1]
  · have hj : ¬ i < en.length := by rw [← h.1]; exact hi
    rw [List.getElem?_eq_none (by omega), List.getElem?_eq_none (by omega)]; rfl
theorem mapOf_ok (hO : C.OK) {m : AV} {c : Value} {es : List (Value × AV)} (hv : VR C m c) (h : mapOf C.st m = some es) :
    (c = .map none ∧ es = []) ∨ ∃ id b o en clock, m = .mp id ∧ c = .map (some b) ∧ C.st[id]? = some (.map es) ∧ C.B[id]? = some (b, o) ∧ C.w.heap[b]? = some (.map en clock) ∧ MapR C es en.toList ∧ MapKept.Stamped en clock := by
  unfold mapOf at h
  split at h
  · simp only [Option.some.injEq] at h; subst h
    exact .inl ⟨VR_plain hv, rfl⟩
  · rename_i id
    split at h
    · rename_i es' hst
      simp only [Option.some.injEq] at h; subst h
      simp only [VR] at hv
      obtain ⟨es2, b, o, h1, h2, h3⟩ := hv
      obtain ⟨b', o', hB, hR⟩ := hO.get hst
      rw [h2] at hB; injection hB with hB; injection hB with q1 q2; subst q1; subst q2
      simp only [ObR] at hR
      obtain ⟨en, cl, h4, h6, h5⟩ := hR
      exact .inr ⟨id, b, o, en, cl, rfl, h3, hst, h2, h4, h5, h6⟩
    · cases h
  · cases h
theorem VR_zeroA {t : TypeId} {z : AV} (h : zeroA P t = some z) : ∃ v, (∀ w, (zeroValue t).run P w = .ok v w) ∧ VR C z v ∧ z.tuple = false := by
  unfold zeroA at h
  simp only [Option.bind_eq_some_iff] at h
  obtain ⟨i, hi, x, hx, h⟩ := h
  split at h
  · rename_i hq
    simp only [Option.some.injEq] at h
    subst h
    exact ⟨x, fun w => by simp [zeroValue, run_typeInfo w hi, hx], VR_ofVal hq, ofVal_tuple hq⟩
  · cases h
theorem ps_lk {mt : TypeId} {ok : Bool} {m k : Operand} {q : TK × TypeId} {z : AV} {p : Prim} (hm : mapT P mt = some q) (hz : zeroA P q.2 = some z)
    (hc : ((cOpd m).bind fun m => (cOpd k).bind fun k => some (Prim.lk q.1 ok z m k)) = some p) : PS P G bases (.lookup mt m k ok) p := by
  intro C e a oo r st' hoo hO hg hE h
  simp only [Option.bind_eq_some_iff, Option.some.injEq] at hc
  obtain ⟨m', h1, k', h2, rfl⟩ := hc
  obtain ⟨kt, d, u1, u2, hd⟩ := mapT_ok hm
  obtain ⟨zv, z1, z2, z3⟩ := VR_zeroA (C := C) hz
  simp only [Prim.ev] at h
  obtain ⟨mv, k1, h⟩ := ev1 h
  split at h
  · rename_i kv k2
    split at h
    · rename_i es k3
      split at h
      · rename_i rr k4
        simp only [Option.some.injEq, Prod.mk.injEq] at h
        obtain ⟨rfl, rfl⟩ := h
        have e2 := VR_plain (cOpd_ok h2 hg hE k2)
        have e1 := cOpd_ok h1 hg hE k1
        have key : ∃ (v : Value) (b : Bool), (Instr.lookup mt (a.eval m) (a.eval k) ok).run P C.w = .ok (if ok then .tuple #[v, .bool b] else v) C.w ∧ VR C (rr.getD z) v ∧ b = rr.isSome := by
          rcases mapOf_ok hO e1 k3 with ⟨c1, c2⟩ | ⟨id, b, o, en, cl, rfl, c1, c2, c3, c4, c5, c6⟩
          · subst c2
            simp only [mfind, Option.some.injEq] at k4; subst k4
            refine ⟨zv, false, ?_, z2, rfl⟩
            simp [Instr.lookup, run_underlying u1, c1, run_checkKey u2 hd, Instr.findKey, run_underlying u2, Instr.findNow, z1]
          · rcases find_ok hd c5.keys k4 0 with ⟨rfl, f1⟩ | ⟨j, p, n, f1, f2, rfl, f3⟩
            · refine ⟨zv, false, ?_, z2, rfl⟩
              simp [Instr.lookup, run_underlying u1, c1, run_checkKey u2 hd, Instr.findKey, run_underlying u2, e2, f1, z1, getObj, Sem.run, c4]
            · obtain ⟨g1, g2, g3⟩ := c5.2 j p n f1 f2
              refine ⟨n.val, true, ?_, g3, rfl⟩
              simp [Instr.lookup, run_underlying u1, c1, run_checkKey u2 hd, Instr.findKey, run_underlying u2, e2, f3, z1, getObj, Sem.run, c4]
        obtain ⟨v, b, hr, hv, rfl⟩ := key
        refine Does.stay hO (x := if ok then .tuple #[v, .bool rr.isSome] else v) ?_ ?_
        · simp [execOp, hoo, hr]
        · unfold lkR
          cases ok
          · simpa using hv
          · simp only [if_true, VR]
            exact ⟨_, rfl, by simp only [VRt]; exact ⟨_, _, rfl, hv, _, _, rfl, VR_v rfl, rfl⟩⟩
      · cases h
    · cases h
  · cases h
theorem does_map {oo : Oper} (hO : C.OK) {id b o : Nat} {es es' : List (Value × AV)} {en en' : Array MapEntry} {cl cl' : Nat} (h1 : C.st[id]? = some (.map es)) (h2 : C.B[id]? = some (b, o)) (h3 : C.w.heap[b]? = some (.map en cl))
    {n : Next} (hn : n = .value (.tuple #[]) ∨ n = .skip) (hr : (execOp a.eval oo).run P C.w = .ok n { C.w with heap := C.w.heap.setIfInBounds b (.map en' cl') })
    (hm : MapR C es' en'.toList) (hs' : MapKept.Stamped en' cl') : Does P a oo C (.tup []) (C.st.set id (.map es')) := by
  obtain ⟨hat, hot⟩ := MapKept.heap_set (o' := .map en' cl') h3
  have T : Turn C { C.w with heap := C.w.heap.setIfInBounds b (.map en' cl') } id b o b o (.map es) (.map es') := by
    refine ⟨h1, h2, by simp [Ob.next], .inl ⟨by simp [Ob.still], rfl, rfl⟩, rfl, rfl, rfl, by simp, fun k _ hk => hot k hk, ?_, fun ad c hb hs => ?_, fun _ _ => .inl ⟨rfl, trivial⟩, .inl rfl⟩
    · unfold World.shape?
      simp only [hat, h3]
    · have := hs.1
      unfold World.cell? at this
      rw [hb, h3] at this
      cases this
  have hx := ext_set hO T
  have hk : (C.set { C.w with heap := C.w.heap.setIfInBounds b (.map en' cl') } id b o (.map es')).OK := ok_set hO T (by simp only [ObR]; exact ⟨en', cl', hat, hs', MapR_ext hx hm⟩)
  have ht : VR (C.set { C.w with heap := C.w.heap.setIfInBounds b (.map en' cl') } id b o (.map es')) (.tup []) (.tuple #[]) := by simp only [VR, VRt]; exact ⟨_, rfl, rfl⟩
  rcases hn with rfl | rfl
  · exact ⟨_, _, .tuple #[], hr, .inl rfl, hx, hk, rfl, ht⟩
  · exact ⟨_, _, .tuple #[], hr, .inr ⟨rfl, rfl⟩, hx, hk, rfl, ht⟩
theorem getD_key {en : Array MapEntry} {j : Nat} {n : MapEntry} (h : en.toList[j]? = some n) (d : Value) : ((en[j]?).map (·.key)).getD d = n.key := by
  rw [Array.getElem?_toList] at h
  rw [h]; rfl
theorem ps_mup {mt : TypeId} {m k x : Operand} {q : TK × TypeId} {p : Prim} (hm : mapT P mt = some q)
    (hc : ((cOpd m).bind fun m => (cOpd k).bind fun k => (cOpd x).bind fun x => some (Prim.mup q.1 m k x)) = some p) : PS P G bases (.mapUpdate mt m k x) p := by
  intro C e a oo r st' hoo hO hg hE h
  simp only [Option.bind_eq_some_iff, Option.some.injEq] at hc
  obtain ⟨m', h1, k', h2, x', h3, rfl⟩ := hc
  obtain ⟨kt, d, u1, u2, hd⟩ := mapT_ok hm
  simp only [Prim.ev] at h
  split at h
  · rename_i id k1
    split at h
    · rename_i kv k2
      split at h
      · rename_i av k3
        split at h
        · rename_i hq
          split at h
          · rename_i es k4
            split at h
            · rename_i es' k5
              simp only [Option.some.injEq, Prod.mk.injEq] at h
              obtain ⟨rfl, rfl⟩ := h
              have e2 := VR_plain (cOpd_ok h2 hg hE k2)
              have e1 := cOpd_ok h1 hg hE k1
              have e3 := cOpd_ok h3 hg hE k3
              rcases mapOf_ok hO (m := .mp id) (es := es) e1 (by simp [mapOf, k4]) with ⟨c1, c2⟩ | ⟨id', b, o, en, cl, hid, c1, c2, c3, c4, c5, c6⟩
              · simp only [VR] at e1
                obtain ⟨_, _, _, _, _, e1⟩ := e1
                rw [c1] at e1; cases e1
              · cases hid
                rcases put_ok hd c5.keys k5 0 with ⟨rfl, f0, f1⟩ | ⟨j, n, f1, f2, rfl, f3⟩
                · refine does_map hO c2 c3 c4 (en' := en.push { key := kv, val := a.eval x, born := cl }) (cl' := cl + 1) (.inr rfl) ?_ ?_ (MapKept.stamped_push c6 f0)
                  · simp [execOp, hoo, Instr.mapUpdate, run_underlying u1, c1, MapKept.run_getObj_map c4, run_checkKey u2 hd, MapKept.run_findKey u2 f1, MapKept.run_setObj_map _ c4, e2]
                  · refine ⟨by simp [c5.1], fun i p mm g1 g2 => ?_⟩
                    rw [Array.toList_push] at g2
                    by_cases hi : i < es.length
                    · rw [List.getElem?_append_left hi] at g1
                      rw [List.getElem?_append_left (by rw [← c5.1]; exact hi)] at g2
                      exact c5.2 i p mm g1 g2
                    · have hi2 : ¬ i < en.toList.length := by rw [← c5.1]; exact hi
                      rw [List.getElem?_append_right (by omega)] at g1 g2
                      rw [← c5.1] at g2
                      cases hz : i - es.length with
                      | zero => rw [hz] at g1 g2; simp at g1 g2; subst g1; subst g2; exact ⟨rfl, hq.1, e3⟩
                      | succ z => rw [hz] at g1; simp at g1
                · have hjl : j < en.size := by
                    have := (List.getElem?_eq_some_iff.1 f1).1
                    simpa using this
                  rw [Nat.zero_add] at f3
                  have hkk : Instr.keyThatStays (((en[j]?).map (·.key)).getD kv) kv = (pure kv : Sem Value) := by
                    rw [getD_key f1, f2]
                    unfold Instr.keyThatStays
                    rw [if_pos (sameBits_refl hq.2.2)]
                  refine does_map hO c2 c3 c4 (en' := en.modify j fun e => { e with key := kv, val := a.eval x }) (cl' := cl) (.inr rfl) ?_ ?_ (MapKept.stamped_modify c6 j _ (fun _ _ => rfl) fun e _ he => by rw [Array.getElem?_toList] at f1; rw [f1] at he; cases he; exact f2.symm)
                  · simp only [execOp, hoo, Instr.mapUpdate, run_underlying u1, c1, MapKept.run_getObj_map c4, run_checkKey u2 hd, e2, MapKept.run_findKey u2 f3, Sem.run_bind, Result.andThen_ok, hkk, Sem.run_pure, MapKept.run_setObj_map _ c4]
                  · refine ⟨by simp [c5.1], fun i p mm g1 g2 => ?_⟩
                    rw [Array.toList_modify, List.getElem?_modify] at g2
                    rw [List.getElem?_set] at g1
                    by_cases hi : j = i
                    · subst hi
                      rw [if_pos rfl] at g1
                      rw [f1] at g2
                      split at g1
                      · simp at g1 g2
                        subst g1; subst g2
                        exact ⟨rfl, hq.1, e3⟩
                      · cases g1
                    · rw [if_neg hi] at g1
                      simp only [if_neg hi] at g2
                      simp at g2
                      exact c5.2 i p mm g1 (by simpa using g2)
            · cases h
          · cases h
        · cases h
      · cases h
    · cases h
  · cases h
theorem ps_mdl {mt : TypeId} {ts : List TypeId} {m k : Operand} {q : TK × TypeId} {p : Prim} (hm : mapT P mt = some q)
    (hc : ((cOpd m).bind fun m => (cOpd k).bind fun k => some (Prim.mdl q.1 m k)) = some p) : PS P G bases (.call { callee := .builtin .delete, args := #[m, k], argTypes := ⟨mt :: ts⟩ }) p := by
  intro C e a oo r st' hoo hO hg hE h
  simp only [Option.bind_eq_some_iff, Option.some.injEq] at hc
  obtain ⟨m', h1, k', h2, rfl⟩ := hc
  obtain ⟨kt, d, u1, u2, hd⟩ := mapT_ok hm
  simp only [Prim.ev] at h
  split at h
  · rename_i id k1
    split at h
    · rename_i kv k2
      split at h
      · rename_i es k4
        split at h
        · rename_i es' k5
          simp only [Option.some.injEq, Prod.mk.injEq] at h
          obtain ⟨rfl, rfl⟩ := h
          have e2 := VR_plain (cOpd_ok h2 hg hE k2)
          have e1 := cOpd_ok h1 hg hE k1
          rcases mapOf_ok hO (m := .mp id) (es := es) e1 (by simp [mapOf, k4]) with ⟨c1, c2⟩ | ⟨id', b, o, en, cl, hid, c1, c2, c3, c4, c5, c6⟩
          · simp only [VR] at e1
            obtain ⟨_, _, _, _, _, e1⟩ := e1
            rw [c1] at e1; cases e1
          · cases hid
            have hz : (⟨mt :: ts⟩ : Array TypeId)[0]? = some mt := rfl
            rcases del_ok hd c5.keys k5 0 with ⟨rfl, f1⟩ | ⟨j, n, f1, rfl, f3⟩
            · refine does_map hO c2 c3 c4 (en' := en) (cl' := cl) (.inl rfl) ?_ c5 c6
              · simp [execOp, hoo, resolve, invoke, builtin, Builtin.delete_, hz, run_underlying u1, c1, MapKept.run_getObj_map c4, run_checkKey u2 hd, MapKept.run_findKey u2 f1, MapKept.run_setObj_map _ c4, e2]
            · have hjl : j < en.size := by
                have := (List.getElem?_eq_some_iff.1 f1).1
                simpa using this
              rw [Nat.zero_add] at f3
              have hsub : (en.eraseIdxIfInBounds j).toList = en.toList.eraseIdx j := by
                unfold Array.eraseIdxIfInBounds
                rw [dif_pos hjl]
                simp
              refine does_map hO c2 c3 c4 (en' := en.eraseIdxIfInBounds j) (cl' := cl) (.inl rfl) ?_ ?_ (MapKept.stamped_erase c6 j)
              · simp [execOp, hoo, resolve, invoke, builtin, Builtin.delete_, hz, run_underlying u1, c1, MapKept.run_getObj_map c4, run_checkKey u2 hd, MapKept.run_findKey u2 f3, MapKept.run_setObj_map _ c4, e2]
              · rw [hsub]
                refine ⟨by rw [List.length_eraseIdx, List.length_eraseIdx, c5.1], fun i p mm g1 g2 => ?_⟩
                rw [List.getElem?_eraseIdx] at g1 g2
                split at g1
                · rename_i hi
                  rw [if_pos hi] at g2
                  exact c5.2 i p mm g1 g2
                · rename_i hi
                  rw [if_neg hi] at g2
                  exact c5.2 _ p mm g1 g2
        · cases h
      · cases h
    · cases h
  · cases h
theorem ps_mkm {mt : TypeId} : PS P G bases (.makeMap mt none) .mkm := by
  intro C e a oo r st' hoo hO hg hE h
  simp only [Prim.ev, Option.some.injEq, Prod.mk.injEq] at h
  obtain ⟨rfl, rfl⟩ := h
  have hbl := below_alloc C.w (.map #[] 0)
  have hat := heap_push_at C.w (.map #[] 0)
  refine ⟨C.push (C.w.alloc (.map #[] 0)) C.w.heap.size 0 (.map []), _, .map (some C.w.heap.size), ?_, .inl rfl, ext_push hO hbl _ (Nat.le_refl _), ok_push hO hbl (Nat.le_refl _) ?_, rfl, ?_⟩
  · simp [execOp, hoo, Instr.makeMap]
    rfl
  · simp only [ObR]
    exact ⟨#[], 0, hat, MapKept.stamped_empty 0, by simp [MapR]⟩
  · simp only [VR]
    exact ⟨[], C.w.heap.size, 0, push_st, push_B hO, rfl⟩
theorem ps_lenm {t kt el : TypeId} {x : Operand} {p : Prim} (hu : P.underlying t = some (.map kt el))
    (hc : ((cOpd x).bind fun x => some (Prim.lenm x)) = some p) : PS P G bases (.call { callee := .builtin .len, args := #[x], argTypes := #[t] }) p := by
  intro C e a oo r st' hoo hO hg hE h
  simp only [Option.bind_eq_some_iff, Option.some.injEq] at hc
  obtain ⟨y, h1, rfl⟩ := hc
  simp only [Prim.ev] at h
  obtain ⟨z, k1, h⟩ := ev1 h
  have e1 := cOpd_ok h1 hg hE k1
  split at h
  · rename_i es k2
    simp only [Option.some.injEq, Prod.mk.injEq] at h
    obtain ⟨rfl, rfl⟩ := h
    rcases mapOf_ok hO e1 k2 with ⟨c1, rfl⟩ | ⟨id, b, o, en, cl, rfl, c1, c2, c3, c4, c5, c6⟩
    · exact Does.stay hO (x := .int .i64 0) (by simp [execOp, hoo, resolve, invoke, builtin, Builtin.len_, run_underlying hu, c1, goInt]) (VR_v rfl)
    · refine Does.stay hO (x := .int .i64 es.length) ?_ (VR_v rfl)
      have := c5.1
      simp only [Array.length_toList] at this
      simp [execOp, hoo, resolve, invoke, builtin, Builtin.len_, run_underlying hu, c1, MapKept.run_getObj_map c4, goInt, this]
  · cases h
theorem run_equal_nilm {t kt el : TypeId} (hu : P.underlying t = some (.map kt el)) (b : Option Nat) (w : World) : (Op.equal t (.map b) (.map none)).run P w = .ok b.isNone w := by
  have key : ∀ d, (Op.equalIn (d + 1) t (.map b) (.map none)).run P w = .ok b.isNone w := by
    intro d
    cases b <;> simp [Op.equalIn, run_underlying hu]
  exact key 9999
theorem ps_isnilm {neg : Bool} {op : BinOp} {t yt kt el : TypeId} {x : Operand} {p : Prim} (hu : P.underlying t = some (.map kt el)) (hop : op = (if neg then .neq else .eql)) (hc : ((cOpd x).bind fun x => some (Prim.isnilm neg x)) = some p) : PS P G bases (.binOp op t x (.const (.map none)) yt) p := by
  intro C e a oo r st' hoo hO hg hE h
  simp only [Option.bind_eq_some_iff, Option.some.injEq] at hc
  obtain ⟨y, h1, rfl⟩ := hc
  have hrun : ∀ b, a.eval x = .map b → (execOp a.eval oo).run P C.w = .ok (.value (.bool (if neg then !b.isNone else b.isNone))) C.w := by
    intro b e1
    have e2 : a.eval (.const (.map none)) = .map none := rfl
    simp only [execOp, hoo, e1, e2, Sem.run_bind, run_eqGuard_one (show Value.map b ≠ .nilIface by simp) rfl, Result.andThen_ok]
    cases neg <;> simp at hop <;> subst hop <;> simp [binOp, run_equal_nilm hu]
  simp only [Prim.ev] at h
  split at h
  · rename_i k1
    simp only [Option.some.injEq, Prod.mk.injEq] at h
    obtain ⟨rfl, rfl⟩ := h
    have e1 := VR_plain (cOpd_ok h1 hg hE k1)
    refine Does.stay hO (hrun _ e1) ?_
    cases neg <;> exact VR_v rfl
  · rename_i id k1
    split at h
    · rename_i es k2
      simp only [Option.some.injEq, Prod.mk.injEq] at h
      obtain ⟨rfl, rfl⟩ := h
      have hv := cOpd_ok h1 hg hE k1
      simp only [VR] at hv
      obtain ⟨_, b, o, _, _, e1⟩ := hv
      refine Does.stay hO (hrun _ e1) ?_
      cases neg <;> exact VR_v rfl
    · cases h
  · cases h
theorem rowAt_true {w : World} {b : Nat} {ccs : Array Value} {t : TypeId} {nw : Bool} (h : RowAt w b ccs t nw) : RowAt w b ccs t true := by
  obtain ⟨fr, h1, h2⟩ := h
  exact ⟨fr, h1, h2.imp (fun h => h) fun h => ⟨rfl, h.2⟩⟩
theorem snp_core (hO : C.OK) {id gen off ln b o' k cap : Nat} {xs : List (List AV)} {nw : Bool} {ad : Addr} (hst : C.st[id]? = some (.row k gen xs nw)) (p1 : C.B[id]? = some (b, o'))
    (pa : 0 < cap → ad = ⟨b, o' + off * k, none⟩) (p3 : ln ≤ cap) (b1 : off + ln ≤ xs.length) {w' : World} (T : Turn C w' id b o' b o' (.row k gen xs nw) (.row k gen xs true)) (hc : ∀ z, w'.cell? z = C.w.cell? z)
    (hD : (C.set w' id b o' (.row k gen xs true)).OK) : VR (C.set w' id b o' (.row k gen xs true)) (.sl k ((xs.drop off).take ln)) (.slice (some ad) ln cap) := by
  have hR : ObR C b o' (.row k gen xs nw) := hO.obs id _ b o' hst p1
  have hx := ext_set hO T
  have hl : ((xs.drop off).take ln).length = ln := by simp; omega
  simp only [VR]
  refine ⟨some ad, cap, by rw [hl], ⟨by rw [hl]; exact p3, rfl⟩, ?_⟩
  have hk : ∀ c, c ∈ xs → c.length = k := by obtain ⟨_, _, _, q2, _⟩ := hR; exact q2
  refine VRrow_mk fun i c hi => ?_
  have hil := (List.getElem?_eq_some_iff.1 hi).1
  rw [hl] at hil
  rw [List.getElem?_take, if_pos hil, List.getElem?_drop] at hi
  obtain rfl := pa (by omega)
  refine ⟨hk c (List.mem_of_getElem? hi), _, rfl, rfl, VRat_mk fun j q hj => ?_⟩
  obtain ⟨v, n1, n2⟩ := row_cell hR hi hj
  have hjk : j < k := by have := (List.getElem?_eq_some_iff.1 hj).1; rw [hk c (List.mem_of_getElem? hi)] at this; exact this
  have hoff : o' + off * k + ((0 + i) * k + j) = o' + (off + i) * k + j := by rw [Nat.zero_add, Nat.add_mul]; omega
  refine ⟨v, ⟨?_, ?_, ?_⟩, VR_ext hx n2.1, n2.2⟩
  · rw [add_plain, hoff]; exact (hc _).trans n1
  · rw [add_plain, hoff]
    rintro ⟨i', o2, ob, w1, w2, w3⟩
    have hid := (List.getElem?_eq_some_iff.1 hst).1
    have hid' := (List.getElem?_eq_some_iff.1 p1).1
    have e1 : (C.set w' id b o' (.row k gen xs true)).B[id]? = some (b, o') := by simp [Ctx.set, hid']
    have := hD.inj i' id b o2 o' w1 e1
    subst this
    rw [e1] at w1
    injection w1 with w1; injection w1 with _ w1
    subst w1
    have e2 : (C.set w' i' b o' (.row k gen xs true)).st[i']? = some (.row k gen xs true) := by simp [Ctx.set, hid]
    rw [e2] at w2
    injection w2 with w2
    subst w2
    have w4 : o' + xs.length * k ≤ o' + (off + i) * k + j := w3 rfl
    have w5 : (off + i + 1) * k ≤ xs.length * k := Nat.mul_le_mul_right _ (by omega)
    rw [Nat.add_mul] at w5
    omega
  · rw [add_plain]
    exact hO.dis id b o' _ p1
theorem ps_snp {x : Operand} {p : Prim} {o : Op} (ho : o = .move x ∨ o = .assign x) (hc : ((cOpd x).bind fun x => some (Prim.snp x)) = some p) : PS P G bases o p := by
  intro C e a oo r st' hoo hO hg hE h
  simp only [Option.bind_eq_some_iff, Option.some.injEq] at hc
  obtain ⟨y, h1, rfl⟩ := hc
  have hrun : (execOp a.eval oo).run P C.w = .ok (.value (a.eval x)) C.w := by
    rcases ho with rfl | rfl <;> simp [execOp, hoo]
  simp only [Prim.ev] at h
  split at h
  · rename_i id gen off ln k1
    have hv := cOpd_ok h1 hg hE k1
    split at h
    · rename_i k g xs nw hst
      split at h
      · rename_i hq
        obtain ⟨rfl, b1, b2⟩ := hq
        simp only [Option.some.injEq, Prod.mk.injEq] at h
        obtain ⟨rfl, rfl⟩ := h
        obtain ⟨b, o', cap, t, n, ad, p1, ⟨p2, pa⟩, p3, p4, p5, p6⟩ := VR_own hv hst
        have T : Turn C C.w id b o' b o' (.row k g xs nw) (.row k g xs true) :=
          ⟨hst, p1, by simp [Ob.next], .inl ⟨by simp [Ob.still], rfl, rfl⟩, rfl, rfl, rfl, Nat.le_refl _, fun _ _ _ => rfl, rfl, fun ad c _ hs => hs.1, fun off' hwr => .inl ⟨rfl, fun _ => hwr rfl⟩, .inl rfl⟩
        have hx := ext_set hO T
        have hR : ObR C b o' (.row k g xs nw) := hO.obs id _ b o' hst p1
        have hD := ok_set hO T (by
          obtain ⟨ccs, t', q1, q2, q3, q4⟩ := hR
          exact ⟨ccs, t', rowAt_true q1, q2, q3, VRs_ext hx q4⟩)
        refine ⟨C.set C.w id b o' (.row k g xs true), _, a.eval x, hrun, .inl rfl, hx, hD, rfl, ?_⟩
        rw [p2]
        exact snp_core hO hst p1 pa p3 b1 T (fun _ => rfl) hD
      · cases h
    · cases h
  · rename_i av _ k1
    split at h
    · simp only [Option.some.injEq, Prod.mk.injEq] at h
      obtain ⟨rfl, rfl⟩ := h
      exact Does.stay hO hrun (cOpd_ok h1 hg hE k1)
    · cases h
  · cases h
theorem ps_cvs {s el : TypeId} {x : Operand} {p : Prim} (hs : P.underlying s = some (.slice el)) (he : P.underlying el = some (.int .u8)) (hc : ((cOpd x).bind fun x => some (Prim.cvs x)) = some p) : PS P G bases (.convert s s x) p := by
  intro C e a oo r st' hoo hO hg hE h
  simp only [Option.bind_eq_some_iff, Option.some.injEq] at hc
  obtain ⟨y, h1, rfl⟩ := hc
  simp only [Prim.ev] at h
  split at h
  · rename_i id gen off ln k1
    have hv := cOpd_ok h1 hg hE k1
    split at h
    · rename_i k g xs nw hst
      split at h
      · rename_i hq
        obtain ⟨rfl, b1, b2, b3⟩ := hq
        simp only [Option.some.injEq, Prod.mk.injEq] at h
        obtain ⟨rfl, rfl⟩ := h
        obtain ⟨b, o', cap, t, n, ad, p1, ⟨p2, pa⟩, p3, p4, p5, p6⟩ := VR_own hv hst
        have hR : ObR C b o' (.row k g xs nw) := hO.obs id _ b o' hst p1
        obtain ⟨ccs, t', ⟨fr, q1, qf⟩, q2, q3, q4⟩ := hR
        obtain rfl := pa (by omega)
        have hsh : C.w.shape? b = some (t', ccs.size) := by simp [World.shape?, q1]
        let w' : World := C.w.freeze ⟨b, ccs.size, none⟩ 1
        obtain ⟨fr', hat, hfr⟩ : ∃ fr', w'.heap[b]? = some (.cells ccs t' fr') ∧ ccs.size ≤ fr'.1 := by
          obtain ⟨lo, hi⟩ := fr
          refine ⟨if (lo == hi) = true then (ccs.size, ccs.size + 1) else (min lo ccs.size, max hi (ccs.size + 1)), ?_, ?_⟩
          · simp only [w', World.freeze]
            rw [if_neg (by omega)]
            simp only [Array.getElem?_modify, if_true, q1]
            rfl
          · split
            · exact Nat.le_refl _
            · rename_i hne
              rcases qf with qf | ⟨_, qf⟩
              · cases qf; simp at hne
              · have : ccs.size ≤ lo := qf
                show ccs.size ≤ min lo ccs.size
                omega
        have hother : ∀ k', k' ≠ b → w'.heap[k']? = C.w.heap[k']? := fun k' hk => by
          simp only [w', World.freeze]
          rw [if_neg (by omega)]
          simp only [Array.getElem?_modify]
          rw [if_neg (by omega)]
        have hcell : ∀ z, w'.cell? z = C.w.cell? z := fun z => by
          by_cases hz : z.block = b
          · unfold World.cell?
            rw [hz, hat, q1]
          · exact cell_of_heap (hother _ hz)
        have hrun : (execOp a.eval oo).run P C.w = .ok (.value (.slice (some ⟨b, o' + off * k, none⟩) ln cap)) w' := by
          simp only [execOp, hoo, p2, convert, Sem.run_bind, run_underlying hs, run_underlying he, Result.andThen_ok, beq_self_eq_true, markStringish, run_shape, hsh, Sem.run_pure]
          rfl
        have T : Turn C w' id b o' b o' (.row k g xs nw) (.row k g xs true) :=
          ⟨hst, p1, by simp [Ob.next], .inl ⟨by simp [Ob.still], rfl, rfl⟩, by simp [w', World.freeze], by simp [w', World.freeze], by simp [w', World.freeze], by simp [w', World.freeze], fun k' _ hk => hother k' hk, by rw [hsh]; simp [World.shape?, hat], fun ad c _ hs => (hcell _).trans hs.1, fun off' hwr => .inl ⟨rfl, fun _ => hwr rfl⟩, .inl rfl⟩
        have hx := ext_set hO T
        have hD := ok_set hO T ⟨ccs, t', ⟨fr', hat, .inr ⟨rfl, hfr⟩⟩, q2, q3, VRs_ext hx q4⟩
        exact ⟨C.set w' id b o' (.row k g xs true), _, _, hrun, .inl rfl, hx, hD, rfl, snp_core hO hst p1 pa p3 b1 T hcell hD⟩
      · cases h
    · cases h
  · cases h
end
end Go.Proofs.YtoobogpbejdocaaDoor.Ev
set_option linter.unusedVariables false
set_option linter.unusedSimpArgs false
namespace Go.Proofs.YtoobogpbejdocaaDoor.Ev
open Go.RowKit
section
variable {P : Program} {G : Nat → Option (List AV)} {bases : List Nat} {C : Ctx} {e : Env} {a : Act}
theorem run_places (w : World) : ∀ (l : List Field), (∀ f, f ∈ l → (P.info? f.type).isSome = true) →
    ∃ ps : List (Nat × Nat), (l.mapM fun f => (do pure (f.offset, ← sizeOf f.type) : Sem (Nat × Nat))).run P w = .ok ps w ∧ ∀ (i : Nat) (f : Field) (n : TypeInfo), l[i]? = some f → P.info? f.type = some n → ps[i]? = some (f.offset, n.size)
  | [], _ => ⟨[], by simp, by simp⟩
  | f :: l, h => by
    obtain ⟨ps, h1, h2⟩ := run_places w l (fun g hg => h g (by simp [hg]))
    obtain ⟨n, hn⟩ := Option.isSome_iff_exists.1 (h f (by simp))
    refine ⟨(f.offset, n.size) :: ps, ?_, fun i g m hi hm => ?_⟩
    · simp only [List.mapM_cons, Sem.run_bind, run_sizeOf' hn, Result.andThen_ok, Sem.run_pure, h1]
    · cases i with
      | zero => simp at hi; subst hi; rw [hn] at hm; cases hm; rfl
      | succ i => simp at hi; simpa using h2 i g m hi hm
theorem VRs_put {az bs : List AV} {cs ds : List Value} (h : VRs C az cs) (k : VRs C bs ds) (o : Nat) : VRs C (az.take o ++ bs ++ az.drop (o + bs.length)) (cs.take o ++ ds ++ cs.drop (o + ds.length)) := by
  rw [← VRs_length k]
  exact VRs_append (VRs_append (VRs_take h o) k) (VRs_drop h _)
theorem fill_parts (place : Nat → Option (Nat × Nat)) {n : Nat} : ∀ {l : List (Nat × Operand)} {xs : List (Nat × Nat × Opd)} {rs : List (Nat × List AV)} {zs : List AV} {cs : Array Value},
    (∀ i : Nat, ∀ p x, l[i]? = some p → xs[i]? = some x → place p.1 = some (x.1, x.2.1) ∧ cOpd p.2 = some x.2.2) → l.length = xs.length → GlobR C G → EnvR C e a → evParts G e n xs = some rs → cs.size = n → VRs C zs cs.toList →
    ∃ cs', Instr.fill place cs (l.map fun p => (p.1, a.eval p.2)) = some cs' ∧ VRs C (fills zs rs) cs'.toList
  | [], xs, rs, zs, cs, hp, hl, hg, hE, h, hn, hv => by
    have : xs = [] := List.eq_nil_of_length_eq_zero hl.symm
    subst this
    simp only [evParts, Option.some.injEq] at h; subst h
    exact ⟨cs, by simp [Instr.fill], by simpa [fills] using hv⟩
  | p :: l, xs, rs, zs, cs, hp, hl, hg, hE, h, hn, hv => by
    cases xs with
    | nil => simp at hl
    | cons x xs =>
      obtain ⟨o, k, y⟩ := x
      obtain ⟨hp1, hp2⟩ := hp 0 p (o, k, y) rfl rfl
      simp only [evParts] at h
      cases k1 : y.ev G e with
      | none => rw [k1] at h; cases h
      | some r =>
        rw [k1] at h
        dsimp only at h
        split at h
        · rename_i hq
          obtain ⟨q1, q2, q3⟩ := hq
          cases k2 : evParts G e n xs with
          | none => rw [k2] at h; cases h
          | some rs' =>
            rw [k2] at h
            simp only [Option.some.injEq] at h; subst h
            have hr := cOpd_ok hp2 hg hE k1
            have hcs := VR_csize hr q3
            obtain ⟨cs1, m1, m2⟩ := fill_cons place cs p.1 (a.eval p.2) (l.map fun p => (p.1, a.eval p.2)) o k hp1 (by omega) (by omega)
            have hcs1 : cs1.size = n := by
              rw [← Array.length_toList, m1]; simp; omega
            have hv1 : VRs C (zs.take o ++ r.cells ++ zs.drop (o + r.cells.length)) cs1.toList := by
              rw [m1, show (a.eval p.2).cells.size = (a.eval p.2).cells.toList.length by simp]
              exact VRs_put hv (VR_cells hr q3) o
            obtain ⟨cs', n1, n2⟩ := fill_parts place (l := l) (xs := xs) (fun i p x h1 h2 => hp (i + 1) p x (by simpa using h1) (by simpa using h2)) (by simpa using hl) hg hE k2 hcs1 hv1
            exact ⟨cs', by simp only [List.map_cons]; rw [m2]; exact n1, by simpa [fills] using n2⟩
        · cases h
theorem cParts_get {fs : Array Field} : ∀ {l : List (Nat × Operand)} {xs : List (Nat × Nat × Opd)}, cParts P fs l = some xs → l.length = xs.length ∧ ∀ i : Nat, ∀ p x, l[i]? = some p → xs[i]? = some x → ∃ f n, fs[p.1]? = some f ∧ P.info? f.type = some n ∧ x.1 = f.offset ∧ x.2.1 = n.size ∧ cOpd p.2 = some x.2.2
  | [], xs, h => by simp only [cParts, Option.some.injEq] at h; subst h; exact ⟨rfl, by simp⟩
  | (i, y) :: l, xs, h => by
    simp only [cParts, Option.bind_eq_some_iff, Option.some.injEq] at h
    obtain ⟨f, h1, n, h2, z, h3, ys, h4, rfl⟩ := h
    obtain ⟨k1, k2⟩ := cParts_get h4
    refine ⟨by simp [k1], fun j p x hp hx => ?_⟩
    cases j with
    | zero => simp at hp hx; subst hp; subst hx; exact ⟨f, n, h1, h2, rfl, rfl, h3⟩
    | succ j => simp at hp hx; exact k2 j p x hp hx
theorem cPartsA_get {k : Nat} : ∀ {l : List (Nat × Operand)} {xs : List (Nat × Nat × Opd)}, cPartsA k l = some xs → l.length = xs.length ∧ ∀ i : Nat, ∀ p x, l[i]? = some p → xs[i]? = some x → x.1 = p.1 * k ∧ x.2.1 = k ∧ cOpd p.2 = some x.2.2
  | [], xs, h => by simp only [cPartsA, Option.some.injEq] at h; subst h; exact ⟨rfl, by simp⟩
  | (i, y) :: l, xs, h => by
    simp only [cPartsA, Option.bind_eq_some_iff, Option.some.injEq] at h
    obtain ⟨z, h3, ys, h4, rfl⟩ := h
    obtain ⟨k1, k2⟩ := cPartsA_get h4
    refine ⟨by simp [k1], fun j p x hp hx => ?_⟩
    cases j with
    | zero => simp at hp hx; subst hp; subst hx; exact ⟨rfl, rfl, h3⟩
    | succ j => simp at hp hx; exact k2 j p x hp hx
theorem ps_build {t : TypeId} {parts : Array (Nat × Operand)} {z : List AV} {fs : Array Field} {l : List (Nat × Nat × Opd)} (hz : zeroC P t = some z) (hu : P.underlying t = some (.struct fs)) (hf : (fs.toList.all fun f => (P.info? f.type).isSome) = true)
    (hl : cParts P fs parts.toList = some l) : PS P G bases (.build t parts) (.build z l) := by
  intro C e a oo r st' hoo hO hg hE h
  obtain ⟨x, hx, rfl, hq⟩ := zero_run hz
  simp only [Prim.ev] at h
  split at h
  · rename_i rs k1
    simp only [Option.some.injEq, Prod.mk.injEq] at h
    obtain ⟨rfl, rfl⟩ := h
    obtain ⟨ps, m1, m2⟩ := run_places (P := P) C.w fs.toList (List.all_eq_true.1 hf)
    have m1' : (fs.mapM fun f => (do pure (f.offset, ← sizeOf f.type) : Sem (Nat × Nat))).run P C.w = .ok ps.toArray C.w := by
      obtain ⟨fl⟩ := fs
      rw [List.mapM_toArray]
      rw [Sem.run_map, m1]; rfl
    have hv := VR_cells (C := C) (VR_ofVal hq) (ofVal_tuple hq)
    obtain ⟨c1, c2⟩ := cParts_get hl
    obtain ⟨cs', n1, n2⟩ := fill_parts (fun i => ps.toArray[i]?) (l := parts.toList) (xs := l) (cs := x.cells) (zs := (ofVal x).cells) (fun i p y hp hy => by
      obtain ⟨f, n, h1, h2, h3, h4, h5⟩ := c2 i p y hp hy
      refine ⟨?_, h5⟩
      have := m2 p.1 f n (by simpa using h1) h2
      simpa [h3, h4] using this) c1 hg hE k1 (by simpa using (VRs_length hv).symm) hv
    refine Does.stay hO (x := .agg cs') ?_ (by simp only [VR]; exact ⟨_, rfl, n2⟩)
    simp only [execOp, hoo, Instr.build, Sem.run_bind, hx, run_underlying hu, Result.andThen_ok, m1']
    rw [show (parts.map fun (i, x) => (i, a.eval x)).toList = parts.toList.map fun p => (p.1, a.eval p.2) by simp]
    rw [n1]
    rfl
  · cases h
theorem ps_buildA {t el : TypeId} {ln : Nat} {j : TypeInfo} {parts : Array (Nat × Operand)} {z : List AV} {l : List (Nat × Nat × Opd)} (hz : zeroC P t = some z) (hu : P.underlying t = some (.array ln el)) (hj : P.info? el = some j)
    (hl : cPartsA j.size parts.toList = some l) : PS P G bases (.build t parts) (.build z l) := by
  intro C e a oo r st' hoo hO hg hE h
  obtain ⟨x, hx, rfl, hq⟩ := zero_run hz
  simp only [Prim.ev] at h
  split at h
  · rename_i rs k1
    simp only [Option.some.injEq, Prod.mk.injEq] at h
    obtain ⟨rfl, rfl⟩ := h
    have hv := VR_cells (C := C) (VR_ofVal hq) (ofVal_tuple hq)
    obtain ⟨c1, c2⟩ := cPartsA_get hl
    obtain ⟨cs', n1, n2⟩ := fill_parts (fun i => some (i * j.size, j.size)) (l := parts.toList) (xs := l) (cs := x.cells) (zs := (ofVal x).cells) (fun i p y hp hy => by
      obtain ⟨h1, h2, h3⟩ := c2 i p y hp hy
      exact ⟨by rw [h1, h2], h3⟩) c1 hg hE k1 (by simpa using (VRs_length hv).symm) hv
    refine Does.stay hO (x := .agg cs') ?_ (by simp only [VR]; exact ⟨_, rfl, n2⟩)
    simp only [execOp, hoo, Instr.build, Sem.run_bind, hx, run_underlying hu, Result.andThen_ok, run_sizeOf' hj]
    rw [show (parts.map fun (i, x) => (i, a.eval x)).toList = parts.toList.map fun p => (p.1, a.eval p.2) by simp]
    rw [n1]
    rfl
  · cases h
end
end Go.Proofs.YtoobogpbejdocaaDoor.Ev
set_option linter.unusedVariables false
set_option linter.unusedSimpArgs false
namespace Go.Proofs.YtoobogpbejdocaaDoor.Ev
open Go.RowKit
theorem put_len {α : Type} {cs l : List α} {o : Nat} (h : o + l.length ≤ cs.length) : (cs.take o ++ l ++ cs.drop (o + l.length)).length = cs.length := by simp; omega
theorem put_get {α : Type} {cs l : List α} {o : Nat} (h : o + l.length ≤ cs.length) (i : Nat) : (cs.take o ++ l ++ cs.drop (o + l.length))[i]? = if i < o then cs[i]? else if i < o + l.length then l[i - o]? else cs[i]? := by
  have h1 : (cs.take o).length = o := by rw [List.length_take]; omega
  rw [List.append_assoc, List.getElem?_append, h1]
  split
  · rename_i hi; rw [List.getElem?_take, if_pos hi]
  · rename_i hi
    rw [List.getElem?_append]
    by_cases h2 : i < o + l.length
    · rw [if_pos (by omega), if_pos h2]
    · rw [if_neg (by omega), if_neg h2, List.getElem?_drop]
      congr 1; omega
theorem flat_div {α : Type} {k : Nat} (hk : 0 < k) {xs : List (List α)} (hx : ∀ c, c ∈ xs → c.length = k) {i : Nat} {q : α} (h : xs.flatten[i]? = some q) : ∃ c, xs[i / k]? = some c ∧ c[i % k]? = some q := by
  have hl := (List.getElem?_eq_some_iff.1 h).1
  rw [flat_len hx] at hl
  have h1 : i / k < xs.length := by rwa [Nat.div_lt_iff_lt_mul hk]
  refine ⟨xs[i / k], List.getElem?_eq_getElem h1, ?_⟩
  rw [← flat_get hx (i / k) (i % k) _ (List.getElem?_eq_getElem h1) (Nat.mod_lt _ hk), Nat.mul_comm, Nat.div_add_mod]
  exact h
theorem flat_set {α : Type} {k : Nat} : ∀ {xs : List (List α)}, (∀ c, c ∈ xs → c.length = k) → ∀ {i off : Nat} {c l : List α}, xs[i]? = some c → off + l.length ≤ k →
    (xs.set i (c.take off ++ l ++ c.drop (off + l.length))).flatten = xs.flatten.take (i * k + off) ++ l ++ xs.flatten.drop (i * k + off + l.length)
  | [], _, i, off, c, l, h, _ => by simp at h
  | x :: xs, hx, 0, off, c, l, h, hl => by
    simp at h; subst h
    have := hx x (by simp)
    simp only [List.set_cons_zero, List.flatten_cons, Nat.zero_mul, Nat.zero_add]
    rw [List.take_append_of_le_length (by omega), List.drop_append_of_le_length (by omega), List.append_assoc (x.take off ++ l)]
  | x :: xs, hx, i + 1, off, c, l, h, hl => by
    simp at h
    have h1 := hx x (by simp)
    simp only [List.set_cons_succ, List.flatten_cons]
    rw [flat_set (fun c hc => hx c (by simp [hc])) h hl]
    have e1 : (i + 1) * k + off = x.length + (i * k + off) := by rw [h1, Nat.add_mul]; omega
    have t1 : ∀ j, (x ++ xs.flatten).take (x.length + j) = x ++ xs.flatten.take j := fun j => by rw [List.take_append, List.take_of_length_le (by omega)]; simp
    have t2 : ∀ j, (x ++ xs.flatten).drop (x.length + j) = xs.flatten.drop j := fun j => by rw [List.drop_append]; simp
    rw [e1, t1, Nat.add_assoc x.length, t2]
    simp [List.append_assoc]
theorem seg_put {α : Type} {cs l : List α} {o i n : Nat} (h : i + l.length ≤ n) (hn : o + n ≤ cs.length) :
    ((cs.take (o + i) ++ l ++ cs.drop (o + i + l.length)).drop o).take n = ((cs.drop o).take n).take i ++ l ++ ((cs.drop o).take n).drop (i + l.length) := by
  have h2 : ((cs.drop o).take n).length = n := by simp; omega
  apply List.ext_getElem?
  intro j
  rw [put_get (by omega), List.getElem?_take, List.getElem?_drop, put_get (by omega)]
  simp only [List.getElem?_take, List.getElem?_drop]
  by_cases h1 : j < n
  · simp only [h1, if_true]
    by_cases h3 : j < i
    · rw [if_pos (by omega), if_pos h3]
    · rw [if_neg (by omega), if_neg h3]
      by_cases h4 : j < i + l.length
      · rw [if_pos (by omega), if_pos h4]; congr 1; omega
      · rw [if_neg (by omega), if_neg h4]
  · simp only [h1, if_false]
    rw [if_neg (by omega), if_neg (by omega)]
section
variable {P : Program} {G : Nat → Option (List AV)} {bases : List Nat} {C : Ctx} {e : Env} {a : Act}
theorem does_store {oo : Oper} (hO : C.OK) {p b : AV} {pv bv : Value} {n : Nat} {st' : Store} (hp : VR C p pv) (hb : VR C b bv) (ht : b.tuple = false) (h : stAt bases C.st n b.cells p = some st')
    (hr : ∀ ad w', pv = .pointer (some ad) → bv.cells.size = n → (storeCells ad bv.cells.toList 0).run P C.w = .ok () w' → (execOp a.eval oo).run P C.w = .ok .skip w') : Does P a oo C (.tup []) st' := by
  have hv := VR_cells hb ht
  have hone := VRs_one hv
  have hlen := VRs_length hv
  have hsz : bv.cells.toList.length = bv.cells.size := by simp
  cases p with
  | ref id gen i off =>
    simp only [stAt] at h
    split at h
    · rename_i hq
      split at h
      · rename_i cs hst
        split at h
        · rename_i hgi
          simp only [Option.some.injEq] at h; subst h
          obtain ⟨bb, o, hB, rfl, ccs, t, f2, f3⟩ := hO.get hst
          have hccs := VRs_length f3
          simp only [Array.length_toList] at hccs
          have hpv : pv = .pointer (some ⟨bb, off, none⟩) := by
            simp only [VR] at hp
            rcases hp with ⟨cs', b', k1, k2, e1⟩ | ⟨_, k, g, xs, nw, k1, _⟩
            · rw [hB] at k2; injection k2 with k2; injection k2 with k2 _; subst k2; exact e1
            · rw [hst] at k1; cases k1
          obtain ⟨w', ccs', r1, u, r2⟩ := run_storeCells P bv.cells.toList 0 C.w ccs t bb off (.inl rfl) f2 (by omega) hone
          rw [Nat.add_zero] at r2
          have hcs' : ccs'.size = ccs.size := by rw [← Array.length_toList, r2, put_len (by simp; omega)]; simp
          have T : Turn C w' id bb 0 bb 0 (.box cs) (.box (putCells cs off b.cells)) := by
            refine ⟨hst, hB, by simp [Ob.next], .inl ⟨by simp [Ob.still], rfl, rfl⟩, u.os, u.tape, u.out, by rw [u.size]; exact Nat.le_refl _, fun k _ hk => u.other k hk, ?_, fun ad c hb' hs => ?_, fun _ _ => .inl ⟨rfl, trivial⟩, .inl rfl⟩
            · simp [World.shape?, f2, u.at_, hcs']
            · exact absurd ⟨id, 0, _, by rw [hb']; exact hB, hst, trivial⟩ hs.2.1
          have hx := ext_set hO T
          refine ⟨_, _, _, hr _ w' hpv (by omega) r1, .inr ⟨rfl, rfl⟩, hx, ok_set hO T ⟨rfl, ccs', t, u.at_, ?_⟩, rfl, by simp only [VR]; exact ⟨#[], rfl, by simp [VRt]⟩⟩
          rw [r2]
          unfold putCells
          exact VRs_put (VRs_ext hx f3) (VRs_ext hx hv) off
        · cases h
      · rename_i k g xs nw hst
        split at h
        · rename_i hg
          obtain ⟨rfl, rfl⟩ := hg
          split at h
          · rename_i c hc
            split at h
            · rename_i hle
              simp only [Option.some.injEq] at h; subst h
              obtain ⟨bb, o, hB, ccs, t, ⟨fr, f1, ff⟩, f2, f3, f4⟩ := hO.get hst
              obtain rfl : fr = (0, 0) := by
                rcases ff with ff | ⟨ff, _⟩
                · exact ff
                · cases ff
              have hcl := f2 c (List.mem_of_getElem? hc)
              have hil := (List.getElem?_eq_some_iff.1 hc).1
              have hik : (i + 1) * k ≤ xs.length * k := Nat.mul_le_mul_right k hil
              rw [Nat.add_mul] at hik
              have hpv : pv = .pointer (some ⟨bb, o + i * k + off, none⟩) := by
                simp only [VR] at hp
                rcases hp with ⟨cs', b', k1, _⟩ | ⟨_, k', g', xs', nw', k1, _, k3⟩
                · rw [hst] at k1; cases k1
                · rw [hst] at k1
                  injection k1 with k1
                  injection k1 with q1 q2 q3 q4
                  subst q1; subst q2
                  obtain ⟨b', o', m1, m2⟩ := k3 rfl
                  rw [hB] at m1; injection m1 with m1; injection m1 with m1 m3
                  subst m1; subst m3
                  exact m2
              obtain ⟨w', ccs', r1, u, r2⟩ := run_storeCells P bv.cells.toList 0 C.w ccs t bb (o + i * k + off) (.inl rfl) f1 (by omega) hone
              rw [Nat.add_zero] at r2
              have hcs' : ccs'.size = ccs.size := by rw [← Array.length_toList, r2, put_len (by simp; omega)]; simp
              have T : Turn C w' id bb o bb o (.row k g xs false) (.row k g (xs.set i (putCells c off b.cells)) false) := by
                refine ⟨hst, hB, by simp [Ob.next], .inl ⟨by simp [Ob.still], rfl, rfl⟩, u.os, u.tape, u.out, by rw [u.size]; exact Nat.le_refl _, fun k _ hk => u.other k hk, ?_, fun ad c hb' hs => ?_, fun _ _ => .inl ⟨rfl, by simp [Ob.wr]⟩, .inl rfl⟩
                · simp [World.shape?, f1, u.at_, hcs']
                · exact absurd ⟨id, o, _, by rw [hb']; exact hB, hst, by simp [Ob.wr]⟩ hs.2.1
              have hx := ext_set hO T
              refine ⟨_, _, _, hr _ w' hpv (by omega) r1, .inr ⟨rfl, rfl⟩, hx, ok_set hO T ⟨ccs', t, ⟨_, u.at_, .inl rfl⟩, ?_, ?_, ?_⟩, rfl, by simp only [VR]; exact ⟨#[], rfl, by simp [VRt]⟩⟩
              · intro d hd
                rcases List.mem_or_eq_of_mem_set hd with hd | rfl
                · exact f2 d hd
                · unfold putCells; rw [put_len (by omega)]; exact hcl
              · rw [hcs']; simpa using f3
              · rw [r2, List.length_set]
                unfold putCells
                rw [flat_set f2 hc (by omega)]
                rw [show o + i * k + off = o + (i * k + off) by omega]
                rw [seg_put (by omega) (by simp; omega)]
                exact VRs_put (VRs_ext hx f4) (VRs_ext hx hv) _
            · cases h
          · cases h
        · cases h
      · cases h
    · cases h
  | _ => simp [stAt] at h
theorem ps_store {t : TypeId} {i : TypeInfo} {x y : Operand} {p : Prim} (hi : P.info? t = some i) (hc : ((cOpd x).bind fun p => (cOpd y).bind fun x => some (Prim.store i.size p x)) = some p) : PS P G bases (.store t x y) p := by
  intro C e a oo r st' hoo hO hg hE h
  simp only [Option.bind_eq_some_iff, Option.some.injEq] at hc
  obtain ⟨x', h1, y', h2, rfl⟩ := hc
  simp only [Prim.ev] at h
  obtain ⟨z, k1, h⟩ := ev1 h
  split at h
  · rename_i b k2
    split at h
    · cases h
    · rename_i ht
      split at h
      · rename_i st2 k3
        simp only [Option.some.injEq, Prod.mk.injEq] at h
        obtain ⟨rfl, rfl⟩ := h
        refine does_store hO (cOpd_ok h1 hg hE k1) (cOpd_ok h2 hg hE k2) (by simpa using ht) k3 fun ad w' e1 e2 e3 => ?_
        simp only [execOp, hoo, e1, Instr.storeAt, Instr.sureAddr, Sem.run_bind, Sem.run_pure, Result.andThen_ok, storeVar, run_sizeOf' hi]
        rw [if_neg (by omega), e3]
        rfl
      · cases h
  · cases h
end
end Go.Proofs.YtoobogpbejdocaaDoor.Ev
set_option linter.unusedVariables false
set_option linter.unusedSimpArgs false
namespace Go.Proofs.YtoobogpbejdocaaDoor.Ev
open Go.RowKit
theorem data_size (s : ByteArray) : s.data.toList.length = s.size := by simp
section
variable {P : Program} {G : Nat → Option (List AV)} {bases : List Nat} {C : Ctx} {e : Env} {a : Act}
theorem run_flat {ys : List (List AV)} {k : Nat} (hk : 0 < k) (hy : ∀ c, c ∈ ys → c.length = k) {ad : Addr} (h : ∀ (i : Nat) (c : List AV), ys[i]? = some c → ∀ (j : Nat) (q : AV), c[j]? = some q → ∃ v, C.w.cell? (ad.add (i * k + j)) = some v ∧ VR C q v ∧ v.oneCell' = true) :
    ∃ news : Array Value, (loadCells ad (ys.length * k)).run P C.w = .ok news C.w ∧ VRs C ys.flatten news.toList := by
  obtain ⟨vs, h1, h2, h3⟩ := list_of (cs := ys.flatten) (ad := ad) (w := C.w) (fun i q hq => by
    obtain ⟨c, k1, k2⟩ := flat_div hk hy hq
    have := h _ c k1 _ q k2
    rwa [Nat.mul_comm, Nat.div_add_mod] at this) ys.flatten.length (Nat.le_refl _)
  rw [List.take_length] at h2
  refine ⟨vs.toArray, ?_, by simpa using h2⟩
  have := run_loadCells_list (P := P) C.w ad vs h3
  rwa [h1, flat_len hy] at this
theorem run_first (hO : C.OK) {b : AV} {v : Value} {ys : List (List AV)} {k : Nat} (hk : 0 < k) (h : VR C b v) (he : elems C.st b = some ys) (hy : ∀ c, c ∈ ys → c.length = k) :
    ∃ news : Array Value, (Builtin.lenOf v).run P C.w = .ok ys.length C.w ∧ (Builtin.firstCells k ys.length v).run P C.w = .ok news C.w ∧ VRs C ys.flatten news.toList := by
  unfold elems at he
  split at he
  · rename_i e xs
    simp only [Option.some.injEq] at he; subst he
    simp only [VR] at h
    obtain ⟨ao, cap, rfl, _, f⟩ := h
    cases ao with
    | none =>
      have : xs = [] := by
        cases xs with
        | nil => rfl
        | cons c cs => obtain ⟨_, ad, h1, _⟩ := VRrow_get f 0 c rfl; cases h1
      subst this
      exact ⟨#[], by simp [Builtin.lenOf], by simp [Builtin.firstCells], by simp [VRs]⟩
    | some ad =>
      obtain ⟨news, m1, m2⟩ := run_flat (P := P) hk hy (ad := ad) (fun i c hi j q hj => by
        obtain ⟨h1, ad', h2, hs, h3⟩ := VRrow_get f i c hi
        cases h2
        have he : e = k := by have := hy c (List.mem_of_getElem? hi); omega
        subst he
        obtain ⟨v, n1, n2⟩ := VRat_get h3 j q hj
        rw [Nat.zero_add] at n1
        exact ⟨v, n1.1, n2⟩)
      exact ⟨news, by simp [Builtin.lenOf], by simpa [Builtin.firstCells] using m1, m2⟩
  · rename_i id gen off ln
    split at he
    · rename_i e g xs nw hst
      split at he
      · rename_i hg
        subst hg
        simp only [Option.some.injEq] at he; subst he
        obtain ⟨b, o, cap, t, n, ad, p1, ⟨rfl, pa⟩, p3, p4, p5, p6⟩ := VR_own h hst
        have hl : ((xs.drop off).take ln).length = ln := by simp; omega
        by_cases h0 : ln = 0
        · subst h0
          refine ⟨#[], by simp [Builtin.lenOf], ?_, by simp [VRs]⟩
          simp [Builtin.firstCells, loadCells, loadCellsFrom]
        · obtain rfl := pa (by omega)
          obtain ⟨b', o', hB, hR⟩ := hO.get hst
          rw [p1] at hB; injection hB with hB; injection hB with q1 q2
          subst q1; subst q2
          obtain ⟨news, m1, m2⟩ := run_flat (P := P) hk hy (ad := ⟨b, o + off * e, none⟩) (fun i c hi j q hj => by
            have hck := hy c (List.mem_of_getElem? hi)
            rw [List.getElem?_take] at hi
            split at hi
            · rw [List.getElem?_drop] at hi
              obtain ⟨ccs, t', _, hx, _⟩ := hR
              have : e = k := by have := hx c (List.mem_of_getElem? hi); omega
              subst this
              obtain ⟨v, n1, n2⟩ := row_cell (hO.obs id _ b o hst p1) hi hj
              rw [add_plain]
              refine ⟨v, ?_, n2⟩
              rw [show o + off * e + (i * e + j) = o + (off + i) * e + j by rw [Nat.add_mul]; omega]
              exact n1
            · cases hi)
          exact ⟨news, by simp only [Builtin.lenOf, Sem.run_pure, hl], by rw [hl] at m1 ⊢; simpa only [Builtin.firstCells] using m1, m2⟩
      · cases he
    · cases he
  · simp only [Option.some.injEq] at he; subst he
    have := VR_plain h
    subst this
    exact ⟨#[], by simp [Builtin.lenOf], by simp [Builtin.firstCells], by simp [VRs]⟩
  · rename_i s
    simp only [Option.some.injEq] at he; subst he
    have := VR_plain h
    subst this
    refine ⟨s.data.map fun b => .int .u8 b.toNat, by simp [Builtin.lenOf, data_size], ?_, ?_⟩
    · simp only [Builtin.firstCells, Sem.run_pure, List.length_map, data_size]
      congr 2
      rw [ByteArray.extract_zero_size]
    · rw [show (List.map (fun b : UInt8 => [AV.v (.int .u8 (b.toNat : Int))]) s.data.toList).flatten = s.data.toList.map fun b => AV.v (.int .u8 (b.toNat : Int)) from by
          induction s.data.toList <;> simp_all]
      apply VRs_mk
      · simp
      · intro i q c h1 h2
        simp only [List.getElem?_map, Array.toList_map] at h1 h2
        cases hq : s.data.toList[i]? with
        | none => rw [hq] at h1; cases h1
        | some u =>
          rw [hq] at h1 h2
          simp at h1 h2
          subst h1; subst h2
          exact ⟨VR_v rfl, rfl⟩
  · cases he
theorem growslice {need old bytes : Nat} (h : old < need) (hb : need * bytes ≤ 140737488355328) : ¬ Builtin.nextslicecap need old * bytes > 2 ^ 48 := by
  have := growslice_fits h hb
  omega
theorem run_grow {t u ty el : TypeId} {i : TypeInfo} {z : Value} (ht : P.underlying t = some (.slice el)) (hu : (∃ q, P.underlying u = some (.slice q)) ∨ P.underlying u = some .string) (hi : P.info? el = some i) (hz : i.zero = some z) (hb : 0 < i.bytes)
    {base : Option Addr} {ln cap m : Nat} {x : Value} {old news : Array Value} {w : World} (hl : (Builtin.lenOf x).run P w = .ok m w) (hold : (Builtin.firstCells i.size ln (.slice base ln cap)).run P w.drew = .ok old w.drew) (hnew : (Builtin.firstCells i.size m x).run P w.drew = .ok news w.drew)
    (hlt : cap < ln + m) (hlim : (ln + m) * i.bytes ≤ 140737488355328) :
    ∃ newCap, (Builtin.append_ #[t, u] ty #[.slice base ln cap, x]).run P w = .ok (.slice (some ⟨w.heap.size, 0, none⟩) (ln + m) newCap) (w.drew.alloc (.cells (old ++ news ++ Builtin.zeroCells z.cells (newCap - (ln + m))) el)) ∧ ln + m ≤ newCap := by
  have hz1 : (zeroValue el).run P w.drew = .ok z w.drew := by simp [zeroValue, run_typeInfo _ hi, hz]
  refine ⟨(ln + m) + (w.tape w.drawn (.appendCap (ln + m) cap el)) % (2 ^ 63 - (ln + m)), ?_, by omega⟩
  have h1 : ¬ ln + m ≤ cap := by omega
  have h2 := growslice hlt hlim
  have h3 : ¬ (((ln + m : Nat) : Int) > IntKind.i64.max ∧ ((false = true) ∨ i.bytes = 0)) := by simp; omega
  have h4 : ¬ (281474976710656 < Builtin.nextslicecap (ln + m) cap * i.bytes) := by omega
  have h5 : ¬ i.bytes = 0 := by omega
  rcases hu with ⟨q, hq⟩ | hq
  · simp [Builtin.append_, run_underlying ht, run_underlying hq, run_sizeOf' hi, run_typeInfo _ hi, hl, h1, h4, h5, Question.forced, Question.cut, hold, hnew, hz1, newRow]
  · simp [Builtin.append_, run_underlying ht, run_underlying hq, run_sizeOf' hi, run_typeInfo _ hi, hl, h1, h4, h5, Question.forced, Question.cut, hold, hnew, hz1, newRow]
theorem zeroCells_size (z : Array Value) (n : Nat) : (Builtin.zeroCells z n).size = n * z.size := by simp [Builtin.zeroCells]
theorem below_drew (w : World) : Below w.heap.size w w.drew := (Below.refl _ _).drew
theorem run_inplace {t u ty el : TypeId} {i : TypeInfo} (ht : P.underlying t = some (.slice el)) (hu : (∃ q, P.underlying u = some (.slice q)) ∨ P.underlying u = some .string) (hi : P.info? el = some i)
    {ad : Addr} {ln cap m : Nat} {x : Value} {news : Array Value} {w w' : World} (hl : (Builtin.lenOf x).run P w = .ok m w) (hnew : (Builtin.firstCells i.size m x).run P w = .ok news w)
    (hle : ln + m ≤ cap) (hs : (storeCells (ad.add (ln * i.size)) news.toList).run P w = .ok () w') :
    (Builtin.append_ #[t, u] ty #[.slice (some ad) ln cap, x]).run P w = .ok (.slice (some ad) (ln + m) cap) w' := by
  rcases hu with ⟨q, hq⟩ | hq
  · simp [Builtin.append_, run_underlying ht, run_underlying hq, run_sizeOf' hi, hl, hle, hnew, hs]
  · simp [Builtin.append_, run_underlying ht, run_underlying hq, run_sizeOf' hi, hl, hle, hnew, hs]
theorem does_row2 {oo : Oper} (hO : C.OK) {xs : List (List AV)} {k : Nat} (hx : ∀ c, c ∈ xs → c.length = k) {w1 : World} (hbl : Below C.w.heap.size C.w w1) {ccs : Array Value} {t : TypeId} (hh : w1.heap[C.w.heap.size]? = some (.cells ccs t (0, 0))) {cap : Nat} (hc : xs.length ≤ cap) (hs : cap * k ≤ ccs.size)
    (hv : VRs C xs.flatten (ccs.toList.take (xs.length * k)))
    (hr : (execOp a.eval oo).run P C.w = .ok (.value (.slice (some ⟨C.w.heap.size, 0, none⟩) xs.length cap)) w1) : Does P a oo C (.own C.st.length 0 0 xs.length) (C.st ++ [.row k 0 xs false]) := by
  have hx' := ext_push hO hbl (o := 0) (.row k 0 xs false) (Nat.le_refl C.w.heap.size)
  refine ⟨C.push w1 C.w.heap.size 0 (.row k 0 xs false), _, _, hr, .inl rfl, hx', ?_, rfl, ?_⟩
  · refine ok_push hO hbl (Nat.le_refl _) ?_
    refine ⟨ccs, t, ⟨_, hh, .inl rfl⟩, hx, ?_, by rw [List.drop_zero]; exact VRs_ext hx' hv⟩
    have := Nat.mul_le_mul_right k hc
    omega
  · simp only [VR]
    refine ⟨rfl, k, 0, xs, false, push_st, Nat.le_refl _, fun _ => ⟨C.w.heap.size, 0, cap, t, ccs.size, ⟨C.w.heap.size, 0, none⟩, push_B hO, ⟨rfl, fun _ => by simp⟩, hc, ?_, by simpa using hs, by omega⟩⟩
    show w1.shape? C.w.heap.size = _
    unfold World.shape?
    rw [hh]
theorem seg_flat {α : Type} {k : Nat} : ∀ {xs : List (List α)}, (∀ c, c ∈ xs → c.length = k) → ∀ off ln, ((xs.drop off).take ln).flatten = (xs.flatten.drop (off * k)).take (ln * k) := by
  intro xs hx off
  have hd : ∀ (n : Nat) (ys : List (List α)), (∀ c, c ∈ ys → c.length = k) → (ys.drop n).flatten = ys.flatten.drop (n * k) ∧ (ys.take n).flatten = ys.flatten.take (n * k) := by
    intro n
    induction n with
    | zero => intro ys _; simp
    | succ n ih =>
      intro ys hy
      cases ys with
      | nil => simp
      | cons y ys =>
        have h1 := hy y (by simp)
        obtain ⟨i1, i2⟩ := ih ys fun c hc => hy c (by simp [hc])
        have e1 : (n + 1) * k = y.length + n * k := by rw [h1, Nat.add_mul]; omega
        have t1 : ∀ j, (y ++ ys.flatten).take (y.length + j) = y ++ ys.flatten.take j := fun j => by rw [List.take_append, List.take_of_length_le (by omega)]; simp
        have t2 : ∀ j, (y ++ ys.flatten).drop (y.length + j) = ys.flatten.drop j := fun j => by rw [List.drop_append]; simp
        constructor
        · simp only [List.drop_succ_cons, List.flatten_cons]; rw [e1, t2, i1]
        · simp only [List.take_succ_cons, List.flatten_cons]; rw [e1, t1, i2]
  intro ln
  rw [(hd ln (xs.drop off) fun c hc => hx c (List.mem_of_mem_drop hc)).2, (hd off xs hx).1]
theorem ps_app {t u el : TypeId} {j : TypeInfo} {x y : Operand} {p : Prim} (hu : P.underlying t = some (.slice el)) (hj : P.info? el = some j) (hu2 : (∃ q, P.underlying u = some (.slice q)) ∨ P.underlying u = some .string)
    (hq : 0 < j.size ∧ 0 < j.bytes ∧ (j.zero.map fun z => z.cells.size) = some j.size) (hx : ∃ x', cOpd x = some x' ∧ ∃ y', cOpd y = some y' ∧ p = .app j.size j.bytes x' y') :
    PS P G bases (.call { callee := .builtin .append, args := #[x, y], argTypes := #[t, u] }) p := by
  intro C e a oo r st' hoo hO hg hE h
  obtain ⟨q1, q2, q3⟩ := hq
  simp only [Option.map_eq_some_iff] at q3
  obtain ⟨z, hz, hzs⟩ := q3
  obtain ⟨x', h1, y', h2, rfl⟩ := hx
  simp only [Prim.ev] at h
  obtain ⟨av, k1, h⟩ := ev1 h
  split at h
  · rename_i bv k2
    split at h
    · rename_i ys k3
      split at h
      · rename_i hall
        have hy : ∀ c, c ∈ ys → c.length = j.size := fun c hc => by simpa using List.all_eq_true.1 hall c hc
        have hv := cOpd_ok h1 hg hE k1
        have hw := cOpd_ok h2 hg hE k2
        have hbd := below_drew C.w
        have hrun : ∀ (v1 : Value) (w1 : World), (Builtin.append_ #[t, u] oo.type #[a.eval x, a.eval y]).run P C.w = .ok v1 w1 → (execOp a.eval oo).run P C.w = .ok (.value v1) w1 := by
          intro v1 w1 hr
          simp [execOp, hoo, resolve, invoke, builtin, hr]
        obtain ⟨news, n1, n2, n3⟩ := run_first (P := P) hO q1 hw k3 hy
        obtain ⟨news', n1', n2', n3'⟩ := run_first (P := P) (C := C.at C.w.drew) (ok_below hO hbd) q1 (VR_ext (ext_below hO hbd) hw) (ys := ys) k3 hy
        have hbk : Below C.w.drew.heap.size C.w.drew C.w := ⟨rfl, rfl, rfl, Nat.le_refl _, fun _ _ => rfl⟩
        have n4 : VRs C ys.flatten news'.toList := VRs_ext (ext_below (C := C.at C.w.drew) (ok_below hO hbd) hbk) n3'
        have hnl := VRs_length n3
        rw [flat_len hy] at hnl
        simp only [Array.length_toList] at hnl
        have hnl' := VRs_length n4
        rw [flat_len hy] at hnl'
        simp only [Array.length_toList] at hnl'
        split at h
        · -- nil
          have e1 := VR_plain hv
          split at h
          · rename_i hlim
            split at h
            · rename_i h0
              simp only [Option.some.injEq, Prod.mk.injEq] at h
              obtain ⟨rfl, rfl⟩ := h
              refine Does.stay hO (x := .slice none 0 0) (hrun _ _ ?_) (VR_v rfl)
              rw [e1]
              rw [h0] at n1 n2
              rcases hu2 with ⟨q, hq⟩ | hq
              · simp [Builtin.append_, run_underlying hu, run_underlying hq, run_sizeOf' hj, n1, n2]
              · simp [Builtin.append_, run_underlying hu, run_underlying hq, run_sizeOf' hj, n1, n2]
            · rename_i h0
              simp only [Option.some.injEq, Prod.mk.injEq] at h
              obtain ⟨rfl, rfl⟩ := h
              obtain ⟨nc, g1, g2⟩ := run_grow (ty := oo.type) (base := none) (ln := 0) (cap := 0) (old := #[]) hu hu2 hj hz q2 n1 (by simp [Builtin.firstCells]) n2' (by omega) (by simpa using hlim)
              rw [Nat.zero_add] at g1 g2
              have hbl : Below C.w.heap.size C.w (C.w.drew.alloc (.cells (#[] ++ news' ++ Builtin.zeroCells z.cells (nc - ys.length)) el)) := hbd.alloc (Nat.le_refl _) _
              refine does_row2 hO hy hbl (heap_push_at C.w.drew _) g2 ?_ ?_ (hrun _ _ (by rw [e1]; exact g1))
              · simp only [Array.size_append, List.size_toArray, List.length_nil, zeroCells_size, hzs, ← hnl']
                rw [Nat.zero_add, ← Nat.add_mul]
                exact Nat.mul_le_mul_right _ (by omega)
              · simp only [Array.toList_append, List.nil_append, hnl']
                rw [List.take_append_of_le_length (by simp), List.take_of_length_le (by simp)]
                simpa using n4
          · cases h
        · -- a row of the store
          rename_i id gen off ln
          split at h
          · rename_i k' g xs nw hst
            split at h
            · rename_i hqq
              obtain ⟨rfl, rfl, b1, b2, b3, b4⟩ := hqq
              simp only [Option.some.injEq, Prod.mk.injEq] at h
              obtain ⟨rfl, rfl⟩ := h
              obtain ⟨b, o, cap, t', n, ad, p1, ⟨p2, pa⟩, p3, p4, p5, p6⟩ := VR_own hv hst
              obtain ⟨bb, o', hB, ccs, t'', ⟨fr, f1, ff⟩, f2, f3, f4⟩ := hO.get hst
              rw [p1] at hB; injection hB with hB; injection hB with e1 e2; subst e1; subst e2
              have hn : n = ccs.size := by
                unfold World.shape? at p4; rw [f1] at p4; simp at p4; exact p4.2.symm
              subst hn
              have hold : ((xs.drop off).take ln).length = ln := by simp; omega
              have hxs' : ∀ c, c ∈ (xs.drop off).take ln → c.length = j.size := fun c hc => f2 c (List.mem_of_mem_drop (List.mem_of_mem_take hc))
              have hnew : ∀ c, c ∈ (xs.drop off).take ln ++ ys → c.length = j.size := fun c hc => by
                rcases List.mem_append.1 hc with hc | hc
                · exact hxs' c hc
                · exact hy c hc
              have hnl2 : ((xs.drop off).take ln ++ ys).length = ln + ys.length := by rw [List.length_append, hold]
              have hxk : (off + ln) * j.size ≤ xs.length * j.size := Nat.mul_le_mul_right _ b1
              have hseg : VRs C ((xs.drop off).take ln).flatten ((ccs.toList.drop (o + off * j.size)).take (ln * j.size)) := by
                rw [seg_flat f2]
                have := VRs_take (VRs_drop f4 (off * j.size)) (ln * j.size)
                rw [List.drop_take, List.drop_drop, List.take_take] at this
                rw [Nat.min_eq_left (by rw [Nat.add_mul] at hxk; omega)] at this
                exact this
              have hmul : (off + ln) * j.size = off * j.size + ln * j.size := Nat.add_mul ..
              by_cases hfit : ln + ys.length ≤ cap
              · have hcapk : (off + (ln + ys.length)) * j.size ≤ (off + cap) * j.size := Nat.mul_le_mul_right _ (by omega)
                have hm2 : (off + (ln + ys.length)) * j.size = off * j.size + ln * j.size + news.size := by rw [← hnl, Nat.add_mul, Nat.add_mul, Nat.add_assoc]
                obtain ⟨w', ccs', hs, u2, r2⟩ : ∃ w' ccs', (storeCells (ad.add (ln * j.size)) news.toList).run P C.w = .ok () w' ∧ Upd C.w w' b (.cells ccs' t'' fr) ∧ ccs'.toList = ccs.toList.take (o + off * j.size + ln * j.size) ++ news.toList ++ ccs.toList.drop (o + off * j.size + ln * j.size + news.toList.length) := by
                  by_cases h0 : 0 < cap
                  · obtain rfl := pa h0
                    obtain ⟨w', ccs', r1, u2, r2⟩ := run_storeCells P news.toList 0 C.w ccs t'' b (o + off * j.size + ln * j.size) (ff.imp (fun h => h) And.right) f1 (by simp; omega) (VRs_one n3)
                    exact ⟨w', ccs', by rw [add_plain]; exact r1, u2, r2⟩
                  · have hy0 : news.toList = [] := List.eq_nil_of_length_eq_zero (by rw [Array.length_toList, ← hnl, show ys.length = 0 by omega, Nat.zero_mul])
                    refine ⟨C.w, ccs, by rw [hy0]; simp [storeCells], ⟨rfl, rfl, rfl, rfl, fun _ _ => rfl, f1⟩, by rw [hy0]; simp⟩
                have hcs' : ccs'.size = ccs.size := by rw [← Array.length_toList, r2, put_len (by simp; omega)]; simp
                have T : Turn C w' id b o b (o + off * j.size) (.row j.size g xs nw) (.row j.size (g + 1) ((xs.drop off).take ln ++ ys) nw) := by
                  refine ⟨hst, p1, by simp [Ob.next], .inr (by simp [Ob.moved]), u2.os, u2.tape, u2.out, by rw [u2.size]; exact Nat.le_refl _, fun k _ hk => u2.other k hk, ?_, fun ad' c hb' hs' => ?_, fun off' hwr => .inl ⟨rfl, fun hnw => ?_⟩, .inl rfl⟩
                  · simp [World.shape?, f1, u2.at_, hcs']
                  · have hnw : ¬ (nw = true → o + xs.length * j.size ≤ ad'.off) := fun hh => hs'.2.1 ⟨id, o, _, by rw [hb']; exact p1, hst, hh⟩
                    have hnt : nw = true := by
                      cases nw with
                      | true => rfl
                      | false => exact absurd (fun hh => by cases hh) hnw
                    have hlt : ad'.off < o + off * j.size + ln * j.size := by
                      have h3 := b2 hnt
                      have : ¬ (o + xs.length * j.size ≤ ad'.off) := fun hh => hnw fun _ => hh
                      rw [← h3, hmul] at this
                      omega
                    have hc1 := hs'.1
                    unfold World.cell? at hc1 ⊢
                    rw [hb', f1] at hc1
                    rw [hb', u2.at_]
                    dsimp only at hc1 ⊢
                    split at hc1
                    · cases hc1
                    · rename_i hsp
                      rw [if_neg hsp]
                      rw [← Array.getElem?_toList, r2, put_get (by simp; omega), if_pos hlt, Array.getElem?_toList]
                      exact hc1
                  · have h3 := hwr hnw
                    rw [hnl2] at h3
                    rw [← b2 hnw, hmul]
                    have : ln * j.size ≤ (ln + ys.length) * j.size := Nat.mul_le_mul_right _ (by omega)
                    omega
                have hx' := ext_set hO T
                refine ⟨_, _, _, hrun _ w' (by rw [p2]; exact run_inplace hu hu2 hj n1 n2 hfit hs), .inl rfl, hx', ok_set hO T ⟨ccs', t'', ⟨fr, u2.at_, by rw [hcs']; exact ff⟩, hnew, ?_, ?_⟩, rfl, ?_⟩
                · rw [hnl2, hcs', Nat.add_mul]; omega
                · rw [hnl2, List.flatten_append]
                  have e3 : ((ccs'.toList.drop (o + off * j.size)).take ((ln + ys.length) * j.size)) = (ccs.toList.drop (o + off * j.size)).take (ln * j.size) ++ news.toList := by
                    have hln : ((ccs.toList.drop (o + off * j.size)).take (ln * j.size)).length = ln * j.size := by simp; omega
                    have hnl3 : (ln + ys.length) * j.size = ln * j.size + news.toList.length := by rw [Nat.add_mul, hnl]; simp
                    apply List.ext_getElem?
                    intro q
                    rw [List.getElem?_take, List.getElem?_drop, r2, put_get (by simp; omega), List.getElem?_append, hln, hnl3]
                    by_cases hq1 : q < ln * j.size
                    · rw [if_pos (by omega), if_pos (by omega), if_pos hq1, List.getElem?_take, if_pos hq1, List.getElem?_drop]
                    · by_cases hq2 : q < ln * j.size + news.toList.length
                      · rw [if_pos hq2, if_neg (by omega), if_pos (by omega), if_neg hq1]; congr 1; omega
                      · rw [if_neg hq2, if_neg hq1, List.getElem?_eq_none (by omega)]
                  rw [e3]
                  exact VRs_append (VRs_ext hx' hseg) (VRs_ext hx' n3)
                · simp only [VR]
                  have hi := (List.getElem?_eq_some_iff.1 hst).1
                  refine ⟨rfl, j.size, g + 1, (xs.drop off).take ln ++ ys, nw, by simp [Ctx.set, hi], Nat.le_refl _, fun _ => ⟨b, o + off * j.size, cap, t', ccs.size, ad, ?_, ⟨rfl, fun h0 => by rw [pa h0]; simp⟩, hfit, ?_, ?_, by rw [hnl2]; omega⟩⟩
                  · have hi' : id < C.B.length := by rw [hO.len]; exact hi
                    simp [Ctx.set, hi']
                  · exact (hx'.shape b (heap_lt f1)).trans p4
                  · rw [Nat.zero_add]; rw [Nat.add_mul] at p5; omega
              · have hB : VR (C.at C.w.drew) (.own id g off ln) (.slice (some ad) ln cap) := by rw [← p2]; exact VR_ext (ext_below hO hbd) hv
                obtain ⟨old, m1, m2, m3⟩ := run_first (P := P) (C := C.at C.w.drew) (ok_below hO hbd) q1 hB (ys := (xs.drop off).take ln) (by simp [elems, Ctx.at, hst]) hxs'
                rw [hold] at m2
                have m4 : VRs C ((xs.drop off).take ln).flatten old.toList := VRs_ext (ext_below (C := C.at C.w.drew) (ok_below hO hbd) hbk) m3
                have hol := VRs_length m4
                rw [flat_len hxs', hold] at hol
                simp only [Array.length_toList] at hol
                obtain ⟨nc, g1, g2⟩ := run_grow (ty := oo.type) hu hu2 hj hz q2 n1 m2 n2' (by omega) b3
                have hbl : Below C.w.heap.size C.w (C.w.drew.alloc (.cells (old ++ news' ++ Builtin.zeroCells z.cells (nc - (ln + ys.length))) el)) := hbd.alloc (Nat.le_refl _) _
                have hlt := heap_lt f1
                have T : Turn C (C.w.drew.alloc (.cells (old ++ news' ++ Builtin.zeroCells z.cells (nc - (ln + ys.length))) el)) id b o C.w.heap.size 0 (.row j.size g xs nw) (.row j.size (g + 1) ((xs.drop off).take ln ++ ys) nw) :=
                  ⟨hst, p1, by simp [Ob.next], .inr (by simp [Ob.moved]), hbl.os, hbl.tape, hbl.output, hbl.size, fun k hk _ => hbl.block k hk, shape_of_heap (hbl.block b hlt), fun ad' c hb' hs' => (cell_of_heap (hbl.block _ (Ctx.stable_lt hs'))).trans hs'.1, fun _ _ => .inr (Nat.le_refl _), .inr (Nat.le_refl _)⟩
                have hx' := ext_set hO T
                have hcs : (old ++ news' ++ Builtin.zeroCells z.cells (nc - (ln + ys.length))).size = nc * j.size := by
                  simp only [Array.size_append, zeroCells_size, hzs, ← hnl', ← hol]
                  rw [← Nat.add_mul, ← Nat.add_mul]
                  congr 1; omega
                refine ⟨_, _, _, hrun _ _ (by rw [p2]; exact g1), .inl rfl, hx', ok_set hO T ⟨_, el, ⟨_, heap_push_at C.w.drew _, .inl rfl⟩, hnew, ?_, ?_⟩, rfl, ?_⟩
                · rw [hnl2, hcs, Nat.zero_add]; exact Nat.mul_le_mul_right _ g2
                · rw [hnl2, List.flatten_append, List.drop_zero]
                  have e3 : (old ++ news' ++ Builtin.zeroCells z.cells (nc - (ln + ys.length))).toList.take ((ln + ys.length) * j.size) = old.toList ++ news'.toList := by
                    rw [Array.toList_append, Array.toList_append, List.take_append_of_le_length (by simp; rw [← hol, ← hnl', Nat.add_mul]; exact Nat.le_refl _), List.take_of_length_le (by simp; rw [← hol, ← hnl', Nat.add_mul]; exact Nat.le_refl _)]
                  rw [e3]
                  exact VRs_append (VRs_ext hx' m4) (VRs_ext hx' n4)
                · simp only [VR]
                  have hi := (List.getElem?_eq_some_iff.1 hst).1
                  refine ⟨rfl, j.size, g + 1, (xs.drop off).take ln ++ ys, nw, by simp [Ctx.set, hi], Nat.le_refl _, fun _ => ⟨C.w.heap.size, 0, nc, el, nc * j.size, ⟨C.w.heap.size, 0, none⟩, ?_, ⟨rfl, fun h0 => by simp⟩, g2, ?_, by simp, by rw [hnl2]; omega⟩⟩
                  · have hi' : id < C.B.length := by rw [hO.len]; exact hi
                    simp [Ctx.set, hi']
                  · show World.shape? (C.w.drew.alloc _) C.w.heap.size = _
                    unfold World.shape?
                    rw [show C.w.heap.size = C.w.drew.heap.size from rfl, heap_push_at]
                    simp only [hcs]
            · cases h
          · cases h
        · cases h
      · cases h
    · cases h
  · cases h
end
end Go.Proofs.YtoobogpbejdocaaDoor.Ev
set_option linter.unusedVariables false
set_option linter.unusedSimpArgs false
namespace Go.Proofs.YtoobogpbejdocaaDoor.Ev
open Go.RowKit
section
variable {P : Program} {G : Nat → Option (List AV)} {bases : List Nat} {C : Ctx} {e : Env} {a : Act}
theorem ps_rng {t : TypeId} {x : Operand} {p : Prim} (hu : P.underlying t = some .string) (hc : ((cOpd x).bind fun x => some (Prim.rng x)) = some p) : PS P G bases (.range t x) p := by
  intro C e a oo r st' hoo hO hg hE h
  simp only [Option.bind_eq_some_iff, Option.some.injEq] at hc
  obtain ⟨y, h1, rfl⟩ := hc
  simp only [Prim.ev] at h
  split at h
  · rename_i s k1
    simp only [Option.some.injEq, Prod.mk.injEq] at h
    obtain ⟨rfl, rfl⟩ := h
    have e1 := VR_plain (cOpd_ok h1 hg hE k1)
    have hbl := below_alloc C.w (.stringIter s 0)
    refine ⟨C.push (C.w.alloc (.stringIter s 0)) C.w.heap.size 0 (.sit s 0), _, .pointer (some ⟨C.w.heap.size, 0, none⟩), ?_, .inl rfl, ext_push hO hbl _ (Nat.le_refl _), ok_push hO hbl (Nat.le_refl _) (heap_push_at C.w _), rfl, ?_⟩
    · simp [execOp, hoo, e1, Instr.range, run_underlying hu]
      rfl
    · simp only [VR]
      exact ⟨s, 0, C.w.heap.size, 0, push_st, push_B hO, rfl⟩
  · cases h
theorem ps_nxt {x : Operand} {p : Prim} (hc : ((cOpd x).bind fun x => some (Prim.nxt x)) = some p) : PS P G bases (.next x true) p := by
  intro C e a oo r st' hoo hO hg hE h
  simp only [Option.bind_eq_some_iff, Option.some.injEq] at hc
  obtain ⟨y, h1, rfl⟩ := hc
  simp only [Prim.ev] at h
  split at h
  · rename_i id k1
    have hv := cOpd_ok h1 hg hE k1
    simp only [VR] at hv
    obtain ⟨s0, p0, b, o, v1, v2, e1⟩ := hv
    split at h
    · rename_i s pos hst
      obtain ⟨b', o', hB, f⟩ := hO.get hst
      rw [v2] at hB; injection hB with hB; injection hB with q1 q2; subst q1; subst q2
      have f' : C.w.heap[b]? = some (.stringIter s pos) := f
      split at h
      · rename_i hlt
        simp only [Option.some.injEq, Prod.mk.injEq] at h
        obtain ⟨rfl, rfl⟩ := h
        have hbl := heap_lt f'
        have hat : ({ C.w with heap := C.w.heap.setIfInBounds b (.stringIter s (pos + (Utf8.decode s pos).2)) } : World).heap[b]? = some (.stringIter s (pos + (Utf8.decode s pos).2)) := by
          simp [Array.getElem?_setIfInBounds, hbl]
        have hot : ∀ k, k ≠ b → ({ C.w with heap := C.w.heap.setIfInBounds b (.stringIter s (pos + (Utf8.decode s pos).2)) } : World).heap[k]? = C.w.heap[k]? := by
          intro k hk
          simp only [Array.getElem?_setIfInBounds]
          rw [if_neg (by omega)]
        have T : Turn C { C.w with heap := C.w.heap.setIfInBounds b (.stringIter s (pos + (Utf8.decode s pos).2)) } id b o b o (.sit s pos) (.sit s (pos + (Utf8.decode s pos).2)) := by
          refine ⟨hst, v2, by simp [Ob.next], .inl ⟨by simp [Ob.still], rfl, rfl⟩, rfl, rfl, rfl, by simp, fun k _ hk => hot k hk, ?_, fun ad c hb hs => ?_, fun _ _ => .inl ⟨rfl, trivial⟩, .inl rfl⟩
          · unfold World.shape?
            rw [hat, f']
          · have := hs.1
            unfold World.cell? at this
            rw [hb, f'] at this
            cases this
        refine ⟨_, _, .tuple #[.bool true, goInt pos, .int .i32 (Utf8.decode s pos).1], ?_, .inl rfl, ext_set hO T, ok_set hO T hat, rfl, ?_⟩
        · simp only [execOp, hoo, e1, Instr.next, Sem.run_bind]
          simp only [getObj, setObj, Sem.run, f', hlt, if_true, Result.andThen_ok, Sem.run_bind, Sem.run_pure]
          rfl
        · simp only [VR]
          refine ⟨_, rfl, ?_⟩
          simp [VRt, VR, goInt, Value.oneCell']
      · rename_i hlt
        simp only [Option.some.injEq, Prod.mk.injEq] at h
        obtain ⟨rfl, rfl⟩ := h
        refine Does.stay hO (x := .tuple #[.bool false]) ?_ (by simp [VR, VRt, Value.oneCell'])
        simp only [execOp, hoo, e1, Instr.next, Sem.run_bind]
        simp only [getObj, setObj, Sem.run, f', hlt, if_false, Result.andThen_ok, Sem.run_bind, Sem.run_pure]
    · cases h
  · cases h
theorem bytes_flat (s : ByteArray) : VRs C (s.data.toList.map fun b => [AV.v (.int .u8 (b.toNat : Int))]).flatten (s.data.map fun b => (.int .u8 b.toNat : Value)).toList := by
  rw [show (List.map (fun b : UInt8 => [AV.v (.int .u8 (b.toNat : Int))]) s.data.toList).flatten = s.data.toList.map fun b => AV.v (.int .u8 (b.toNat : Int)) from by
      induction s.data.toList <;> simp_all]
  apply VRs_mk
  · simp
  · intro i q c h1 h2
    simp only [List.getElem?_map, Array.toList_map] at h1 h2
    cases hq : s.data.toList[i]? with
    | none => rw [hq] at h1; cases h1
    | some u =>
      rw [hq] at h1 h2
      simp at h1 h2
      subst h1; subst h2
      exact ⟨VR_v rfl, rfl⟩
theorem ps_s2b {s d el : TypeId} {x : Operand} {p : Prim} (hs : P.underlying s = some .string) (hd : P.underlying d = some (.slice el)) (he : P.underlying el = some (.int .u8)) (hc : ((cOpd x).bind fun x => some (Prim.s2b x)) = some p) : PS P G bases (.convert s d x) p := by
  intro C e a oo r st' hoo hO hg hE h
  simp only [Option.bind_eq_some_iff, Option.some.injEq] at hc
  obtain ⟨y, h1, rfl⟩ := hc
  simp only [Prim.ev] at h
  split at h
  · rename_i str k1
    simp only [Option.some.injEq, Prod.mk.injEq] at h
    obtain ⟨rfl, rfl⟩ := h
    have e1 := VR_plain (cOpd_ok h1 hg hE k1)
    let cap := str.size + C.w.tape C.w.drawn (.appendCap str.size 0 el) % (2 ^ 63 - str.size)
    let ccs : Array Value := (str.data.map fun b => (.int .u8 b.toNat : Value)) ++ Array.replicate (cap - str.size) (.int .u8 0)
    let w1 : World := (C.w.drew.alloc (.cells ccs el)).freeze ⟨C.w.heap.size, ccs.size, none⟩ 1
    have hh : ∃ fr, w1.heap[C.w.heap.size]? = some (.cells ccs el fr) := by
      have := heap_push_at C.w.drew (.cells ccs el)
      refine ⟨(ccs.size, ccs.size + 1), ?_⟩
      simp only [w1, World.freeze]
      rw [if_neg (by omega)]
      simp only [Array.getElem?_modify, if_true]
      rw [show C.w.heap.size = C.w.drew.heap.size from rfl, this]
      rfl
    obtain ⟨fr, hh⟩ := hh
    have hbl : Below C.w.heap.size C.w w1 := by
      have h2 : Below C.w.heap.size C.w (C.w.drew.alloc (.cells ccs el)) := (below_drew C.w).alloc (Nat.le_refl _) _
      refine h2.trans ⟨rfl, rfl, rfl, by simp [w1, World.freeze], fun k hk => ?_⟩
      simp only [w1, World.freeze]
      rw [if_neg (by omega)]
      simp only [Array.getElem?_modify]
      rw [if_neg (by omega)]
    have hrun : (execOp a.eval oo).run P C.w = .ok (.value (.slice (some ⟨C.w.heap.size, 0, none⟩) str.size cap)) w1 := by
      simp only [execOp, hoo, e1, convert, Sem.run_bind, run_underlying hs, run_underlying hd, run_underlying he, Result.andThen_ok, Conv.stringToBytes, run_choose, Question.forced, Bool.false_eq_true, if_false, Question.cut, newRow, run_newObj, Sem.run_pure, markStringish, run_shape]
      have hsh : World.shape? (C.w.drew.alloc (.cells ccs el)) C.w.heap.size = some (el, ccs.size) := by
        unfold World.shape?
        rw [show C.w.heap.size = C.w.drew.heap.size from rfl, heap_push_at]
      have : ({ C.w with drawn := C.w.drawn + 1, heap := C.w.heap.push (.cells ccs el) } : World).shape? C.w.heap.size = some (el, ccs.size) := hsh
      simp only [ccs, cap] at this
      rw [this]
      rfl
    have hx1 : ∀ c, c ∈ str.data.toList.map (fun b => [AV.v (.int .u8 (b.toNat : Int))]) → c.length = 1 := by
      intro c hc; obtain ⟨b, _, rfl⟩ := List.mem_map.1 hc; rfl
    have hvs : VRs C (str.data.toList.map (fun b => [AV.v (.int .u8 (b.toNat : Int))])).flatten (ccs.toList.take ((str.data.toList.map (fun b => [AV.v (.int .u8 (b.toNat : Int))])).length * 1)) := by
      have h3 := bytes_flat (C := C) str
      have h4 : ccs.toList.take ((str.data.toList.map (fun b => [AV.v (.int .u8 (b.toNat : Int))])).length * 1) = (str.data.map fun b => (.int .u8 b.toNat : Value)).toList := by
        simp only [ccs, Array.toList_append, List.length_map, Nat.mul_one]
        rw [List.take_append_of_le_length (by simp), List.take_of_length_le (by simp)]
      rw [h4]; exact h3
    have := VR_sl_new hO hbl hx1 hh (cap := cap) (by simp [cap]) hvs
    refine ⟨C.at w1, _, _, hrun, .inl rfl, ext_below hO hbl, ok_below hO hbl, rfl, ?_⟩
    have hl : (str.data.toList.map (fun b => [AV.v (.int .u8 (b.toNat : Int))])).length = str.size := by simp
    rw [hl] at this
    exact this
  · cases h
theorem vals_cells : ∀ {rs : List AV} {cs : List Value} {vs : List Value}, VRs C rs cs → vals rs = some vs → cs = vs :=
  fun h k => vals_ok (VRt_of_VRs h) k
theorem run_bytes (w : World) (f : Value → ByteArray → Sem (ForInStep ByteArray)) (hf : ∀ n r, f (.int .u8 n) r = pure (ForInStep.yield (r.push (UInt8.ofNat n.toNat)))) : ∀ (vs : List Value) (s : ByteArray), vs.all (fun | .int .u8 _ => true | _ => false) = true →
    (forIn (m := Sem) vs s f).run P w = .ok ⟨s.data ++ (vs.map fun | .int _ n => UInt8.ofNat n.toNat | _ => 0).toArray⟩ w
  | [], s, _ => by simp
  | v :: vs, s, h => by
    simp only [List.all_cons, Bool.and_eq_true] at h
    obtain ⟨h1, h2⟩ := h
    split at h1
    · rename_i n
      simp only [List.forIn_cons, hf, Sem.run_bind, Sem.run_pure, Result.andThen_ok]
      rw [run_bytes w f hf vs _ h2]
      congr 2
      simp [ByteArray.push]
    · cases h1
theorem ps_b2s {s d el : TypeId} {x : Operand} {p : Prim} (hs : P.underlying s = some (.slice el)) (hd : P.underlying d = some .string) (he : P.underlying el = some (.int .u8)) (hc : ((cOpd x).bind fun x => some (Prim.b2s x)) = some p) : PS P G bases (.convert s d x) p := by
  intro C e a oo r st' hoo hO hg hE h
  simp only [Option.bind_eq_some_iff, Option.some.injEq] at hc
  obtain ⟨y, h1, rfl⟩ := hc
  simp only [Prim.ev] at h
  split at h
  · cases h
  · rename_i av hns k1
    split at h
    · rename_i xs k2
      split at h
      · rename_i vs k3
        split at h
        · rename_i hq
          obtain ⟨q1, q2⟩ := hq
          simp only [Option.some.injEq, Prod.mk.injEq] at h
          obtain ⟨rfl, rfl⟩ := h
          have hv := cOpd_ok h1 hg hE k1
          have hlf : xs.flatten.length = xs.length := by
            have : ∀ (l : List AV) (ws : List Value), vals l = some ws → l.length = ws.length := by
              intro l
              induction l with
              | nil => intro ws hw; simp only [vals, Option.some.injEq] at hw; subst hw; rfl
              | cons z l ih =>
                intro ws hw
                cases z <;> simp only [vals, reduceCtorEq] at hw
                split at hw
                · rename_i l' hl'; simp only [Option.some.injEq] at hw; subst hw; simp [ih _ hl']
                · cases hw
            rw [this _ _ k3, q1]
          have key : ∃ ao cap, a.eval x = .slice ao xs.length cap ∧ (ao = none → xs = []) ∧ ∀ ad, ao = some ad → ∃ news : Array Value, (loadCells ad xs.length).run P C.w = .ok news C.w ∧ VRs C xs.flatten news.toList := by
            have one : ∀ k : Nat, (∀ c, c ∈ xs → c.length = k) → xs ≠ [] → k = 1 := by
              intro k hk hne
              have := flat_len hk
              rw [hlf] at this
              have hp : 0 < xs.length := List.length_pos_iff.2 hne
              have h5 : xs.length * 1 = xs.length * k := by omega
              exact (Nat.eq_of_mul_eq_mul_left hp h5).symm
            unfold elems at k2
            split at k2
            · rename_i k ys
              simp only [Option.some.injEq] at k2; subst k2
              simp only [VR] at hv
              obtain ⟨ao, cap, e1, hle, f⟩ := hv
              refine ⟨ao, cap, e1, fun h0 => ?_, fun ad h0 => ?_⟩
              · subst h0
                cases ys with
                | nil => rfl
                | cons c cs => obtain ⟨_, ad, h1, _⟩ := VRrow_get f 0 c rfl; cases h1
              · subst h0
                by_cases hne : ys = []
                · subst hne; exact ⟨#[], by simp [loadCells, loadCellsFrom], by simp [VRs]⟩
                · have hk : ∀ c, c ∈ ys → c.length = k := fun c hc => by
                    obtain ⟨i, hi⟩ := List.getElem?_of_mem hc
                    exact (VRrow_get f i c hi).1
                  have hk1 := one k hk hne
                  subst hk1
                  obtain ⟨news, m1, m2⟩ := run_flat (P := P) (by omega) hk (ad := ad) (fun i c hi j q hj => by
                    obtain ⟨h1, ad', h2, hs, h3⟩ := VRrow_get f i c hi
                    cases h2
                    obtain ⟨v, n1, n2⟩ := VRat_get h3 j q hj
                    rw [Nat.zero_add] at n1
                    exact ⟨v, n1.1, n2⟩)
                  exact ⟨news, by simpa using m1, m2⟩
            · rename_i id gen off ln
              split at k2
              · rename_i k g ys nw hst
                split at k2
                · rename_i hg'
                  subst hg'
                  simp only [Option.some.injEq] at k2; subst k2
                  obtain ⟨b, o, cap, t, n, ad, p1, ⟨p2, pa⟩, p3, p4, p5, p6⟩ := VR_own hv hst
                  have hl : ((ys.drop off).take ln).length = ln := by simp; omega
                  refine ⟨some ad, cap, by rw [hl]; exact p2, (fun h0 => by cases h0), fun ad' h0 => ?_⟩
                  cases h0
                  by_cases hne : (ys.drop off).take ln = []
                  · rw [hne]; exact ⟨#[], by simp [loadCells, loadCellsFrom], by simp [VRs]⟩
                  · have hR := hO.obs id _ b o hst p1
                    obtain ⟨ccs, t', _, hx, _⟩ := hR
                    have hk : ∀ c, c ∈ (ys.drop off).take ln → c.length = k := fun c hc => hx c (List.mem_of_mem_drop (List.mem_of_mem_take hc))
                    have hk1 := one k hk hne
                    subst hk1
                    have h0 : 0 < ln := by
                      rcases Nat.eq_zero_or_pos ln with h0 | h0
                      · subst h0; exact absurd (by simp) hne
                      · exact h0
                    obtain rfl := pa (by omega)
                    obtain ⟨news, m1, m2⟩ := run_flat (P := P) (by omega) hk (ad := ⟨b, o + off * 1, none⟩) (fun i c hi j q hj => by
                      rw [List.getElem?_take] at hi
                      split at hi
                      · rw [List.getElem?_drop] at hi
                        obtain ⟨v, n1, n2⟩ := row_cell (hO.obs id _ b o hst p1) hi hj
                        rw [add_plain]
                        refine ⟨v, ?_, n2⟩
                        rw [show o + off * 1 + (i * 1 + j) = o + (off + i) * 1 + j by omega]
                        exact n1
                      · cases hi)
                    exact ⟨news, by simpa using m1, m2⟩
                · cases k2
              · cases k2
            · simp only [Option.some.injEq] at k2; subst k2
              exact ⟨none, 0, VR_plain hv, fun _ => rfl, (fun ad h0 => by cases h0)⟩
            · exact absurd rfl (hns _)
            · cases k2
          obtain ⟨ao, cap, e1, f1, f2⟩ := key
          have hcv : (Conv.bytesToString (a.eval x)).run P C.w = .ok (.string ⟨(vs.map fun | .int _ n => UInt8.ofNat n.toNat | _ => 0).toArray⟩) C.w := by
            rw [e1]
            cases ao with
            | none =>
              have h0 := f1 rfl
              subst h0
              simp [vals] at k3
              subst k3
              simp [Conv.bytesToString]
              rfl
            | some ad =>
              obtain ⟨news, m1, m2⟩ := f2 ad rfl
              have h6 := vals_cells m2 k3
              simp only [Conv.bytesToString, Sem.run_bind, m1, Result.andThen_ok]
              rw [← Array.forIn_toList, h6]
              rw [run_bytes C.w _ (fun n r => rfl) vs ByteArray.empty q2]
              simp
          refine Does.stay hO (x := .string _) ?_ (VR_v rfl)
          simp only [execOp, hoo, convert, Sem.run_bind, run_underlying hs, run_underlying hd, run_underlying he, Result.andThen_ok]
          rw [e1]
          rw [e1] at hcv
          simp only [run_underlying he, Result.andThen_ok, Sem.run_bind]
          rw [hcv]
          rfl
        · cases h
      · cases h
    · cases h
  · cases h
theorem ps_mk {t el : TypeId} {j : TypeInfo} {z : List AV} {l c : Operand} {own : Bool} {p : Prim} (hu : P.underlying t = some (.slice el)) (hj : P.info? el = some j) (hz : zeroC P el = some z) (hq : 0 < j.size ∧ 0 < j.bytes ∧ z.length = j.size)
    (hx : ∃ l', cOpd l = some l' ∧ ∃ c', cOpd c = some c' ∧ p = .mk own j.size j.bytes z l' c') : PS P G bases (.makeSlice t l c) p := by
  intro C e a oo r st' hoo hO hg hE h
  obtain ⟨q1, q0, q2⟩ := hq
  obtain ⟨l', h1, c', h2, rfl⟩ := hx
  obtain ⟨x, hx, rfl, hok⟩ := zero_run hz
  simp only [Prim.ev] at h
  split at h
  · rename_i n k1
    split at h
    · rename_i m k2
      split at h
      · rename_i hb
        obtain ⟨b1, b2, b3, b4⟩ := hb
        have e1 := VR_plain (cOpd_ok h1 hg hE k1)
        have e2 := VR_plain (cOpd_ok h2 hg hE k2)
        have hv := VR_cells (C := C) (VR_ofVal hok) (ofVal_tuple hok)
        have hvl := VRs_length hv
        simp only [Array.length_toList] at hvl
        obtain ⟨N, rfl⟩ := Int.eq_ofNat_of_zero_le b1
        obtain ⟨M, rfl⟩ := Int.eq_ofNat_of_zero_le (show 0 ≤ m by omega)
        have hMb : M * j.bytes ≤ 140737488355328 := by
          have h3 : ((M * j.bytes : Nat) : Int) ≤ 140737488355328 := by rw [Int.natCast_mul]; exact b3
          omega
        have hM : M ≤ 140737488355328 := Nat.le_trans (Nat.le_mul_of_pos_right _ q0) hMb
        have hNM : N ≤ M := by omega
        have w1 : IntKind.i64.wrap (N : Int) = N := by simp [IntKind.wrap, IntKind.bits, IntKind.signed]; omega
        have w2 : IntKind.i64.wrap (M : Int) = M := by simp [IntKind.wrap, IntKind.bits, IntKind.signed]; omega
        have hzr : (zeroValue el).run P C.w = .ok x C.w := hx C.w
        have hrun : ∃ ccs : Array Value, ccs.size = M * j.size ∧ (∀ i, i < M * j.size → ccs[i]? = x.cells[i % j.size]?) ∧ (execOp a.eval oo).run P C.w = .ok (.value (.slice (some ⟨C.w.heap.size, 0, none⟩) N M)) (C.w.alloc (.cells ccs el)) := by
          have ht : (decide ((M : Int) < 0) || decide ((j.bytes : Int) * (M : Int) > 2 ^ 48)) = false := by
            have h3 : ((j.bytes * M : Nat) : Int) ≤ 140737488355328 := by rw [Nat.mul_comm]; omega
            rw [Int.natCast_mul] at h3
            simp
            omega
          have hcond : ((decide ((M : Int) < 0) || decide ((j.bytes : Int) * (M : Int) > 2 ^ 48)) || decide ((N : Int) < 0) || decide ((N : Int) > (M : Int))) = false := by
            rw [ht]; simp; omega
          by_cases h0 : M * j.size = 0
          · refine ⟨(Array.range (M * j.size)).map (#[][· % (#[] : Array Value).size]!), by simp, fun i hi => by omega, ?_⟩
            simp only [execOp, hoo, e1, e2, Instr.makeSlice, Sem.run_bind, run_underlying hu, Result.andThen_ok, asInt, asIntOf, Sem.run_pure, run_typeInfo C.w hj, w1, w2, run_sizeOf' hj]
            rw [if_neg (by rw [hcond]; decide)]
            simp only [Sem.run_bind, run_askRoom, Result.andThen_ok, run_sizeOf' hj, Int.toNat_natCast]
            rw [if_pos h0]
            simp only [Sem.run_bind, Sem.run_pure, Result.andThen_ok, newRow, run_newObj]
            rfl
          · refine ⟨(Array.range (M * j.size)).map (x.cells[· % x.cells.size]!), by simp, fun i hi => ?_, ?_⟩
            · have h4 : i % j.size < x.cells.size := by rw [← hvl, q2]; exact Nat.mod_lt _ q1
              simp only [Array.getElem?_map, Array.getElem?_range, hi, if_true, Option.map_some]
              rw [show x.cells.size = j.size by omega]
              rw [Array.getElem?_eq_getElem h4, getElem!_pos x.cells _ h4]
            · simp only [execOp, hoo, e1, e2, Instr.makeSlice, Sem.run_bind, run_underlying hu, Result.andThen_ok, asInt, asIntOf, Sem.run_pure, run_typeInfo C.w hj, w1, w2, run_sizeOf' hj]
              rw [if_neg (by rw [hcond]; decide)]
              simp only [Sem.run_bind, run_askRoom, Result.andThen_ok, run_sizeOf' hj, Int.toNat_natCast]
              rw [if_neg h0]
              simp only [Sem.run_bind, Sem.run_pure, Result.andThen_ok, newRow, run_newObj, hzr]
              rfl
        obtain ⟨ccs, m1, m2, m3⟩ := hrun
        have hxs : ∀ c, c ∈ List.replicate N (ofVal x).cells → c.length = j.size := fun c hc => by rw [(List.mem_replicate.1 hc).2, q2]
        have hNMk : N * j.size ≤ M * j.size := Nat.mul_le_mul_right _ hNM
        have hvs : VRs C (List.replicate N (ofVal x).cells).flatten (ccs.toList.take ((List.replicate N (ofVal x).cells).length * j.size)) := by
          rw [List.length_replicate]
          apply VRs_mk
          · rw [flat_len hxs, List.length_replicate, List.length_take, Array.length_toList, m1]; omega
          · intro i q c g1 g2
            obtain ⟨ch, g3, g4⟩ := flat_div q1 hxs g1
            rw [List.getElem?_take] at g2
            split at g2
            · rename_i hi
              rw [Array.getElem?_toList, m2 i (by omega)] at g2
              have g5 : ch = (ofVal x).cells := (List.mem_replicate.1 (List.mem_of_getElem? g3)).2
              subst g5
              obtain ⟨c', g6, g7⟩ := VRs_get hv _ _ g4
              rw [Array.getElem?_toList, g2] at g6
              cases g6
              exact g7
            · cases g2
        split at h
        · simp only [Option.some.injEq, Prod.mk.injEq] at h
          obtain ⟨rfl, rfl⟩ := h
          have := does_row hO hxs (cap := M) (t := el) (a := a) (P := P) (oo := oo) (by simpa using hNM) (by omega) hvs (by rw [List.length_replicate]; exact m3)
          rw [List.length_replicate] at this
          simpa using this
        · simp only [Option.some.injEq, Prod.mk.injEq] at h
          obtain ⟨rfl, rfl⟩ := h
          have := does_sl hO hxs (cap := M) (t := el) (a := a) (P := P) (oo := oo) (by simpa using hNM) hvs (by rw [List.length_replicate]; exact m3)
          simpa using this
      · cases h
    · cases h
  · cases h
theorem cBuild_ok {t : TypeId} {parts : Array (Nat × Operand)} {p : Prim} (hc : cBuild P t parts = some p) : PS P G bases (.build t parts) p := by
  simp only [cBuild, Option.bind_eq_some_iff] at hc
  obtain ⟨z, hz, hc⟩ := hc
  split at hc
  · rename_i fs hu
    split at hc
    · rename_i hf
      simp only [Option.bind_eq_some_iff, Option.some.injEq] at hc
      obtain ⟨l, hl, rfl⟩ := hc
      exact ps_build hz hu hf hl
    · cases hc
  · rename_i n e hu
    simp only [Option.bind_eq_some_iff, Option.some.injEq] at hc
    obtain ⟨j, hj, l, hl, rfl⟩ := hc
    exact ps_buildA hz hu hj hl
  · cases hc
theorem cBuildSlice_ok {t : TypeId} {len : Nat} {parts : Array (Nat × Operand)} {h p : Prim} (hc : cBuildSlice P t len parts h = some p) : PS P G bases (.buildSlice t len parts) p := by
  unfold cBuildSlice at hc
  split at hc
  · rename_i e hu
    simp only [Option.bind_eq_some_iff] at hc
    obtain ⟨i, hi, l, hl, hc⟩ := hc
    split at hc
    · rename_i hq
      split at hc
      · cases hc
        exact ps_bsl hu hi hl hq
      · cases hc
    · cases hc
  · cases hc
theorem cBin_ok {op : BinOp} {t yt : TypeId} {x y : Operand} {p : Prim} (hc : cBin P op t x y = some p) : PS P G bases (.binOp op t x y yt) p := by
  unfold cBin at hc
  split at hc
  · exact ps_bin hc
  · exact ps_bin hc
  · rename_i hu
    exact ps_binb hu hc
  · rename_i fs hu
    split at hc
    · rename_i hq
      simp only [Option.bind_eq_some_iff] at hc
      obtain ⟨ks, hk, hc⟩ := hc
      unfold cAeq at hc
      split at hc
      · exact ps_aeq hu (by rfl) hk hq hc
      · exact ps_aeq hu (by rfl) hk hq hc
      · cases hc
    · cases hc
  · rename_i e hu
    unfold cNil at hc
    split at hc
    · split at hc
      · exact ps_isnil hu (by rfl) hc
      · exact ps_isnil hu (by rfl) hc
      · cases hc
    · cases hc
  · rename_i e hu
    unfold cNils at hc
    split at hc
    · split at hc
      · exact ps_isnils hu (by rfl) hc
      · exact ps_isnils hu (by rfl) hc
      · cases hc
    · cases hc
  · rename_i k e hu
    unfold cNilM at hc
    split at hc
    · split at hc
      · exact ps_isnilm hu (by rfl) hc
      · exact ps_isnilm hu (by rfl) hc
      · cases hc
    · cases hc
  · rename_i ms hu
    unfold cNilI at hc
    split at hc
    · split at hc
      · exact ps_isnilI hu (by rfl) hc
      · exact ps_isnilI hu (by rfl) hc
      · cases hc
    · cases hc
  · rename_i n e hu
    split at hc
    · rename_i hq
      simp only [arrKs, Option.bind_eq_some_iff] at hc
      obtain ⟨ks', ⟨i, hi, ks, hk, hs⟩, hc⟩ := hc
      split at hs
      · rename_i hz
        simp only [Option.some.injEq] at hs; subst hs
        unfold cAeq at hc
        split at hc
        · exact ps_aeqa hu hi hz (by rfl) hk hq hc
        · exact ps_aeqa hu hi hz (by rfl) hk hq hc
        · cases hc
      · cases hs
    · cases hc
  · cases hc
theorem isU8_ok {e : TypeId} (h : isU8 P e = true) : P.underlying e = some (.int .u8) := by
  unfold isU8 at h
  split at h
  · assumption
  · cases h
theorem cConv_ok {s d : TypeId} {x : Operand} {p : Prim} (hc : cConv P s d x = some p) : PS P G bases (.convert s d x) p := by
  unfold cConv at hc
  split at hc
  · rename_i k hs
    split at hc
    · rename_i k' hd
      exact ps_i2i hs hd hc
    · rename_i hd
      exact ps_i2t hs hd hc
    · cases hc
  · rename_i hs
    split at hc
    · rename_i hd
      exact ps_s2s hs hd hc
    · rename_i e hd
      split at hc
      · rename_i he
        exact ps_s2b hs hd (isU8_ok he) hc
      · cases hc
    · cases hc
  · rename_i e hs
    split at hc
    · rename_i hd
      split at hc
      · rename_i he
        exact ps_b2s hs hd (isU8_ok he) hc
      · cases hc
    · rename_i e' hd
      split at hc
      · rename_i he
        obtain ⟨rfl, he⟩ := he
        exact ps_cvs hd (isU8_ok he) hc
      · cases hc
    · cases hc
  · cases hc
theorem cField_ok {t : TypeId} {x : Operand} {i : Nat} {p : Prim} (hc : cField P t x i = some p) : PS P G bases (.field t x i) p := by
  unfold cField at hc
  split at hc
  · rename_i fs hu
    simp only [Option.bind_eq_some_iff] at hc
    obtain ⟨f, hf, n, hn, hc⟩ := hc
    exact ps_fld hu hf hn hc
  · cases hc
theorem cIndex_ok {t : TypeId} {x i : Operand} {p : Prim} (hc : cIndex P t x i = some p) : PS P G bases (.index t x i) p := by
  unfold cIndex at hc
  split at hc
  · rename_i hu
    exact ps_idxs hu hc
  · rename_i n e hu
    simp only [Option.bind_eq_some_iff] at hc
    obtain ⟨j, hj, n, hn, hc⟩ := hc
    exact ps_idxa hu hj hn hc
  · cases hc
theorem cFA_ok {t : TypeId} {x : Operand} {i : Nat} {p : Prim} (hc : cFA P t x i = some p) : PS P G bases (.fieldAddr t x i) p := by
  unfold cFA at hc
  split at hc
  · rename_i fs hu
    simp only [Option.bind_eq_some_iff] at hc
    obtain ⟨f, hf, j, hj, hc⟩ := hc
    split at hc
    · rename_i h0
      exact ps_fa hu hf hj h0 hc
    · cases hc
  · cases hc
theorem cIA_ok {t : TypeId} {x i : Operand} {p : Prim} (hc : cIA P t x i = some p) : PS P G bases (.indexAddr t x i) p := by
  unfold cIA at hc
  split at hc
  · rename_i n e hu
    simp only [Option.bind_eq_some_iff] at hc
    obtain ⟨j, hj, hc⟩ := hc
    exact ps_iap hu hj hc
  · rename_i e hu
    simp only [Option.bind_eq_some_iff] at hc
    obtain ⟨j, hj, hc⟩ := hc
    exact ps_ias hu hj hc
  · cases hc
theorem cSlice_ok {t : TypeId} {x : Operand} {lo hi : Option Operand} {p : Prim} (hc : cSlice P t x lo hi = some p) : PS P G bases (.slice t x lo hi none) p := by
  unfold cSlice at hc
  split at hc
  · rename_i hu
    exact ps_sls hu hc
  · rename_i e hu
    rw [Option.bind_eq_some_iff] at hc
    obtain ⟨j, hj, hc⟩ := hc
    exact ps_slx hu hj hc
  · cases hc
theorem cMkf_ok {f : Fn} {first caps : Array Operand} {p : Prim} (hc : cMkf f first caps = some p) : PS P G bases (.makeFunc f first caps) p := by
  unfold cMkf at hc
  split at hc
  · split at hc
    · rename_i hq
      obtain ⟨rfl, hlt⟩ := hq
      exact ps_mkf hlt hc
    · cases hc
  · cases hc
theorem cMakeSlice_ok {t : TypeId} {l c : Operand} {h p : Prim} (hc : cMakeSlice P t l c h = some p) : PS P G bases (.makeSlice t l c) p := by
  unfold cMakeSlice at hc
  split at hc
  · rename_i e hu
    simp only [Option.bind_eq_some_iff] at hc
    obtain ⟨j, hj, z, hz, l', hl, c', hc', hc⟩ := hc
    split at hc
    · rename_i hq
      split at hc
      · cases hc
        exact ps_mk hu hj hz hq ⟨l', hl, c', hc', rfl⟩
      · cases hc
    · cases hc
  · cases hc
theorem cRange_ok {t : TypeId} {x : Operand} {p : Prim} (hc : cRange P t x = some p) : PS P G bases (.range t x) p := by
  unfold cRange at hc
  split at hc
  · rename_i hu
    exact ps_rng hu hc
  · cases hc
theorem cCallB_ok {c : Call} {p : Prim} (hc : cCallB P c = some p) : PS P G bases (.call c) p := by
  obtain ⟨ca, ⟨xs⟩, ⟨ts⟩⟩ := c
  unfold cCallB at hc
  simp only at hc
  split at hc
  · unfold cBuiltin at hc
    split at hc
    · unfold cLen at hc
      split at hc
      · rename_i x t e1 e2
        simp only at e1 e2
        subst e1; subst e2
        split at hc
        · rename_i hu
          exact ps_lens hu hc
        · rename_i e hu
          exact ps_len hu hc
        · rename_i k e hu
          exact ps_lenm hu hc
        · cases hc
      · cases hc
    · unfold cApp at hc
      split at hc
      · rename_i x y t u e1 e2
        simp only at e1 e2
        subst e1; subst e2
        split at hc
        · rename_i e hu
          rw [Option.bind_eq_some_iff] at hc
          obtain ⟨j, hj, hc⟩ := hc
          split at hc
          · rename_i hq
            obtain ⟨q1, q2⟩ := hq
            refine ps_app hu hj ?_ q1 ?_
            · unfold isApp at q2
              split at q2
              · rename_i q h
                exact .inl ⟨q, h⟩
              · rename_i h
                exact .inr h
              · cases q2
            · simp only [cB, Option.bind_eq_some_iff, Option.some.injEq] at hc
              obtain ⟨x', k1, y', k2, rfl⟩ := hc
              exact ⟨x', k1, y', k2, rfl⟩
          · cases hc
        · cases hc
      · cases hc
    · unfold cDel at hc
      split at hc
      · rename_i m k t l e1 e2
        simp only at e1 e2
        subst e1; subst e2
        rw [Option.bind_eq_some_iff] at hc
        obtain ⟨q, hq, hc⟩ := hc
        exact ps_mdl hq hc
      · cases hc
    · exact ps_mn hc
    · exact ps_mx hc
    · cases hc
  · cases hc
theorem cPrim_ok {o : Op} {h p : Prim} (hc : cPrim P o h = some p) : PS P G bases o p := by
  cases o <;> simp only [cPrim] at hc
  case move x =>
    unfold cMov at hc
    split at hc
    · exact ps_snp (.inl rfl) hc
    · exact ps_move (.inl rfl) hc
  case assign x =>
    unfold cMov at hc
    split at hc
    · exact ps_snp (.inr rfl) hc
    · exact ps_move (.inr rfl) hc
  case pick c a b => exact ps_pick hc
  case alloc t => exact ps_alloc hc
  case box t x => exact ps_box hc
  case build t ps => exact cBuild_ok hc
  case buildSlice t n ps => exact cBuildSlice_ok hc
  case load t x =>
    rw [Option.bind_eq_some_iff] at hc
    obtain ⟨n, hn, hc⟩ := hc
    exact ps_load hn hc
  case store t x y =>
    rw [Option.bind_eq_some_iff] at hc
    obtain ⟨n, hn, hc⟩ := hc
    exact ps_store hn hc
  case nilCheck x => exact ps_nilck hc
  case binOp op t x y u => exact cBin_ok hc
  case unOp op t x => exact ps_un hc
  case convert s d x => exact cConv_ok hc
  case extract x i => exact ps_ext hc
  case field t x i => exact cField_ok hc
  case index t x i => exact cIndex_ok hc
  case fieldAddr t x i => exact cFA_ok hc
  case indexAddr t x i => exact cIA_ok hc
  case slice t x lo hi mx =>
    split at hc
    · rename_i hm
      cases mx with
      | none => exact cSlice_ok hc
      | some m => cases hm
    · cases hc
  case makeFunc f a b => exact cMkf_ok hc
  case makeSlice t l c => exact cMakeSlice_ok hc
  case range t x => exact cRange_ok hc
  case makeMap t r =>
    split at hc
    · rename_i hr
      cases r with
      | none =>
        simp only [Option.some.injEq] at hc
        subst hc
        exact ps_mkm
      | some r => cases hr
    · cases hc
  case lookup t m k ok =>
    unfold cLookup at hc
    rw [Option.bind_eq_some_iff] at hc
    obtain ⟨q, hq, hc⟩ := hc
    rw [Option.bind_eq_some_iff] at hc
    obtain ⟨z, hz, hc⟩ := hc
    exact ps_lk hq hz hc
  case mapUpdate t m k x =>
    unfold cMup at hc
    rw [Option.bind_eq_some_iff] at hc
    obtain ⟨q, hq, hc⟩ := hc
    exact ps_mup hq hc
  case next x s =>
    split at hc
    · rename_i hs
      subst hs
      exact ps_nxt hc
    · cases hc
  case call c => exact cCallB_ok hc
  all_goals cases hc
end
end Go.Proofs.YtoobogpbejdocaaDoor.Ev
