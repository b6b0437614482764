/-
  Append.
-/
import Derived.Test.YtgehbkdpodnajaaDoorEvPrimF
set_option linter.unusedVariables false
set_option linter.unusedSimpArgs false
namespace Go.Proofs.YtgehbkdpodnajaaDoor.Ev
open Go.RowKit
theorem data_size (s : ByteArray) : s.data.toList.length = s.size := by simp

section
variable {P : Program} {G : Nat → Option (List AV)} {bases : List Nat} {C : Ctx} {e : Env} {a : Act}

theorem upd_below {w w' : World} {b : Nat} {o : Obj} (u : Upd w w' b o) (hb : w.heap.size ≤ b) : Below w.heap.size w w' := ⟨u.os, u.tape, u.out, by rw [u.size]; exact Nat.le_refl _, fun k hk => u.other k (by omega)⟩
/-- Cells that lie one behind the other, element by element. -/
theorem run_flat {ys : List (List AV)} {k : Nat} (hk : 0 < k) (hy : ∀ c, c ∈ ys → c.length = k) {ad : Addr} (h : ∀ (i : Nat) (c : List AV), ys[i]? = some c → ∀ (j : Nat) (q : AV), c[j]? = some q → ∃ v, C.w.cell? (ad.add (i * k + j)) = some v ∧ VR C q v ∧ v.oneCell' = true) :
    ∃ news : Array Value, (loadCells ad (ys.length * k)).run P C.w = .ok news C.w ∧ VRs C ys.flatten news.toList := by
  obtain ⟨vs, h1, h2, h3⟩ := list_of (cs := ys.flatten) (ad := ad) (w := C.w) (fun i q hq => by
    obtain ⟨c, k1, k2⟩ := flat_div hk hy hq
    have := h _ c k1 _ q k2
    rwa [Nat.mul_comm, Nat.div_add_mod] at this) ys.flatten.length (Nat.le_refl _)
  rw [List.take_length] at h2
  refine ⟨vs.toArray, ?_, by simpa using h2⟩
  have := run_loadCells_list (P := P) C.w ad vs h3
  rwa [h1, flat_len hy] at this
theorem run_first (hO : C.OK) {b : AV} {v : Value} {ys : List (List AV)} {k : Nat} (hk : 0 < k) (h : VR C b v) (he : elems C.st b = some ys) (hy : ∀ c, c ∈ ys → c.length = k) :
    ∃ news : Array Value, (Builtin.lenOf v).run P C.w = .ok ys.length C.w ∧ (Builtin.firstCells k ys.length v).run P C.w = .ok news C.w ∧ VRs C ys.flatten news.toList := by
  unfold elems at he
  split at he
  · rename_i e xs
    simp only [Option.some.injEq] at he; subst he
    simp only [VR] at h
    obtain ⟨ao, cap, rfl, _, f⟩ := h
    cases ao with
    | none =>
      have : xs = [] := by
        cases xs with
        | nil => rfl
        | cons c cs => obtain ⟨_, ad, h1, _⟩ := VRrow_get f 0 c rfl; cases h1
      subst this
      exact ⟨#[], by simp [Builtin.lenOf], by simp [Builtin.firstCells], by simp [VRs]⟩
    | some ad =>
      obtain ⟨news, m1, m2⟩ := run_flat (P := P) hk hy (ad := ad) (fun i c hi j q hj => by
        obtain ⟨h1, ad', h2, hs, h3⟩ := VRrow_get f i c hi
        cases h2
        have he : e = k := by have := hy c (List.mem_of_getElem? hi); omega
        subst he
        obtain ⟨v, n1, n2⟩ := VRat_get h3 j q hj
        rw [Nat.zero_add] at n1
        exact ⟨v, n1.1, n2⟩)
      exact ⟨news, by simp [Builtin.lenOf], by simpa [Builtin.firstCells] using m1, m2⟩
  · rename_i id gen off ln
    split at he
    · rename_i e g xs nw hst
      split at he
      · rename_i hg
        subst hg
        simp only [Option.some.injEq] at he; subst he
        obtain ⟨b, o, cap, t, n, ad, p1, ⟨rfl, pa⟩, p3, p4, p5, p6⟩ := VR_own h hst
        have hl : ((xs.drop off).take ln).length = ln := by simp; omega
        by_cases h0 : ln = 0
        · subst h0
          refine ⟨#[], by simp [Builtin.lenOf], ?_, by simp [VRs]⟩
          simp [Builtin.firstCells, loadCells, loadCellsFrom]
        · obtain rfl := pa (by omega)
          obtain ⟨b', o', hB, hR⟩ := hO.get hst
          rw [p1] at hB; injection hB with hB; injection hB with q1 q2
          subst q1; subst q2
          obtain ⟨news, m1, m2⟩ := run_flat (P := P) hk hy (ad := ⟨b, o + off * e, none⟩) (fun i c hi j q hj => by
            have hck := hy c (List.mem_of_getElem? hi)
            rw [List.getElem?_take] at hi
            split at hi
            · rw [List.getElem?_drop] at hi
              obtain ⟨ccs, t', _, hx, _⟩ := hR
              have : e = k := by have := hx c (List.mem_of_getElem? hi); omega
              subst this
              obtain ⟨v, n1, n2⟩ := row_cell (hO.obs id _ b o hst p1) hi hj
              rw [add_plain]
              refine ⟨v, ?_, n2⟩
              rw [show o + off * e + (i * e + j) = o + (off + i) * e + j by rw [Nat.add_mul]; omega]
              exact n1
            · cases hi)
          exact ⟨news, by simp only [Builtin.lenOf, Sem.run_pure, hl], by rw [hl] at m1 ⊢; simpa only [Builtin.firstCells] using m1, m2⟩
      · cases he
    · cases he
  · simp only [Option.some.injEq] at he; subst he
    have := VR_plain h
    subst this
    exact ⟨#[], by simp [Builtin.lenOf], by simp [Builtin.firstCells], by simp [VRs]⟩
  · rename_i s
    simp only [Option.some.injEq] at he; subst he
    have := VR_plain h
    subst this
    refine ⟨s.data.map fun b => .int .u8 b.toNat, by simp [Builtin.lenOf, data_size], ?_, ?_⟩
    · simp only [Builtin.firstCells, Sem.run_pure, List.length_map, data_size]
      congr 2
      rw [ByteArray.extract_zero_size]
    · rw [show (List.map (fun b : UInt8 => [AV.v (.int .u8 (b.toNat : Int))]) s.data.toList).flatten = s.data.toList.map fun b => AV.v (.int .u8 (b.toNat : Int)) from by
          induction s.data.toList <;> simp_all]
      apply VRs_mk
      · simp
      · intro i q c h1 h2
        simp only [List.getElem?_map, Array.toList_map] at h1 h2
        cases hq : s.data.toList[i]? with
        | none => rw [hq] at h1; cases h1
        | some u =>
          rw [hq] at h1 h2
          simp at h1 h2
          subst h1; subst h2
          exact ⟨VR_v rfl, rfl⟩
  · cases he
theorem growslice {need old bytes : Nat} (h : old < need) (hb : need * bytes ≤ 140737488355328) : ¬ Builtin.nextslicecap need old * bytes > 2 ^ 48 := by
  have := growslice_fits h hb
  omega
/-- Where append makes a new block. -/
theorem run_grow {t u ty el : TypeId} {i : TypeInfo} {z : Value} (ht : P.underlying t = some (.slice el)) (hu : (∃ q, P.underlying u = some (.slice q)) ∨ P.underlying u = some .string) (hi : P.info? el = some i) (hz : i.zero = some z) (hb : 0 < i.bytes)
    {base : Option Addr} {ln cap m : Nat} {x : Value} {old news : Array Value} {w : World} (hl : (Builtin.lenOf x).run P w = .ok m w) (hold : (Builtin.firstCells i.size ln (.slice base ln cap)).run P w.drew = .ok old w.drew) (hnew : (Builtin.firstCells i.size m x).run P w.drew = .ok news w.drew)
    (hlt : cap < ln + m) (hlim : (ln + m) * i.bytes ≤ 140737488355328) :
    ∃ newCap, (Builtin.append_ #[t, u] ty #[.slice base ln cap, x]).run P w = .ok (.slice (some ⟨w.heap.size, 0, none⟩) (ln + m) newCap) (w.drew.alloc (.cells (old ++ news ++ Builtin.zeroCells z.cells (newCap - (ln + m))) el)) ∧ ln + m ≤ newCap := by
  have hz1 : (zeroValue el).run P w.drew = .ok z w.drew := by simp [zeroValue, run_typeInfo _ hi, hz]
  refine ⟨(ln + m) + (w.tape w.drawn (.appendCap (ln + m) cap el)) % (2 ^ 63 - (ln + m)), ?_, by omega⟩
  have h1 : ¬ ln + m ≤ cap := by omega
  have h2 := growslice hlt hlim
  have h3 : ¬ (((ln + m : Nat) : Int) > IntKind.i64.max ∧ ((false = true) ∨ i.bytes = 0)) := by simp; omega
  have h4 : ¬ (281474976710656 < Builtin.nextslicecap (ln + m) cap * i.bytes) := by omega
  have h5 : ¬ i.bytes = 0 := by omega
  rcases hu with ⟨q, hq⟩ | hq
  · simp [Builtin.append_, run_underlying ht, run_underlying hq, run_sizeOf' hi, run_typeInfo _ hi, hl, h1, h4, h5, Question.forced, Question.cut, hold, hnew, hz1, newRow]
  · simp [Builtin.append_, run_underlying ht, run_underlying hq, run_sizeOf' hi, run_typeInfo _ hi, hl, h1, h4, h5, Question.forced, Question.cut, hold, hnew, hz1, newRow]
theorem zeroCells_size (z : Array Value) (n : Nat) : (Builtin.zeroCells z n).size = n * z.size := by simp [Builtin.zeroCells]
theorem below_drew (w : World) : Below w.heap.size w w.drew := (Below.refl _ _).drew
/-- Where append writes in place. -/
theorem run_inplace {t u ty el : TypeId} {i : TypeInfo} (ht : P.underlying t = some (.slice el)) (hu : (∃ q, P.underlying u = some (.slice q)) ∨ P.underlying u = some .string) (hi : P.info? el = some i)
    {ad : Addr} {ln cap m : Nat} {x : Value} {news : Array Value} {w w' : World} (hl : (Builtin.lenOf x).run P w = .ok m w) (hnew : (Builtin.firstCells i.size m x).run P w = .ok news w)
    (hle : ln + m ≤ cap) (hs : (storeCells (ad.add (ln * i.size)) news.toList).run P w = .ok () w') :
    (Builtin.append_ #[t, u] ty #[.slice (some ad) ln cap, x]).run P w = .ok (.slice (some ad) (ln + m) cap) w' := by
  rcases hu with ⟨q, hq⟩ | hq
  · simp [Builtin.append_, run_underlying ht, run_underlying hq, run_sizeOf' hi, hl, hle, hnew, hs]
  · simp [Builtin.append_, run_underlying ht, run_underlying hq, run_sizeOf' hi, hl, hle, hnew, hs]
theorem does_row2 {oo : Oper} (hO : C.OK) {xs : List (List AV)} {k : Nat} (hx : ∀ c, c ∈ xs → c.length = k) {w1 : World} (hbl : Below C.w.heap.size C.w w1) {ccs : Array Value} {t : TypeId} (hh : w1.heap[C.w.heap.size]? = some (.cells ccs t (0, 0))) {cap : Nat} (hc : xs.length ≤ cap) (hs : cap * k ≤ ccs.size)
    (hv : VRs C xs.flatten (ccs.toList.take (xs.length * k)))
    (hr : (execOp a.eval oo).run P C.w = .ok (.value (.slice (some ⟨C.w.heap.size, 0, none⟩) xs.length cap)) w1) : Does P a oo C (.own C.st.length 0 0 xs.length) (C.st ++ [.row k 0 xs false]) := by
  have hx' := ext_push hO hbl (o := 0) (.row k 0 xs false) (Nat.le_refl C.w.heap.size)
  refine ⟨C.push w1 C.w.heap.size 0 (.row k 0 xs false), _, _, hr, .inl rfl, hx', ?_, rfl, ?_⟩
  · refine ok_push hO hbl (Nat.le_refl _) ?_
    refine ⟨ccs, t, hh, hx, ?_, by rw [List.drop_zero]; exact VRs_ext hx' hv⟩
    have := Nat.mul_le_mul_right k hc
    omega
  · simp only [VR]
    refine ⟨rfl, k, 0, xs, false, push_st, Nat.le_refl _, fun _ => ⟨C.w.heap.size, 0, cap, t, ccs.size, ⟨C.w.heap.size, 0, none⟩, push_B hO, ⟨rfl, fun _ => by simp⟩, hc, ?_, by simpa using hs, by omega⟩⟩
    show w1.shape? C.w.heap.size = _
    unfold World.shape?
    rw [hh]
theorem seg_flat {α : Type} {k : Nat} : ∀ {xs : List (List α)}, (∀ c, c ∈ xs → c.length = k) → ∀ off ln, ((xs.drop off).take ln).flatten = (xs.flatten.drop (off * k)).take (ln * k) := by
  intro xs hx off
  have hd : ∀ (n : Nat) (ys : List (List α)), (∀ c, c ∈ ys → c.length = k) → (ys.drop n).flatten = ys.flatten.drop (n * k) ∧ (ys.take n).flatten = ys.flatten.take (n * k) := by
    intro n
    induction n with
    | zero => intro ys _; simp
    | succ n ih =>
      intro ys hy
      cases ys with
      | nil => simp
      | cons y ys =>
        have h1 := hy y (by simp)
        obtain ⟨i1, i2⟩ := ih ys fun c hc => hy c (by simp [hc])
        have e1 : (n + 1) * k = y.length + n * k := by rw [h1, Nat.add_mul]; omega
        have t1 : ∀ j, (y ++ ys.flatten).take (y.length + j) = y ++ ys.flatten.take j := fun j => by rw [List.take_append, List.take_of_length_le (by omega)]; simp
        have t2 : ∀ j, (y ++ ys.flatten).drop (y.length + j) = ys.flatten.drop j := fun j => by rw [List.drop_append]; simp
        constructor
        · simp only [List.drop_succ_cons, List.flatten_cons]; rw [e1, t2, i1]
        · simp only [List.take_succ_cons, List.flatten_cons]; rw [e1, t1, i2]
  intro ln
  rw [(hd ln (xs.drop off) fun c hc => hx c (List.mem_of_mem_drop hc)).2, (hd off xs hx).1]
theorem ps_app {t u el : TypeId} {j : TypeInfo} {x y : Operand} {p : Prim} (hu : P.underlying t = some (.slice el)) (hj : P.info? el = some j) (hu2 : (∃ q, P.underlying u = some (.slice q)) ∨ P.underlying u = some .string)
    (hq : 0 < j.size ∧ 0 < j.bytes ∧ (j.zero.map fun z => z.cells.size) = some j.size) (hx : ∃ x', cOpd x = some x' ∧ ∃ y', cOpd y = some y' ∧ p = .app j.size j.bytes x' y') :
    PS P G bases (.call { callee := .builtin .append, args := #[x, y], argTypes := #[t, u] }) p := by
  intro C e a oo r st' hoo hO hg hE h
  obtain ⟨q1, q2, q3⟩ := hq
  simp only [Option.map_eq_some_iff] at q3
  obtain ⟨z, hz, hzs⟩ := q3
  obtain ⟨x', h1, y', h2, rfl⟩ := hx
  simp only [Prim.ev] at h
  obtain ⟨av, k1, h⟩ := ev1 h
  split at h
  · rename_i bv k2
    split at h
    · rename_i ys k3
      split at h
      · rename_i hall
        have hy : ∀ c, c ∈ ys → c.length = j.size := fun c hc => by simpa using List.all_eq_true.1 hall c hc
        have hv := cOpd_ok h1 hg hE k1
        have hw := cOpd_ok h2 hg hE k2
        have hbd := below_drew C.w
        have hrun : ∀ (v1 : Value) (w1 : World), (Builtin.append_ #[t, u] oo.type #[a.eval x, a.eval y]).run P C.w = .ok v1 w1 → (execOp a.eval oo).run P C.w = .ok (.value v1) w1 := by
          intro v1 w1 hr
          simp [execOp, hoo, resolve, invoke, builtin, hr]
        obtain ⟨news, n1, n2, n3⟩ := run_first (P := P) hO q1 hw k3 hy
        obtain ⟨news', n1', n2', n3'⟩ := run_first (P := P) (C := C.at C.w.drew) (ok_below hO hbd) q1 (VR_ext (ext_below hO hbd) hw) (ys := ys) k3 hy
        have hbk : Below C.w.drew.heap.size C.w.drew C.w := ⟨rfl, rfl, rfl, Nat.le_refl _, fun _ _ => rfl⟩
        have n4 : VRs C ys.flatten news'.toList := VRs_ext (ext_below (C := C.at C.w.drew) (ok_below hO hbd) hbk) n3'
        have hnl := VRs_length n3
        rw [flat_len hy] at hnl
        simp only [Array.length_toList] at hnl
        have hnl' := VRs_length n4
        rw [flat_len hy] at hnl'
        simp only [Array.length_toList] at hnl'
        split at h
        · -- nil
          have e1 := VR_plain hv
          split at h
          · rename_i hlim
            split at h
            · rename_i h0
              simp only [Option.some.injEq, Prod.mk.injEq] at h
              obtain ⟨rfl, rfl⟩ := h
              refine Does.stay hO (x := .slice none 0 0) (hrun _ _ ?_) (VR_v rfl)
              rw [e1]
              rw [h0] at n1 n2
              rcases hu2 with ⟨q, hq⟩ | hq
              · simp [Builtin.append_, run_underlying hu, run_underlying hq, run_sizeOf' hj, n1, n2]
              · simp [Builtin.append_, run_underlying hu, run_underlying hq, run_sizeOf' hj, n1, n2]
            · rename_i h0
              simp only [Option.some.injEq, Prod.mk.injEq] at h
              obtain ⟨rfl, rfl⟩ := h
              obtain ⟨nc, g1, g2⟩ := run_grow (ty := oo.type) (base := none) (ln := 0) (cap := 0) (old := #[]) hu hu2 hj hz q2 n1 (by simp [Builtin.firstCells]) n2' (by omega) (by simpa using hlim)
              rw [Nat.zero_add] at g1 g2
              have hbl : Below C.w.heap.size C.w (C.w.drew.alloc (.cells (#[] ++ news' ++ Builtin.zeroCells z.cells (nc - ys.length)) el)) := hbd.alloc (Nat.le_refl _) _
              refine does_row2 hO hy hbl (heap_push_at C.w.drew _) g2 ?_ ?_ (hrun _ _ (by rw [e1]; exact g1))
              · simp only [Array.size_append, List.size_toArray, List.length_nil, zeroCells_size, hzs, ← hnl']
                rw [Nat.zero_add, ← Nat.add_mul]
                exact Nat.mul_le_mul_right _ (by omega)
              · simp only [Array.toList_append, List.nil_append, hnl']
                rw [List.take_append_of_le_length (by simp), List.take_of_length_le (by simp)]
                simpa using n4
          · cases h
        · -- a row of the store
          rename_i id gen off ln
          split at h
          · rename_i k' g xs nw hst
            split at h
            · rename_i hqq
              obtain ⟨rfl, rfl, b1, b2, b3, b4⟩ := hqq
              simp only [Option.some.injEq, Prod.mk.injEq] at h
              obtain ⟨rfl, rfl⟩ := h
              obtain ⟨b, o, cap, t', n, ad, p1, ⟨p2, pa⟩, p3, p4, p5, p6⟩ := VR_own hv hst
              obtain ⟨bb, o', hB, ccs, t'', f1, f2, f3, f4⟩ := hO.get hst
              rw [p1] at hB; injection hB with hB; injection hB with e1 e2; subst e1; subst e2
              have hn : n = ccs.size := by
                unfold World.shape? at p4; rw [f1] at p4; simp at p4; exact p4.2.symm
              subst hn
              have hold : ((xs.drop off).take ln).length = ln := by simp; omega
              have hxs' : ∀ c, c ∈ (xs.drop off).take ln → c.length = j.size := fun c hc => f2 c (List.mem_of_mem_drop (List.mem_of_mem_take hc))
              have hnew : ∀ c, c ∈ (xs.drop off).take ln ++ ys → c.length = j.size := fun c hc => by
                rcases List.mem_append.1 hc with hc | hc
                · exact hxs' c hc
                · exact hy c hc
              have hnl2 : ((xs.drop off).take ln ++ ys).length = ln + ys.length := by rw [List.length_append, hold]
              have hxk : (off + ln) * j.size ≤ xs.length * j.size := Nat.mul_le_mul_right _ b1
              have hseg : VRs C ((xs.drop off).take ln).flatten ((ccs.toList.drop (o + off * j.size)).take (ln * j.size)) := by
                rw [seg_flat f2]
                have := VRs_take (VRs_drop f4 (off * j.size)) (ln * j.size)
                rw [List.drop_take, List.drop_drop, List.take_take] at this
                rw [Nat.min_eq_left (by rw [Nat.add_mul] at hxk; omega)] at this
                exact this
              have hmul : (off + ln) * j.size = off * j.size + ln * j.size := Nat.add_mul ..
              by_cases hfit : ln + ys.length ≤ cap
              · have hcapk : (off + (ln + ys.length)) * j.size ≤ (off + cap) * j.size := Nat.mul_le_mul_right _ (by omega)
                have hm2 : (off + (ln + ys.length)) * j.size = off * j.size + ln * j.size + news.size := by rw [← hnl, Nat.add_mul, Nat.add_mul, Nat.add_assoc]
                obtain ⟨w', ccs', hs, u2, r2⟩ : ∃ w' ccs', (storeCells (ad.add (ln * j.size)) news.toList).run P C.w = .ok () w' ∧ Upd C.w w' b (.cells ccs' t'' (0, 0)) ∧ ccs'.toList = ccs.toList.take (o + off * j.size + ln * j.size) ++ news.toList ++ ccs.toList.drop (o + off * j.size + ln * j.size + news.toList.length) := by
                  by_cases h0 : 0 < cap
                  · obtain rfl := pa h0
                    obtain ⟨w', ccs', r1, u2, r2⟩ := run_storeCells P news.toList 0 C.w ccs t'' b (o + off * j.size + ln * j.size) f1 (by simp; omega) (VRs_one n3)
                    exact ⟨w', ccs', by rw [add_plain]; exact r1, u2, r2⟩
                  · have hy0 : news.toList = [] := List.eq_nil_of_length_eq_zero (by rw [Array.length_toList, ← hnl, show ys.length = 0 by omega, Nat.zero_mul])
                    refine ⟨C.w, ccs, by rw [hy0]; simp [storeCells], ⟨rfl, rfl, rfl, rfl, fun _ _ => rfl, f1⟩, by rw [hy0]; simp⟩
                have hcs' : ccs'.size = ccs.size := by rw [← Array.length_toList, r2, put_len (by simp; omega)]; simp
                have T : Turn C w' id b o b (o + off * j.size) (.row j.size g xs nw) (.row j.size (g + 1) ((xs.drop off).take ln ++ ys) nw) := by
                  refine ⟨hst, p1, by simp [Ob.next], .inr (by simp [Ob.moved]), u2.os, u2.tape, u2.out, by rw [u2.size]; exact Nat.le_refl _, fun k _ hk => u2.other k hk, ?_, fun ad' c hb' hs' => ?_, fun off' hwr => .inl ⟨rfl, fun hnw => ?_⟩, .inl rfl⟩
                  · simp [World.shape?, f1, u2.at_, hcs']
                  · have hnw : ¬ (nw = true → o + xs.length * j.size ≤ ad'.off) := fun hh => hs'.2.1 ⟨id, o, _, by rw [hb']; exact p1, hst, hh⟩
                    have hnt : nw = true := by
                      cases nw with
                      | true => rfl
                      | false => exact absurd (fun hh => by cases hh) hnw
                    have hlt : ad'.off < o + off * j.size + ln * j.size := by
                      have h3 := b2 hnt
                      have : ¬ (o + xs.length * j.size ≤ ad'.off) := fun hh => hnw fun _ => hh
                      rw [← h3, hmul] at this
                      omega
                    have hc1 := hs'.1
                    unfold World.cell? at hc1 ⊢
                    rw [hb', f1] at hc1
                    rw [hb', u2.at_]
                    dsimp only at hc1 ⊢
                    split at hc1
                    · cases hc1
                    · rename_i hsp
                      rw [if_neg hsp]
                      rw [← Array.getElem?_toList, r2, put_get (by simp; omega), if_pos hlt, Array.getElem?_toList]
                      exact hc1
                  · have h3 := hwr hnw
                    rw [hnl2] at h3
                    rw [← b2 hnw, hmul]
                    have : ln * j.size ≤ (ln + ys.length) * j.size := Nat.mul_le_mul_right _ (by omega)
                    omega
                have hx' := ext_set hO T
                refine ⟨_, _, _, hrun _ w' (by rw [p2]; exact run_inplace hu hu2 hj n1 n2 hfit hs), .inl rfl, hx', ok_set hO T ⟨ccs', t'', u2.at_, hnew, ?_, ?_⟩, rfl, ?_⟩
                · rw [hnl2, hcs', Nat.add_mul]; omega
                · rw [hnl2, List.flatten_append]
                  have e3 : ((ccs'.toList.drop (o + off * j.size)).take ((ln + ys.length) * j.size)) = (ccs.toList.drop (o + off * j.size)).take (ln * j.size) ++ news.toList := by
                    have hln : ((ccs.toList.drop (o + off * j.size)).take (ln * j.size)).length = ln * j.size := by simp; omega
                    have hnl3 : (ln + ys.length) * j.size = ln * j.size + news.toList.length := by rw [Nat.add_mul, hnl]; simp
                    apply List.ext_getElem?
                    intro q
                    rw [List.getElem?_take, List.getElem?_drop, r2, put_get (by simp; omega), List.getElem?_append, hln, hnl3]
                    by_cases hq1 : q < ln * j.size
                    · rw [if_pos (by omega), if_pos (by omega), if_pos hq1, List.getElem?_take, if_pos hq1, List.getElem?_drop]
                    · by_cases hq2 : q < ln * j.size + news.toList.length
                      · rw [if_pos hq2, if_neg (by omega), if_pos (by omega), if_neg hq1]; congr 1; omega
                      · rw [if_neg hq2, if_neg hq1, List.getElem?_eq_none (by omega)]
                  rw [e3]
                  exact VRs_append (VRs_ext hx' hseg) (VRs_ext hx' n3)
                · simp only [VR]
                  have hi := (List.getElem?_eq_some_iff.1 hst).1
                  refine ⟨rfl, j.size, g + 1, (xs.drop off).take ln ++ ys, nw, by simp [Ctx.set, hi], Nat.le_refl _, fun _ => ⟨b, o + off * j.size, cap, t', ccs.size, ad, ?_, ⟨rfl, fun h0 => by rw [pa h0]; simp⟩, hfit, ?_, ?_, by rw [hnl2]; omega⟩⟩
                  · have hi' : id < C.B.length := by rw [hO.len]; exact hi
                    simp [Ctx.set, hi']
                  · exact (hx'.shape b (heap_lt f1)).trans p4
                  · rw [Nat.zero_add]; rw [Nat.add_mul] at p5; omega
              · have hB : VR (C.at C.w.drew) (.own id g off ln) (.slice (some ad) ln cap) := by rw [← p2]; exact VR_ext (ext_below hO hbd) hv
                obtain ⟨old, m1, m2, m3⟩ := run_first (P := P) (C := C.at C.w.drew) (ok_below hO hbd) q1 hB (ys := (xs.drop off).take ln) (by simp [elems, Ctx.at, hst]) hxs'
                rw [hold] at m2
                have m4 : VRs C ((xs.drop off).take ln).flatten old.toList := VRs_ext (ext_below (C := C.at C.w.drew) (ok_below hO hbd) hbk) m3
                have hol := VRs_length m4
                rw [flat_len hxs', hold] at hol
                simp only [Array.length_toList] at hol
                obtain ⟨nc, g1, g2⟩ := run_grow (ty := oo.type) hu hu2 hj hz q2 n1 m2 n2' (by omega) b3
                have hbl : Below C.w.heap.size C.w (C.w.drew.alloc (.cells (old ++ news' ++ Builtin.zeroCells z.cells (nc - (ln + ys.length))) el)) := hbd.alloc (Nat.le_refl _) _
                have hlt := heap_lt f1
                have T : Turn C (C.w.drew.alloc (.cells (old ++ news' ++ Builtin.zeroCells z.cells (nc - (ln + ys.length))) el)) id b o C.w.heap.size 0 (.row j.size g xs nw) (.row j.size (g + 1) ((xs.drop off).take ln ++ ys) nw) :=
                  ⟨hst, p1, by simp [Ob.next], .inr (by simp [Ob.moved]), hbl.os, hbl.tape, hbl.output, hbl.size, fun k hk _ => hbl.block k hk, shape_of_heap (hbl.block b hlt), fun ad' c hb' hs' => (cell_of_heap (hbl.block _ (Ctx.stable_lt hs'))).trans hs'.1, fun _ _ => .inr (Nat.le_refl _), .inr (Nat.le_refl _)⟩
                have hx' := ext_set hO T
                have hcs : (old ++ news' ++ Builtin.zeroCells z.cells (nc - (ln + ys.length))).size = nc * j.size := by
                  simp only [Array.size_append, zeroCells_size, hzs, ← hnl', ← hol]
                  rw [← Nat.add_mul, ← Nat.add_mul]
                  congr 1; omega
                refine ⟨_, _, _, hrun _ _ (by rw [p2]; exact g1), .inl rfl, hx', ok_set hO T ⟨_, el, heap_push_at C.w.drew _, hnew, ?_, ?_⟩, rfl, ?_⟩
                · rw [hnl2, hcs, Nat.zero_add]; exact Nat.mul_le_mul_right _ g2
                · rw [hnl2, List.flatten_append, List.drop_zero]
                  have e3 : (old ++ news' ++ Builtin.zeroCells z.cells (nc - (ln + ys.length))).toList.take ((ln + ys.length) * j.size) = old.toList ++ news'.toList := by
                    rw [Array.toList_append, Array.toList_append, List.take_append_of_le_length (by simp; rw [← hol, ← hnl', Nat.add_mul]; exact Nat.le_refl _), List.take_of_length_le (by simp; rw [← hol, ← hnl', Nat.add_mul]; exact Nat.le_refl _)]
                  rw [e3]
                  exact VRs_append (VRs_ext hx' m4) (VRs_ext hx' n4)
                · simp only [VR]
                  have hi := (List.getElem?_eq_some_iff.1 hst).1
                  refine ⟨rfl, j.size, g + 1, (xs.drop off).take ln ++ ys, nw, by simp [Ctx.set, hi], Nat.le_refl _, fun _ => ⟨C.w.heap.size, 0, nc, el, nc * j.size, ⟨C.w.heap.size, 0, none⟩, ?_, ⟨rfl, fun h0 => by simp⟩, g2, ?_, by simp, by rw [hnl2]; omega⟩⟩
                  · have hi' : id < C.B.length := by rw [hO.len]; exact hi
                    simp [Ctx.set, hi']
                  · show World.shape? (C.w.drew.alloc _) C.w.heap.size = _
                    unfold World.shape?
                    rw [show C.w.heap.size = C.w.drew.heap.size from rfl, heap_push_at]
                    simp only [hcs]
            · cases h
          · cases h
        · cases h
      · cases h
    · cases h
  · cases h
end
end Go.Proofs.YtgehbkdpodnajaaDoor.Ev
