/-
  make, ranges over texts, conversions between texts and bytes; all operations together.
-/
import Derived.Test.YtgehbkdpodnajaaDoorEvPrimG
import Derived.Test.YtgehbkdpodnajaaDoorEvArr
set_option linter.unusedVariables false
set_option linter.unusedSimpArgs false
namespace Go.Proofs.YtgehbkdpodnajaaDoor.Ev
open Go.RowKit
section
variable {P : Program} {G : Nat → Option (List AV)} {bases : List Nat} {C : Ctx} {e : Env} {a : Act}

theorem ps_rng {t : TypeId} {x : Operand} {p : Prim} (hu : P.underlying t = some .string) (hc : ((cOpd x).bind fun x => some (Prim.rng x)) = some p) : PS P G bases (.range t x) p := by
  intro C e a oo r st' hoo hO hg hE h
  simp only [Option.bind_eq_some_iff, Option.some.injEq] at hc
  obtain ⟨y, h1, rfl⟩ := hc
  simp only [Prim.ev] at h
  split at h
  · rename_i s k1
    simp only [Option.some.injEq, Prod.mk.injEq] at h
    obtain ⟨rfl, rfl⟩ := h
    have e1 := VR_plain (cOpd_ok h1 hg hE k1)
    have hbl := below_alloc C.w (.stringIter s 0)
    refine ⟨C.push (C.w.alloc (.stringIter s 0)) C.w.heap.size 0 (.sit s 0), _, .pointer (some ⟨C.w.heap.size, 0, none⟩), ?_, .inl rfl, ext_push hO hbl _ (Nat.le_refl _), ok_push hO hbl (Nat.le_refl _) (heap_push_at C.w _), rfl, ?_⟩
    · simp [execOp, hoo, e1, Instr.range, run_underlying hu]
      rfl
    · simp only [VR]
      exact ⟨s, 0, C.w.heap.size, 0, push_st, push_B hO, rfl⟩
  · cases h
theorem ps_nxt {x : Operand} {p : Prim} (hc : ((cOpd x).bind fun x => some (Prim.nxt x)) = some p) : PS P G bases (.next x true) p := by
  intro C e a oo r st' hoo hO hg hE h
  simp only [Option.bind_eq_some_iff, Option.some.injEq] at hc
  obtain ⟨y, h1, rfl⟩ := hc
  simp only [Prim.ev] at h
  split at h
  · rename_i id k1
    have hv := cOpd_ok h1 hg hE k1
    simp only [VR] at hv
    obtain ⟨s0, p0, b, o, v1, v2, e1⟩ := hv
    split at h
    · rename_i s pos hst
      obtain ⟨b', o', hB, f⟩ := hO.get hst
      rw [v2] at hB; injection hB with hB; injection hB with q1 q2; subst q1; subst q2
      have f' : C.w.heap[b]? = some (.stringIter s pos) := f
      split at h
      · rename_i hlt
        simp only [Option.some.injEq, Prod.mk.injEq] at h
        obtain ⟨rfl, rfl⟩ := h
        have hbl := heap_lt f'
        have hat : ({ C.w with heap := C.w.heap.setIfInBounds b (.stringIter s (pos + (Utf8.decode s pos).2)) } : World).heap[b]? = some (.stringIter s (pos + (Utf8.decode s pos).2)) := by
          simp [Array.getElem?_setIfInBounds, hbl]
        have hot : ∀ k, k ≠ b → ({ C.w with heap := C.w.heap.setIfInBounds b (.stringIter s (pos + (Utf8.decode s pos).2)) } : World).heap[k]? = C.w.heap[k]? := by
          intro k hk
          simp only [Array.getElem?_setIfInBounds]
          rw [if_neg (by omega)]
        have T : Turn C { C.w with heap := C.w.heap.setIfInBounds b (.stringIter s (pos + (Utf8.decode s pos).2)) } id b o b o (.sit s pos) (.sit s (pos + (Utf8.decode s pos).2)) := by
          refine ⟨hst, v2, by simp [Ob.next], .inl ⟨by simp [Ob.still], rfl, rfl⟩, rfl, rfl, rfl, by simp, fun k _ hk => hot k hk, ?_, fun ad c hb hs => ?_, fun _ _ => .inl ⟨rfl, trivial⟩, .inl rfl⟩
          · unfold World.shape?
            rw [hat, f']
          · have := hs.1
            unfold World.cell? at this
            rw [hb, f'] at this
            cases this
        refine ⟨_, _, .tuple #[.bool true, goInt pos, .int .i32 (Utf8.decode s pos).1], ?_, .inl rfl, ext_set hO T, ok_set hO T hat, rfl, ?_⟩
        · simp only [execOp, hoo, e1, Instr.next, Sem.run_bind]
          simp only [getObj, setObj, Sem.run, f', hlt, if_true, Result.andThen_ok, Sem.run_bind, Sem.run_pure]
          rfl
        · simp only [VR]
          refine ⟨_, rfl, ?_⟩
          simp [VRt, VR, goInt, Value.oneCell']
      · rename_i hlt
        simp only [Option.some.injEq, Prod.mk.injEq] at h
        obtain ⟨rfl, rfl⟩ := h
        refine Does.stay hO (x := .tuple #[.bool false]) ?_ (by simp [VR, VRt, Value.oneCell'])
        simp only [execOp, hoo, e1, Instr.next, Sem.run_bind]
        simp only [getObj, setObj, Sem.run, f', hlt, if_false, Result.andThen_ok, Sem.run_bind, Sem.run_pure]
    · cases h
  · cases h
theorem bytes_flat (s : ByteArray) : VRs C (s.data.toList.map fun b => [AV.v (.int .u8 (b.toNat : Int))]).flatten (s.data.map fun b => (.int .u8 b.toNat : Value)).toList := by
  rw [show (List.map (fun b : UInt8 => [AV.v (.int .u8 (b.toNat : Int))]) s.data.toList).flatten = s.data.toList.map fun b => AV.v (.int .u8 (b.toNat : Int)) from by
      induction s.data.toList <;> simp_all]
  apply VRs_mk
  · simp
  · intro i q c h1 h2
    simp only [List.getElem?_map, Array.toList_map] at h1 h2
    cases hq : s.data.toList[i]? with
    | none => rw [hq] at h1; cases h1
    | some u =>
      rw [hq] at h1 h2
      simp at h1 h2
      subst h1; subst h2
      exact ⟨VR_v rfl, rfl⟩
theorem ps_s2b {s d el : TypeId} {x : Operand} {p : Prim} (hs : P.underlying s = some .string) (hd : P.underlying d = some (.slice el)) (he : P.underlying el = some (.int .u8)) (hc : ((cOpd x).bind fun x => some (Prim.s2b x)) = some p) : PS P G bases (.convert s d x) p := by
  intro C e a oo r st' hoo hO hg hE h
  simp only [Option.bind_eq_some_iff, Option.some.injEq] at hc
  obtain ⟨y, h1, rfl⟩ := hc
  simp only [Prim.ev] at h
  split at h
  · rename_i str k1
    simp only [Option.some.injEq, Prod.mk.injEq] at h
    obtain ⟨rfl, rfl⟩ := h
    have e1 := VR_plain (cOpd_ok h1 hg hE k1)
    let cap := str.size + C.w.tape C.w.drawn (.appendCap str.size 0 el) % (2 ^ 63 - str.size)
    let ccs : Array Value := (str.data.map fun b => (.int .u8 b.toNat : Value)) ++ Array.replicate (cap - str.size) (.int .u8 0)
    let w1 : World := (C.w.drew.alloc (.cells ccs el)).freeze ⟨C.w.heap.size, ccs.size, none⟩ 1
    have hh : ∃ fr, w1.heap[C.w.heap.size]? = some (.cells ccs el fr) := by
      have := heap_push_at C.w.drew (.cells ccs el)
      refine ⟨(ccs.size, ccs.size + 1), ?_⟩
      simp only [w1, World.freeze]
      rw [if_neg (by omega)]
      simp only [Array.getElem?_modify, if_true]
      rw [show C.w.heap.size = C.w.drew.heap.size from rfl, this]
      rfl
    obtain ⟨fr, hh⟩ := hh
    have hbl : Below C.w.heap.size C.w w1 := by
      have h2 : Below C.w.heap.size C.w (C.w.drew.alloc (.cells ccs el)) := (below_drew C.w).alloc (Nat.le_refl _) _
      refine h2.trans ⟨rfl, rfl, rfl, by simp [w1, World.freeze], fun k hk => ?_⟩
      simp only [w1, World.freeze]
      rw [if_neg (by omega)]
      simp only [Array.getElem?_modify]
      rw [if_neg (by omega)]
    have hrun : (execOp a.eval oo).run P C.w = .ok (.value (.slice (some ⟨C.w.heap.size, 0, none⟩) str.size cap)) w1 := by
      simp only [execOp, hoo, e1, convert, Sem.run_bind, run_underlying hs, run_underlying hd, run_underlying he, Result.andThen_ok, Conv.stringToBytes, run_choose, Question.forced, Bool.false_eq_true, if_false, Question.cut, newRow, run_newObj, Sem.run_pure, markStringish, run_shape]
      have hsh : World.shape? (C.w.drew.alloc (.cells ccs el)) C.w.heap.size = some (el, ccs.size) := by
        unfold World.shape?
        rw [show C.w.heap.size = C.w.drew.heap.size from rfl, heap_push_at]
      have : ({ C.w with drawn := C.w.drawn + 1, heap := C.w.heap.push (.cells ccs el) } : World).shape? C.w.heap.size = some (el, ccs.size) := hsh
      simp only [ccs, cap] at this
      rw [this]
      rfl
    have hx1 : ∀ c, c ∈ str.data.toList.map (fun b => [AV.v (.int .u8 (b.toNat : Int))]) → c.length = 1 := by
      intro c hc; obtain ⟨b, _, rfl⟩ := List.mem_map.1 hc; rfl
    have hvs : VRs C (str.data.toList.map (fun b => [AV.v (.int .u8 (b.toNat : Int))])).flatten (ccs.toList.take ((str.data.toList.map (fun b => [AV.v (.int .u8 (b.toNat : Int))])).length * 1)) := by
      have h3 := bytes_flat (C := C) str
      have h4 : ccs.toList.take ((str.data.toList.map (fun b => [AV.v (.int .u8 (b.toNat : Int))])).length * 1) = (str.data.map fun b => (.int .u8 b.toNat : Value)).toList := by
        simp only [ccs, Array.toList_append, List.length_map, Nat.mul_one]
        rw [List.take_append_of_le_length (by simp), List.take_of_length_le (by simp)]
      rw [h4]; exact h3
    have := VR_sl_new hO hbl hx1 hh (cap := cap) (by simp [cap]) hvs
    refine ⟨C.at w1, _, _, hrun, .inl rfl, ext_below hO hbl, ok_below hO hbl, rfl, ?_⟩
    have hl : (str.data.toList.map (fun b => [AV.v (.int .u8 (b.toNat : Int))])).length = str.size := by simp
    rw [hl] at this
    exact this
  · cases h
theorem vals_cells : ∀ {rs : List AV} {cs : List Value} {vs : List Value}, VRs C rs cs → vals rs = some vs → cs = vs :=
  fun h k => vals_ok (VRt_of_VRs h) k
theorem run_bytes (w : World) (f : Value → ByteArray → Sem (ForInStep ByteArray)) (hf : ∀ n r, f (.int .u8 n) r = pure (ForInStep.yield (r.push (UInt8.ofNat n.toNat)))) : ∀ (vs : List Value) (s : ByteArray), vs.all (fun | .int .u8 _ => true | _ => false) = true →
    (forIn (m := Sem) vs s f).run P w = .ok ⟨s.data ++ (vs.map fun | .int _ n => UInt8.ofNat n.toNat | _ => 0).toArray⟩ w
  | [], s, _ => by simp
  | v :: vs, s, h => by
    simp only [List.all_cons, Bool.and_eq_true] at h
    obtain ⟨h1, h2⟩ := h
    split at h1
    · rename_i n
      simp only [List.forIn_cons, hf, Sem.run_bind, Sem.run_pure, Result.andThen_ok]
      rw [run_bytes w f hf vs _ h2]
      congr 2
      simp [ByteArray.push]
    · cases h1
theorem ps_b2s {s d el : TypeId} {x : Operand} {p : Prim} (hs : P.underlying s = some (.slice el)) (hd : P.underlying d = some .string) (he : P.underlying el = some (.int .u8)) (hc : ((cOpd x).bind fun x => some (Prim.b2s x)) = some p) : PS P G bases (.convert s d x) p := by
  intro C e a oo r st' hoo hO hg hE h
  simp only [Option.bind_eq_some_iff, Option.some.injEq] at hc
  obtain ⟨y, h1, rfl⟩ := hc
  simp only [Prim.ev] at h
  split at h
  · cases h
  · rename_i av hns k1
    split at h
    · rename_i xs k2
      split at h
      · rename_i vs k3
        split at h
        · rename_i hq
          obtain ⟨q1, q2⟩ := hq
          simp only [Option.some.injEq, Prod.mk.injEq] at h
          obtain ⟨rfl, rfl⟩ := h
          have hv := cOpd_ok h1 hg hE k1
          have hlf : xs.flatten.length = xs.length := by
            have : ∀ (l : List AV) (ws : List Value), vals l = some ws → l.length = ws.length := by
              intro l
              induction l with
              | nil => intro ws hw; simp only [vals, Option.some.injEq] at hw; subst hw; rfl
              | cons z l ih =>
                intro ws hw
                cases z <;> simp only [vals, reduceCtorEq] at hw
                split at hw
                · rename_i l' hl'; simp only [Option.some.injEq] at hw; subst hw; simp [ih _ hl']
                · cases hw
            rw [this _ _ k3, q1]
          -- the machine's slice
          have key : ∃ ao cap, a.eval x = .slice ao xs.length cap ∧ (ao = none → xs = []) ∧ ∀ ad, ao = some ad → ∃ news : Array Value, (loadCells ad xs.length).run P C.w = .ok news C.w ∧ VRs C xs.flatten news.toList := by
            have one : ∀ k : Nat, (∀ c, c ∈ xs → c.length = k) → xs ≠ [] → k = 1 := by
              intro k hk hne
              have := flat_len hk
              rw [hlf] at this
              have hp : 0 < xs.length := List.length_pos_iff.2 hne
              have h5 : xs.length * 1 = xs.length * k := by omega
              exact (Nat.eq_of_mul_eq_mul_left hp h5).symm
            unfold elems at k2
            split at k2
            · rename_i k ys
              simp only [Option.some.injEq] at k2; subst k2
              simp only [VR] at hv
              obtain ⟨ao, cap, e1, hle, f⟩ := hv
              refine ⟨ao, cap, e1, fun h0 => ?_, fun ad h0 => ?_⟩
              · subst h0
                cases ys with
                | nil => rfl
                | cons c cs => obtain ⟨_, ad, h1, _⟩ := VRrow_get f 0 c rfl; cases h1
              · subst h0
                by_cases hne : ys = []
                · subst hne; exact ⟨#[], by simp [loadCells, loadCellsFrom], by simp [VRs]⟩
                · have hk : ∀ c, c ∈ ys → c.length = k := fun c hc => by
                    obtain ⟨i, hi⟩ := List.getElem?_of_mem hc
                    exact (VRrow_get f i c hi).1
                  have hk1 := one k hk hne
                  subst hk1
                  obtain ⟨news, m1, m2⟩ := run_flat (P := P) (by omega) hk (ad := ad) (fun i c hi j q hj => by
                    obtain ⟨h1, ad', h2, hs, h3⟩ := VRrow_get f i c hi
                    cases h2
                    obtain ⟨v, n1, n2⟩ := VRat_get h3 j q hj
                    rw [Nat.zero_add] at n1
                    exact ⟨v, n1.1, n2⟩)
                  exact ⟨news, by simpa using m1, m2⟩
            · rename_i id gen off ln
              split at k2
              · rename_i k g ys nw hst
                split at k2
                · rename_i hg'
                  subst hg'
                  simp only [Option.some.injEq] at k2; subst k2
                  obtain ⟨b, o, cap, t, n, ad, p1, ⟨p2, pa⟩, p3, p4, p5, p6⟩ := VR_own hv hst
                  have hl : ((ys.drop off).take ln).length = ln := by simp; omega
                  refine ⟨some ad, cap, by rw [hl]; exact p2, (fun h0 => by cases h0), fun ad' h0 => ?_⟩
                  cases h0
                  by_cases hne : (ys.drop off).take ln = []
                  · rw [hne]; exact ⟨#[], by simp [loadCells, loadCellsFrom], by simp [VRs]⟩
                  · have hR := hO.obs id _ b o hst p1
                    obtain ⟨ccs, t', _, hx, _⟩ := hR
                    have hk : ∀ c, c ∈ (ys.drop off).take ln → c.length = k := fun c hc => hx c (List.mem_of_mem_drop (List.mem_of_mem_take hc))
                    have hk1 := one k hk hne
                    subst hk1
                    have h0 : 0 < ln := by
                      rcases Nat.eq_zero_or_pos ln with h0 | h0
                      · subst h0; exact absurd (by simp) hne
                      · exact h0
                    obtain rfl := pa (by omega)
                    obtain ⟨news, m1, m2⟩ := run_flat (P := P) (by omega) hk (ad := ⟨b, o + off * 1, none⟩) (fun i c hi j q hj => by
                      rw [List.getElem?_take] at hi
                      split at hi
                      · rw [List.getElem?_drop] at hi
                        obtain ⟨v, n1, n2⟩ := row_cell (hO.obs id _ b o hst p1) hi hj
                        rw [add_plain]
                        refine ⟨v, ?_, n2⟩
                        rw [show o + off * 1 + (i * 1 + j) = o + (off + i) * 1 + j by omega]
                        exact n1
                      · cases hi)
                    exact ⟨news, by simpa using m1, m2⟩
                · cases k2
              · cases k2
            · simp only [Option.some.injEq] at k2; subst k2
              exact ⟨none, 0, VR_plain hv, fun _ => rfl, (fun ad h0 => by cases h0)⟩
            · exact absurd rfl (hns _)
            · cases k2
          obtain ⟨ao, cap, e1, f1, f2⟩ := key
          have hcv : (Conv.bytesToString (a.eval x)).run P C.w = .ok (.string ⟨(vs.map fun | .int _ n => UInt8.ofNat n.toNat | _ => 0).toArray⟩) C.w := by
            rw [e1]
            cases ao with
            | none =>
              have h0 := f1 rfl
              subst h0
              simp [vals] at k3
              subst k3
              simp [Conv.bytesToString]
              rfl
            | some ad =>
              obtain ⟨news, m1, m2⟩ := f2 ad rfl
              have h6 := vals_cells m2 k3
              simp only [Conv.bytesToString, Sem.run_bind, m1, Result.andThen_ok]
              rw [← Array.forIn_toList, h6]
              rw [run_bytes C.w _ (fun n r => rfl) vs ByteArray.empty q2]
              simp
          refine Does.stay hO (x := .string _) ?_ (VR_v rfl)
          simp only [execOp, hoo, convert, Sem.run_bind, run_underlying hs, run_underlying hd, run_underlying he, Result.andThen_ok]
          rw [e1]
          rw [e1] at hcv
          simp only [run_underlying he, Result.andThen_ok, Sem.run_bind]
          rw [hcv]
          rfl
        · cases h
      · cases h
    · cases h
  · cases h
theorem ps_mk {t el : TypeId} {j : TypeInfo} {z : List AV} {l c : Operand} {own : Bool} {p : Prim} (hu : P.underlying t = some (.slice el)) (hj : P.info? el = some j) (hz : zeroC P el = some z) (hq : 0 < j.size ∧ 0 < j.bytes ∧ z.length = j.size)
    (hx : ∃ l', cOpd l = some l' ∧ ∃ c', cOpd c = some c' ∧ p = .mk own j.size j.bytes z l' c') : PS P G bases (.makeSlice t l c) p := by
  intro C e a oo r st' hoo hO hg hE h
  obtain ⟨q1, q0, q2⟩ := hq
  obtain ⟨l', h1, c', h2, rfl⟩ := hx
  obtain ⟨x, hx, rfl, hok⟩ := zero_run hz
  simp only [Prim.ev] at h
  split at h
  · rename_i n k1
    split at h
    · rename_i m k2
      split at h
      · rename_i hb
        obtain ⟨b1, b2, b3, b4⟩ := hb
        have e1 := VR_plain (cOpd_ok h1 hg hE k1)
        have e2 := VR_plain (cOpd_ok h2 hg hE k2)
        have hv := VR_cells (C := C) (VR_ofVal hok) (ofVal_tuple hok)
        have hvl := VRs_length hv
        simp only [Array.length_toList] at hvl
        obtain ⟨N, rfl⟩ := Int.eq_ofNat_of_zero_le b1
        obtain ⟨M, rfl⟩ := Int.eq_ofNat_of_zero_le (show 0 ≤ m by omega)
        have hMb : M * j.bytes ≤ 140737488355328 := by
          have h3 : ((M * j.bytes : Nat) : Int) ≤ 140737488355328 := by rw [Int.natCast_mul]; exact b3
          omega
        have hM : M ≤ 140737488355328 := Nat.le_trans (Nat.le_mul_of_pos_right _ q0) hMb
        have hNM : N ≤ M := by omega
        have w1 : IntKind.i64.wrap (N : Int) = N := by simp [IntKind.wrap, IntKind.bits, IntKind.signed]; omega
        have w2 : IntKind.i64.wrap (M : Int) = M := by simp [IntKind.wrap, IntKind.bits, IntKind.signed]; omega
        have hzr : (zeroValue el).run P C.w = .ok x C.w := hx C.w
        have hrun : ∃ ccs : Array Value, ccs.size = M * j.size ∧ (∀ i, i < M * j.size → ccs[i]? = x.cells[i % j.size]?) ∧ (execOp a.eval oo).run P C.w = .ok (.value (.slice (some ⟨C.w.heap.size, 0, none⟩) N M)) (C.w.alloc (.cells ccs el)) := by
          have ht : (decide ((M : Int) < 0) || decide ((j.bytes : Int) * (M : Int) > 2 ^ 48)) = false := by
            have h3 : ((j.bytes * M : Nat) : Int) ≤ 140737488355328 := by rw [Nat.mul_comm]; omega
            rw [Int.natCast_mul] at h3
            simp
            omega
          have hcond : ((decide ((M : Int) < 0) || decide ((j.bytes : Int) * (M : Int) > 2 ^ 48)) || decide ((N : Int) < 0) || decide ((N : Int) > (M : Int))) = false := by
            rw [ht]; simp; omega
          by_cases h0 : M * j.size = 0
          · refine ⟨(Array.range (M * j.size)).map (#[][· % (#[] : Array Value).size]!), by simp, fun i hi => by omega, ?_⟩
            simp only [execOp, hoo, e1, e2, Instr.makeSlice, Sem.run_bind, run_underlying hu, Result.andThen_ok, asInt, asIntOf, Sem.run_pure, run_typeInfo C.w hj, w1, w2, run_sizeOf' hj]
            rw [if_neg (by rw [hcond]; decide)]
            simp only [Sem.run_bind, run_askRoom, Result.andThen_ok, run_sizeOf' hj, Int.toNat_natCast]
            rw [if_pos h0]
            simp only [Sem.run_bind, Sem.run_pure, Result.andThen_ok, newRow, run_newObj]
            rfl
          · refine ⟨(Array.range (M * j.size)).map (x.cells[· % x.cells.size]!), by simp, fun i hi => ?_, ?_⟩
            · have h4 : i % j.size < x.cells.size := by rw [← hvl, q2]; exact Nat.mod_lt _ q1
              simp only [Array.getElem?_map, Array.getElem?_range, hi, if_true, Option.map_some]
              rw [show x.cells.size = j.size by omega]
              rw [Array.getElem?_eq_getElem h4, getElem!_pos x.cells _ h4]
            · simp only [execOp, hoo, e1, e2, Instr.makeSlice, Sem.run_bind, run_underlying hu, Result.andThen_ok, asInt, asIntOf, Sem.run_pure, run_typeInfo C.w hj, w1, w2, run_sizeOf' hj]
              rw [if_neg (by rw [hcond]; decide)]
              simp only [Sem.run_bind, run_askRoom, Result.andThen_ok, run_sizeOf' hj, Int.toNat_natCast]
              rw [if_neg h0]
              simp only [Sem.run_bind, Sem.run_pure, Result.andThen_ok, newRow, run_newObj, hzr]
              rfl
        obtain ⟨ccs, m1, m2, m3⟩ := hrun
        have hxs : ∀ c, c ∈ List.replicate N (ofVal x).cells → c.length = j.size := fun c hc => by rw [(List.mem_replicate.1 hc).2, q2]
        have hNMk : N * j.size ≤ M * j.size := Nat.mul_le_mul_right _ hNM
        have hvs : VRs C (List.replicate N (ofVal x).cells).flatten (ccs.toList.take ((List.replicate N (ofVal x).cells).length * j.size)) := by
          rw [List.length_replicate]
          apply VRs_mk
          · rw [flat_len hxs, List.length_replicate, List.length_take, Array.length_toList, m1]; omega
          · intro i q c g1 g2
            obtain ⟨ch, g3, g4⟩ := flat_div q1 hxs g1
            rw [List.getElem?_take] at g2
            split at g2
            · rename_i hi
              rw [Array.getElem?_toList, m2 i (by omega)] at g2
              have g5 : ch = (ofVal x).cells := (List.mem_replicate.1 (List.mem_of_getElem? g3)).2
              subst g5
              obtain ⟨c', g6, g7⟩ := VRs_get hv _ _ g4
              rw [Array.getElem?_toList, g2] at g6
              cases g6
              exact g7
            · cases g2
        split at h
        · simp only [Option.some.injEq, Prod.mk.injEq] at h
          obtain ⟨rfl, rfl⟩ := h
          have := does_row hO hxs (cap := M) (t := el) (a := a) (P := P) (oo := oo) (by simpa using hNM) (by omega) hvs (by rw [List.length_replicate]; exact m3)
          rw [List.length_replicate] at this
          simpa using this
        · simp only [Option.some.injEq, Prod.mk.injEq] at h
          obtain ⟨rfl, rfl⟩ := h
          have := does_sl hO hxs (cap := M) (t := el) (a := a) (P := P) (oo := oo) (by simpa using hNM) hvs (by rw [List.length_replicate]; exact m3)
          simpa using this
      · cases h
    · cases h
  · cases h

/-- All operations. -/
theorem cBuild_ok {t : TypeId} {parts : Array (Nat × Operand)} {p : Prim} (hc : cBuild P t parts = some p) : PS P G bases (.build t parts) p := by
  simp only [cBuild, Option.bind_eq_some_iff] at hc
  obtain ⟨z, hz, hc⟩ := hc
  split at hc
  · rename_i fs hu
    split at hc
    · rename_i hf
      simp only [Option.bind_eq_some_iff, Option.some.injEq] at hc
      obtain ⟨l, hl, rfl⟩ := hc
      exact ps_build hz hu hf hl
    · cases hc
  · rename_i n e hu
    simp only [Option.bind_eq_some_iff, Option.some.injEq] at hc
    obtain ⟨j, hj, l, hl, rfl⟩ := hc
    exact ps_buildA hz hu hj hl
  · cases hc
theorem cBuildSlice_ok {t : TypeId} {len : Nat} {parts : Array (Nat × Operand)} {h p : Prim} (hc : cBuildSlice P t len parts h = some p) : PS P G bases (.buildSlice t len parts) p := by
  unfold cBuildSlice at hc
  split at hc
  · rename_i e hu
    simp only [Option.bind_eq_some_iff] at hc
    obtain ⟨i, hi, l, hl, hc⟩ := hc
    split at hc
    · rename_i hq
      split at hc
      · cases hc
        exact ps_bsl hu hi hl hq
      · cases hc
    · cases hc
  · cases hc
theorem cBin_ok {op : BinOp} {t yt : TypeId} {x y : Operand} {p : Prim} (hc : cBin P op t x y = some p) : PS P G bases (.binOp op t x y yt) p := by
  unfold cBin at hc
  split at hc
  · exact ps_bin hc
  · exact ps_bin hc
  · rename_i hu
    exact ps_binb hu hc
  · rename_i fs hu
    split at hc
    · rename_i hq
      simp only [Option.bind_eq_some_iff] at hc
      obtain ⟨ks, hk, hc⟩ := hc
      unfold cAeq at hc
      split at hc
      · exact ps_aeq hu (by rfl) hk hq hc
      · exact ps_aeq hu (by rfl) hk hq hc
      · cases hc
    · cases hc
  · rename_i e hu
    unfold cNil at hc
    split at hc
    · split at hc
      · exact ps_isnil hu (by rfl) hc
      · exact ps_isnil hu (by rfl) hc
      · cases hc
    · cases hc
  · rename_i e hu
    unfold cNils at hc
    split at hc
    · split at hc
      · exact ps_isnils hu (by rfl) hc
      · exact ps_isnils hu (by rfl) hc
      · cases hc
    · cases hc
  · rename_i n e hu
    split at hc
    · rename_i hq
      simp only [arrKs, Option.bind_eq_some_iff] at hc
      obtain ⟨ks', ⟨i, hi, ks, hk, hs⟩, hc⟩ := hc
      split at hs
      · rename_i hz
        simp only [Option.some.injEq] at hs; subst hs
        unfold cAeq at hc
        split at hc
        · exact ps_aeqa hu hi hz (by rfl) hk hq hc
        · exact ps_aeqa hu hi hz (by rfl) hk hq hc
        · cases hc
      · cases hs
    · cases hc
  · cases hc
theorem isU8_ok {e : TypeId} (h : isU8 P e = true) : P.underlying e = some (.int .u8) := by
  unfold isU8 at h
  split at h
  · assumption
  · cases h
theorem cConv_ok {s d : TypeId} {x : Operand} {p : Prim} (hc : cConv P s d x = some p) : PS P G bases (.convert s d x) p := by
  unfold cConv at hc
  split at hc
  · rename_i k hs
    split at hc
    · rename_i k' hd
      exact ps_i2i hs hd hc
    · rename_i hd
      exact ps_i2t hs hd hc
    · cases hc
  · rename_i hs
    split at hc
    · rename_i hd
      exact ps_s2s hs hd hc
    · rename_i e hd
      split at hc
      · rename_i he
        exact ps_s2b hs hd (isU8_ok he) hc
      · cases hc
    · cases hc
  · rename_i e hs
    split at hc
    · rename_i hd
      split at hc
      · rename_i he
        exact ps_b2s hs hd (isU8_ok he) hc
      · cases hc
    · cases hc
  · cases hc
theorem cField_ok {t : TypeId} {x : Operand} {i : Nat} {p : Prim} (hc : cField P t x i = some p) : PS P G bases (.field t x i) p := by
  unfold cField at hc
  split at hc
  · rename_i fs hu
    simp only [Option.bind_eq_some_iff] at hc
    obtain ⟨f, hf, n, hn, hc⟩ := hc
    exact ps_fld hu hf hn hc
  · cases hc
theorem cIndex_ok {t : TypeId} {x i : Operand} {p : Prim} (hc : cIndex P t x i = some p) : PS P G bases (.index t x i) p := by
  unfold cIndex at hc
  split at hc
  · rename_i hu
    exact ps_idxs hu hc
  · rename_i n e hu
    simp only [Option.bind_eq_some_iff] at hc
    obtain ⟨j, hj, n, hn, hc⟩ := hc
    exact ps_idxa hu hj hn hc
  · cases hc
theorem cFA_ok {t : TypeId} {x : Operand} {i : Nat} {p : Prim} (hc : cFA P t x i = some p) : PS P G bases (.fieldAddr t x i) p := by
  unfold cFA at hc
  split at hc
  · rename_i fs hu
    simp only [Option.bind_eq_some_iff] at hc
    obtain ⟨f, hf, j, hj, hc⟩ := hc
    split at hc
    · rename_i h0
      exact ps_fa hu hf hj h0 hc
    · cases hc
  · cases hc
theorem cIA_ok {t : TypeId} {x i : Operand} {p : Prim} (hc : cIA P t x i = some p) : PS P G bases (.indexAddr t x i) p := by
  unfold cIA at hc
  split at hc
  · rename_i n e hu
    simp only [Option.bind_eq_some_iff] at hc
    obtain ⟨j, hj, hc⟩ := hc
    exact ps_iap hu hj hc
  · rename_i e hu
    simp only [Option.bind_eq_some_iff] at hc
    obtain ⟨j, hj, hc⟩ := hc
    exact ps_ias hu hj hc
  · cases hc
theorem cSlice_ok {t : TypeId} {x : Operand} {lo hi : Option Operand} {p : Prim} (hc : cSlice P t x lo hi = some p) : PS P G bases (.slice t x lo hi none) p := by
  unfold cSlice at hc
  split at hc
  · rename_i hu
    exact ps_sls hu hc
  · rename_i e hu
    rw [Option.bind_eq_some_iff] at hc
    obtain ⟨j, hj, hc⟩ := hc
    exact ps_slx hu hj hc
  · cases hc
theorem cMkf_ok {f : Fn} {first caps : Array Operand} {p : Prim} (hc : cMkf f first caps = some p) : PS P G bases (.makeFunc f first caps) p := by
  unfold cMkf at hc
  split at hc
  · split at hc
    · rename_i hq
      subst hq
      exact ps_mkf hc
    · cases hc
  · cases hc
theorem cMakeSlice_ok {t : TypeId} {l c : Operand} {h p : Prim} (hc : cMakeSlice P t l c h = some p) : PS P G bases (.makeSlice t l c) p := by
  unfold cMakeSlice at hc
  split at hc
  · rename_i e hu
    simp only [Option.bind_eq_some_iff] at hc
    obtain ⟨j, hj, z, hz, l', hl, c', hc', hc⟩ := hc
    split at hc
    · rename_i hq
      split at hc
      · cases hc
        exact ps_mk hu hj hz hq ⟨l', hl, c', hc', rfl⟩
      · cases hc
    · cases hc
  · cases hc
theorem cRange_ok {t : TypeId} {x : Operand} {p : Prim} (hc : cRange P t x = some p) : PS P G bases (.range t x) p := by
  unfold cRange at hc
  split at hc
  · rename_i hu
    exact ps_rng hu hc
  · cases hc
theorem cCallB_ok {c : Call} {p : Prim} (hc : cCallB P c = some p) : PS P G bases (.call c) p := by
  obtain ⟨ca, ⟨xs⟩, ⟨ts⟩⟩ := c
  unfold cCallB at hc
  simp only at hc
  split at hc
  · unfold cBuiltin at hc
    split at hc
    · unfold cLen at hc
      split at hc
      · rename_i x t e1 e2
        simp only at e1 e2
        subst e1; subst e2
        split at hc
        · rename_i hu
          exact ps_lens hu hc
        · rename_i e hu
          exact ps_len hu hc
        · cases hc
      · cases hc
    · unfold cApp at hc
      split at hc
      · rename_i x y t u e1 e2
        simp only at e1 e2
        subst e1; subst e2
        split at hc
        · rename_i e hu
          rw [Option.bind_eq_some_iff] at hc
          obtain ⟨j, hj, hc⟩ := hc
          split at hc
          · rename_i hq
            obtain ⟨q1, q2⟩ := hq
            refine ps_app hu hj ?_ q1 ?_
            · unfold isApp at q2
              split at q2
              · rename_i q h
                exact .inl ⟨q, h⟩
              · rename_i h
                exact .inr h
              · cases q2
            · simp only [cB, Option.bind_eq_some_iff, Option.some.injEq] at hc
              obtain ⟨x', k1, y', k2, rfl⟩ := hc
              exact ⟨x', k1, y', k2, rfl⟩
          · cases hc
        · cases hc
      · cases hc
    · exact ps_mn hc
    · exact ps_mx hc
    · cases hc
  · cases hc
theorem cPrim_ok {o : Op} {h p : Prim} (hc : cPrim P o h = some p) : PS P G bases o p := by
  cases o <;> simp only [cPrim] at hc
  case move x => exact ps_move (.inl rfl) hc
  case assign x => exact ps_move (.inr rfl) hc
  case pick c a b => exact ps_pick hc
  case alloc t => exact ps_alloc hc
  case box t x => exact ps_box hc
  case build t ps => exact cBuild_ok hc
  case buildSlice t n ps => exact cBuildSlice_ok hc
  case load t x =>
    rw [Option.bind_eq_some_iff] at hc
    obtain ⟨n, hn, hc⟩ := hc
    exact ps_load hn hc
  case store t x y =>
    rw [Option.bind_eq_some_iff] at hc
    obtain ⟨n, hn, hc⟩ := hc
    exact ps_store hn hc
  case nilCheck x => exact ps_nilck hc
  case binOp op t x y u => exact cBin_ok hc
  case unOp op t x => exact ps_un hc
  case convert s d x => exact cConv_ok hc
  case extract x i => exact ps_ext hc
  case field t x i => exact cField_ok hc
  case index t x i => exact cIndex_ok hc
  case fieldAddr t x i => exact cFA_ok hc
  case indexAddr t x i => exact cIA_ok hc
  case slice t x lo hi mx =>
    split at hc
    · rename_i hm
      cases mx with
      | none => exact cSlice_ok hc
      | some m => cases hm
    · cases hc
  case makeFunc f a b => exact cMkf_ok hc
  case makeSlice t l c => exact cMakeSlice_ok hc
  case range t x => exact cRange_ok hc
  case next x s =>
    split at hc
    · rename_i hs
      subst hs
      exact ps_nxt hc
    · cases hc
  case call c => exact cCallB_ok hc
  all_goals cases hc
end
end Go.Proofs.YtgehbkdpodnajaaDoor.Ev
