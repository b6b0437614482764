import Derived.Test.YtoobogpbejdocaaGreatDoorEvCopy
import Derived.Test.YtoobogpbejdocaaGreatDoorProg
set_option linter.unusedVariables false
set_option linter.unusedSectionVars false
set_option linter.unusedSimpArgs false
namespace Go.Proofs.YtoobogpbejdocaaGreatDoor.EvDelS
open Go.RowKit Go.Lib Go.Proofs.YtoobogpbejdocaaGreatDoor.Ev
theorem u0 : Tryz.prog.underlying 44 = some (.slice 94) := Tryz.underlying44
theorem i0 : ∃ i z, Tryz.prog.info? 94 = some i ∧ i.zero = some z ∧ i.size = 9 ∧ z.cells.size = 9 ∧ z.cells.toList.all Value.oneCell' = true := by
  have h : ((Tryz.prog.info? 94).bind fun i => i.zero.map fun z => (i.size, z.cells.size, z.cells.toList.all Value.oneCell')) = some (9, 9, true) := by kernel_rfl
  cases h1 : Tryz.prog.info? 94 with
  | none => rw [h1] at h; cases h
  | some i =>
    rw [h1] at h
    cases h2 : i.zero with
    | none => simp [h2] at h
    | some z =>
      simp only [Option.bind_some, h2, Option.map_some, Option.some.injEq, Prod.mk.injEq] at h
      exact ⟨i, z, rfl, h2, h.1, h.2.1, h.2.2⟩
set_option maxHeartbeats 4000000 in
set_option maxRecDepth 100000 in
theorem cut (b off n c i j : Nat) (cs : List Value) (w : World) (hij : i < j) (hj : j ≤ n) (hnc : n ≤ c) (hn63 : n ≤ 140737488355328) (hcl : cs.length = n * 9)
    (hcs : ∀ t v, cs[t]? = some v → w.cell? ⟨b, off + t, none⟩ = some v) (hfz : ∀ t, w.frozen? ⟨b, t, none⟩ = false) (h1c : ∀ v ∈ cs, v.oneCell' = true) :
    Calls Tryz.prog 152 #[.slice (some ⟨b, off, none⟩) n c, .int .i64 i, .int .i64 j] w fun e w' =>
      e = .returned (.slice (some ⟨b, off, none⟩) (i + (n - j)) c) ∧ ∃ zs : List Value, zs.length = (n - (i + (n - j))) * 9 ∧ w' = (w.drew.setCells b (off + i * 9) (cs.drop (j * 9))).setCells b (off + (i + (n - j)) * 9) zs := by
  have mixed : Tryz.prog.follows .mixedOrders = true := by kernel_rfl
  obtain ⟨i0, z0, hi0, hz0, hzs, hzc, h1z⟩ := i0
  obtain ⟨news, hnews⟩ : ∃ news, news = cs.drop (j * 9) := ⟨_, rfl⟩
  have hlen : news.length = (n - j) * 9 := by rw [hnews, List.length_drop, hcl]; omega
  obtain ⟨A, hA, hsrc⟩ : ∃ A : Addr, (if c = j then (some ⟨b, off, none⟩ : Option Addr) else some ⟨b, off + j * 9, none⟩) = some A ∧ Hid (∀ t u, news[t]? = some u → w.drew.cell? (A.add t) = some u) := by
    by_cases h : c = j
    · refine ⟨⟨b, off, none⟩, by simp [h], fun t u hu => ?_⟩
      have h0 : news.length = 0 := by rw [hlen]; omega
      rw [List.length_eq_zero_iff.1 h0] at hu
      simp at hu
    · refine ⟨⟨b, off + j * 9, none⟩, by simp [h], fun t u hu => ?_⟩
      rw [hnews, List.getElem?_drop] at hu
      rw [Addr.add_lit, Nat.add_assoc]
      exact hcs _ _ hu
  have s1 : Hid (news.length = (n - j) * 9) := hlen
  have s2 : Hid (∀ u ∈ news, u.oneCell' = true) := fun u hu => h1c u (by rw [hnews] at hu; exact List.mem_of_mem_drop hu)
  have hsp : ∀ t, t < n * 9 → (w.cell? ⟨b, off + t, none⟩).isSome = true := fun t ht => by rw [hcs t _ (List.getElem?_eq_getElem (by omega))]; rfl
  have s3 : Hid (∀ t, t < news.length → (w.drew.cell? ⟨b, off + i * 9 + t, none⟩).isSome = true ∧ w.drew.frozen? ⟨b, off + i * 9 + t, none⟩ = false) := fun t ht => ⟨by rw [Nat.add_assoc]; exact hsp _ (by omega), hfz _⟩
  obtain ⟨W1, hW1⟩ : ∃ W1, W1 = w.drew.setCells b (off + i * 9) news := ⟨_, rfl⟩
  have hsp1 : ∀ t, t < n * 9 → (W1.cell? ⟨b, off + t, none⟩).isSome = true := fun t ht => by
    rw [hW1]
    exact isSome_setCells b _ _ _ (fun t ht => (s3.out t ht).1) _ (hsp t ht)
  have hfz1 : ∀ t, W1.frozen? ⟨b, t, none⟩ = false := fun t => by rw [hW1, World.frozen?_setCells]; exact hfz _
  obtain ⟨zs, hzl, hcr⟩ := run_clear_k (P := Tryz.prog) W1 44 94 z0 9 u0 (fun w => by simp [Go.zeroValue, run_typeInfo _ hi0, hz0]) hzc (fun v hv => List.all_eq_true.1 h1z v hv) b (off + (i + (n - j)) * 9) (n - (i + (n - j))) (by omega)
    (fun t ht => by rw [Nat.add_assoc]; exact hsp1 _ (by omega)) (fun t ht => hfz1 _)
  have hclr : ∀ ty, (Builtin.clear_ #[44] ty #[.slice (some ⟨b, off + (i + (n - j)) * 9, none⟩) (n - (i + (n - j))) (c - (i + (n - j)))]).run Tryz.prog W1 = .ok (.tuple #[]) (W1.setCells b (off + (i + (n - j)) * 9) zs) := fun ty => hcr ty _
  have hW : Hid (W1 = w.drew.setCells b (off + i * 9) news) := hW1
  have hN : Hid (news = cs.drop (j * 9)) := hnews
  have hic : i ≤ c := by omega
  have hjc : j ≤ c := by omega
  clear hW1 hnews hlen hsp hsp1 hfz1 hcr hcs hfz h1c h1z
  go_enter Tryz.func152, Tryz.ntmps152
  go_wp2_with fail
  go_region_law_o (refine step_append_room rfl (.tmp 22) (.tmp 25) 44 rfl 94 i0 9 u0 hi0 hzs b off i c (by simp [Act.eval, Act.put]) A (n - j) (c - j) news (by simp [Act.eval, Act.put]) s1.out hsrc.out s2.out (by omega) s3.out ?_; rw [← hW.out])
  go_wp2
  go_ret
  exact ⟨rfl, zs, hzl, by rw [← hN.out, ← hW.out]⟩
set_option maxHeartbeats 1000000 in
theorem ok (xs : List AV) (C : Ctx) (r : AV) (st' : Store) (cargs : List Value) (h : pDelete 9 xs C.st = some (r, st')) (hO : C.OK) (hv : VRt C xs cargs) : CallsF Tryz.prog 152 cargs C.w (Rets C r st') := by
  refine ⟨Tryz.call152, ?_⟩
  unfold pDelete at h
  split at h
  · rename_i id gen off ln i j
    simp only [VRt] at hv
    obtain ⟨cs0, _, rfl, hs, ci, _, rfl, hi, cj, _, rfl, hj, rfl⟩ := hv
    have ei := VR_plain hi
    subst ei
    have ej := VR_plain hj
    subst ej
    split at h
    · rename_i k' g xs nw hst
      split at h
      · rename_i hq
        obtain ⟨rfl, rfl, b1, rfl, b3, b4, b5, b6⟩ := hq
        simp only [Option.some.injEq, Prod.mk.injEq] at h
        obtain ⟨rfl, rfl⟩ := h
        obtain ⟨i, rfl⟩ : ∃ n : Nat, i = n := ⟨i.toNat, by omega⟩
        obtain ⟨j, rfl⟩ : ∃ n : Nat, j = n := ⟨j.toNat, by omega⟩
        have hij : i < j := by omega
        have hjl : j ≤ ln := by omega
        obtain ⟨b, o, cap, t', n, ad, p1, ⟨rfl, pa⟩, p3, p4, p5, p6⟩ := VR_own hs hst
        obtain ⟨bb, o', hB, ccs, t'', ⟨fr, f1, ff⟩, f2, f3, f4⟩ := hO.get hst
        obtain rfl : fr = (0, 0) := by
          rcases ff with ff | ⟨ff, _⟩
          · exact ff
          · cases ff
        rw [p1] at hB; injection hB with hB; injection hB with e1 e2; subst e1; subst e2
        have hn : n = ccs.size ∧ t' = t'' := by
          unfold World.shape? at p4; rw [f1] at p4; simp at p4; exact ⟨p4.2.symm, p4.1.symm⟩
        obtain ⟨rfl, rfl⟩ := hn
        simp only [Int.toNat_natCast]
        have hold : ((xs.drop off).take ln).length = ln := by simp; omega
        have hxs' : ∀ c, c ∈ (xs.drop off).take ln → c.length = 9 := fun c hc => f2 c (List.mem_of_mem_drop (List.mem_of_mem_take hc))
        obtain rfl := pa (by omega)
        have hmul : (off + ln) * 9 ≤ xs.length * 9 := Nat.mul_le_mul_right _ b1
        have hseg : VRs C ((xs.drop off).take ln).flatten ((ccs.toList.drop (o + off * 9)).take (ln * 9)) := by
          rw [seg_flat f2]
          have := VRs_take (VRs_drop f4 (off * 9)) (ln * 9)
          rw [List.drop_take, List.drop_drop, List.take_take] at this
          rw [Nat.min_eq_left (by omega)] at this
          exact this
        obtain ⟨cs, hcs⟩ : ∃ cs, cs = (ccs.toList.drop (o + off * 9)).take (ln * 9) := ⟨_, rfl⟩
        rw [← hcs] at hseg
        have hcl : cs.length = ln * 9 := by rw [hcs]; simp; omega
        have hcc : ∀ j v, cs[j]? = some v → C.w.cell? ⟨b, o + off * 9 + j, none⟩ = some v := fun j v hj => by
          rw [hcs, List.getElem?_take] at hj
          split at hj
          · rw [List.getElem?_drop, Array.getElem?_toList] at hj
            rw [cell_of f1]; exact hj
          · cases hj
        have hbs : VRs C (((xs.drop off).take ln).take i ++ ((xs.drop off).take ln).drop j).flatten (cs.take (i * 9) ++ cs.drop (j * 9)) := by
          rw [List.flatten_append, flat_take hxs', flat_drop hxs']
          exact VRs_append (VRs_take hseg _) (VRs_drop hseg _)
        have hnl : (((xs.drop off).take ln).take i ++ ((xs.drop off).take ln).drop j).length = i + (ln - j) := by
          simp only [List.length_append, List.length_take, List.length_drop]; omega
        have hnk : ∀ c, c ∈ ((xs.drop off).take ln).take i ++ ((xs.drop off).take ln).drop j → c.length = 9 := fun c hc => by
          rcases List.mem_append.1 hc with hc | hc
          · exact hxs' c (List.mem_of_mem_take hc)
          · exact hxs' c (List.mem_of_mem_drop hc)
        have hdl : (cs.drop (j * 9)).length = ln * 9 - j * 9 := by rw [List.length_drop, hcl]
        have htl : (cs.take (i * 9)).length = i * 9 := by rw [List.length_take, hcl]; omega
        have hS := cut b (o + off * 9) ln cap i j cs C.w hij hjl p3 (by omega) hcl hcc (fun j => frozen_of f1 j) (VRs_one hseg)
        refine hS.mono ?_
        rintro e w' ⟨rfl, zs, hzl, rfl⟩
        have hcapk : (off + ln) * 9 ≤ (off + cap) * 9 := Nat.mul_le_mul_right _ (by omega)
        obtain ⟨c1, u1, r1⟩ := upd_setCells (cs.drop (j * 9)) C.w.drew ccs t' b (o + off * 9 + i * 9) f1 (by omega)
        have hc1 : c1.size = ccs.size := by
          rw [← Array.length_toList, r1]; simp only [List.length_append, List.length_take, List.length_drop, Array.length_toList, hcl]; omega
        obtain ⟨c2, u2, r2⟩ := upd_setCells zs _ c1 t' b (o + off * 9 + (i + (ln - j)) * 9) u1.at_ (by omega)
        have hc2 : c2.size = ccs.size := by
          rw [← Array.length_toList, r2]; simp only [List.length_append, List.length_take, List.length_drop, Array.length_toList, hzl]; omega
        have U : Upd C.w ((C.w.drew.setCells b (o + off * 9 + i * 9) (cs.drop (j * 9))).setCells b (o + off * 9 + (i + (ln - j)) * 9) zs) b (.cells c2 t' (0, 0)) :=
          ⟨u2.os.trans u1.os, u2.tape.trans u1.tape, u2.out.trans u1.out, u2.size.trans u1.size, fun k hk => (u2.other k hk).trans (u1.other k hk), u2.at_⟩
        have s3 : (ccs.toList.drop (o + off * 9)).take (i * 9) = cs.take (i * 9) := by rw [hcs, List.take_take, Nat.min_eq_left (by omega)]
        have q1 : (c2.toList.drop (o + off * 9)).take ((i + (ln - j)) * 9) = (c1.toList.drop (o + off * 9)).take ((i + (ln - j)) * 9) := by
          rw [r2, List.append_assoc, List.drop_append_of_le_length (by simp; omega), List.drop_take, show o + off * 9 + (i + (ln - j)) * 9 - (o + off * 9) = (i + (ln - j)) * 9 by omega,
            List.take_append_of_le_length (by simp; omega), List.take_take, Nat.min_self]
        have q2 : (c1.toList.drop (o + off * 9)).take ((i + (ln - j)) * 9) = cs.take (i * 9) ++ cs.drop (j * 9) := by
          rw [r1, List.append_assoc, List.drop_append_of_le_length (by simp; omega), List.drop_take, show o + off * 9 + i * 9 - (o + off * 9) = i * 9 by omega, s3, ← List.append_assoc,
            List.take_append_of_le_length (by simp only [List.length_append, htl, hdl]; omega), List.take_of_length_le (by simp only [List.length_append, htl, hdl]; omega)]
        have := rets_row hO hst p1 (w' := (C.w.drew.setCells b (o + off * 9 + i * 9) (cs.drop (j * 9))).setCells b (o + off * 9 + (i + (ln - j)) * 9) zs) (b' := b) (o' := o + off * 9) (ccs' := c2) (t' := t') (cap := cap) (.inl ⟨rfl, U, by rw [hc2]; exact p4⟩) hnk (by rw [hnl]; omega) (by rw [hc2]; omega) (by
          rw [hnl, q1, q2]
          exact hbs)
        rw [hnl] at this
        exact this
      · cases h
    · cases h
  · cases h
end Go.Proofs.YtoobogpbejdocaaGreatDoor.EvDelS
