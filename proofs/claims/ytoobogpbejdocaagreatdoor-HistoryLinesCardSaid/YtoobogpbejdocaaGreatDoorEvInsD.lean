import Derived.Test.YtoobogpbejdocaaGreatDoorEvCopy
import Derived.Test.YtoobogpbejdocaaGreatDoorProg
set_option linter.unusedVariables false
set_option linter.unusedSectionVars false
set_option linter.unusedSimpArgs false
namespace Go.Proofs.YtoobogpbejdocaaGreatDoor.EvInsD
open Go.RowKit Go.Lib Go.Proofs.YtoobogpbejdocaaGreatDoor.Ev
theorem u0 : Tryz.prog.underlying 43 = some (.slice 37) := Tryz.underlying43
theorem hsz : (Tryz.prog.info? 37).map (·.size) = some 3 := by kernel_rfl
theorem hz (w : World) : (Go.sizeOf 37).run Tryz.prog w = .ok 3 w := by
  cases hq : Tryz.prog.info? 37 with
  | none => have := hsz; rw [hq] at this; cases this
  | some i => have := hsz; rw [hq] at this; simp at this; simp [Go.sizeOf, run_typeInfo _ hq, this]
set_option maxHeartbeats 4000000 in
set_option maxRecDepth 100000 in
theorem shift (b off n c i vb voff m vc : Nat) (cs vs : List Value) (w : World) (hi : i < n) (hm : 0 < m) (hroom : n + m ≤ c) (hc63 : n + m ≤ 9223372036854775807) (hvb : vb ≠ b)
    (hcl : cs.length = n * 3) (hvl : vs.length = m * 3)
    (hcs : ∀ j v, cs[j]? = some v → w.cell? ⟨b, off + j, none⟩ = some v) (hsp : ∀ j, j < (n + m) * 3 → (w.cell? ⟨b, off + j, none⟩).isSome = true) (hfz : ∀ j, w.frozen? ⟨b, j, none⟩ = false)
    (hvs : ∀ j v, vs[j]? = some v → w.cell? ⟨vb, voff + j, none⟩ = some v) (h1c : ∀ v ∈ cs, v.oneCell' = true) (h1v : ∀ v ∈ vs, v.oneCell' = true)
    (hov : ∀ lb cb, (callFunc 180 #[.slice (some ⟨vb, voff, none⟩) m vc, .slice (some ⟨b, off + (i + m) * 3, none⟩) lb cb]).run Tryz.prog w = .ok (.value (.bool false)) w) :
    Calls Tryz.prog 148 #[.slice (some ⟨b, off, none⟩) n c, .int .i64 i, .slice (some ⟨vb, voff, none⟩) m vc] w fun e w' =>
      e = .returned (.slice (some ⟨b, off, none⟩) (n + m) c) ∧ w' = (w.drew.setCells b (off + (i + m) * 3) (cs.drop (i * 3))).setCells b (off + i * 3) vs := by
  have mixed : Tryz.prog.follows .mixedOrders = true := by kernel_rfl
  have hz1 : ¬ ((m : Int) = 0) := by omega
  have hz2 : ¬ ((i : Int) = (n : Int)) := by omega
  have hdl : (cs.drop (i * 3)).length = n * 3 - i * 3 := by rw [List.length_drop, hcl]
  have hw1 : IntKind.i64.wrap ((i : Int) + (m : Int)) = (i : Int) + (m : Int) := by rw [IntKind.wrap_i64]; omega
  have hb1 : (0 : Int) ≤ (i : Int) + (m : Int) := by omega
  have hin : i ≤ n := by omega
  have htn : ((i : Int) + (m : Int)).toNat = i + m := by omega
  have hb2 : ¬ (c = i + m) := by omega
  have hb3 : (i : Int) ≤ (n : Int) + (m : Int) := by omega
  have hb4 : ¬ (c = i) := by omega
  have hcp1 : ∀ ty dc sc, (Builtin.copy_ #[43, 43] ty #[.slice (some ⟨b, off + (i + m) * 3, none⟩) (n + m - (i + m)) dc, .slice (some ⟨b, off + i * 3, none⟩) (n + m - i) sc]).run Tryz.prog w.drew = .ok (goInt ((n - i : Nat) : Int)) (w.drew.setCells b (off + (i + m) * 3) (cs.drop (i * 3))) := fun ty dc sc => by
    have := run_copy_k (P := Tryz.prog) w.drew 43 43 ty 37 b (off + (i + m) * 3) (n + m - (i + m)) dc ⟨b, off + i * 3, none⟩ (n + m - i) sc 3 (cs.drop (i * 3)) u0 hsz (by rw [hdl]; simp only [Nat.min_def]; split <;> omega)
      (fun j v hj => by rw [Addr.add_lit, Nat.add_assoc]; exact hcs (i * 3 + j) v (by rwa [List.getElem?_drop] at hj))
      (fun j hj => by rw [Nat.add_assoc]; exact hsp _ (by omega)) (fun j hj => hfz _) (fun v hv => h1c v (List.mem_of_mem_drop hv))
    rwa [show Nat.min (n + m - i) (n + m - (i + m)) = n - i from by simp only [Nat.min_def]; split <;> omega] at this
  obtain ⟨W1, hW1⟩ : ∃ W1, W1 = w.drew.setCells b (off + (i + m) * 3) (cs.drop (i * 3)) := ⟨_, rfl⟩
  have hsp1 : ∀ k, k < (n + m) * 3 → (W1.cell? ⟨b, off + k, none⟩).isSome = true := fun k hk => by
    rw [hW1]
    exact isSome_setCells b _ _ _ (fun j hj => by rw [Nat.add_assoc]; exact hsp _ (by omega)) _ (hsp k hk)
  have hcp2 : ∀ (W : World), (∀ x, W.cell? x = W1.cell? x) → (∀ x, W.frozen? x = W1.frozen? x) → ∀ ty dc, (Builtin.copy_ #[43, 43] ty #[.slice (some ⟨b, off + i * 3, none⟩) (n + m - i) dc, .slice (some ⟨vb, voff, none⟩) m vc]).run Tryz.prog W = .ok (goInt m) (W.setCells b (off + i * 3) vs) := fun W hWc hWf ty dc => by
    have := run_copy_k (P := Tryz.prog) W 43 43 ty 37 b (off + i * 3) (n + m - i) dc ⟨vb, voff, none⟩ m vc 3 vs u0 hsz (by rw [hvl]; simp only [Nat.min_def]; split <;> omega)
      (fun j v hj => by
        rw [Addr.add_lit, hWc, hW1, World.cell?_setCells_out b _ _ _ _ (fun h _ => absurd h hvb)]
        exact hvs j v hj)
      (fun j hj => by rw [hWc, Nat.add_assoc]; exact hsp1 _ (by omega)) (fun j hj => by rw [hWf, hW1, World.frozen?_setCells]; exact hfz _) h1v
    rwa [show Nat.min m (n + m - i) = m from by simp only [Nat.min_def]; split <;> omega] at this
  rw [← hW1] at hcp1
  go_enter Tryz.func148, Tryz.ntmps148
  go_wp2_with (simp only [hov])
  go_region_law_o (refine step_copy_runI rfl _ _ 43 43 rfl _ _ (by simp [Act.eval, Act.put]) (by simp [Act.eval, Act.put]) (hcp1 _ _ _) ?_)
  go_wp2_with (at_builtin; refine wpList_copy_runI _ rfl _ _ 43 43 rfl _ _ rfl rfl (hcp2 _ (fun _ => rfl) (fun _ => rfl) _ _) ?_)
  go_ret
  first | exact ⟨rfl, rfl⟩ | exact ⟨rfl, by rw [hW1]⟩
theorem i0 : ∃ i z, Tryz.prog.info? 37 = some i ∧ i.zero = some z ∧ i.size = 3 ∧ i.bytes = 48 ∧ z.cells.size = 3 := by
  have h : ((Tryz.prog.info? 37).bind fun i => i.zero.map fun z => (i.size, i.bytes, z.cells.size)) = some (3, 48, 3) := by kernel_rfl
  cases h1 : Tryz.prog.info? 37 with
  | none => rw [h1] at h; cases h
  | some i =>
    rw [h1] at h
    cases h2 : i.zero with
    | none => simp [h2] at h
    | some z =>
      simp [h2] at h
      exact ⟨i, z, rfl, h2, h.1, h.2.1, h.2.2⟩
set_option maxHeartbeats 4000000 in
set_option maxRecDepth 100000 in
theorem grow (b off n c i vb voff m vc : Nat) (cs vs : List Value) (w : World) (hi : i < n) (hm : 0 < m) (hnc : n ≤ c) (hroom : c < n + m) (hbig : (n + m) * 48 ≤ 140737488355328)
    (hcl : cs.length = n * 3) (hvl : vs.length = m * 3)
    (hcs : ∀ j v, cs[j]? = some v → w.cell? ⟨b, off + j, none⟩ = some v)
    (hvs : ∀ j v, vs[j]? = some v → w.cell? ⟨vb, voff + j, none⟩ = some v) (h1c : ∀ v ∈ cs, v.oneCell' = true) (h1v : ∀ v ∈ vs, v.oneCell' = true) :
    Calls Tryz.prog 148 #[.slice (some ⟨b, off, none⟩) n c, .int .i64 i, .slice (some ⟨vb, voff, none⟩) m vc] w fun e w' =>
      ∃ (G : Nat) (ROW : Array Value), n + m ≤ G ∧ ROW.size = G * 3 ∧ ROW.toList.take (i * 3) = cs.take (i * 3) ∧ e = .returned (.slice (some ⟨w.heap.size, 0, none⟩) (n + m) G) ∧
      w' = (((w.alloc (.cells ROW 37)).drew.setCells w.heap.size (i * 3) vs).drew).setCells w.heap.size ((i + m) * 3) (cs.drop (i * 3)) := by
  have mixed : Tryz.prog.follows .mixedOrders = true := by kernel_rfl
  have t3 : Tryz.prog.underlying 3 = some (.int .i64) := Tryz.underlying3
  obtain ⟨i0, z0, hi0, hz0, hzs, hzb, hzc⟩ := i0
  have hz1 : ¬ ((m : Int) = 0) := by omega
  have hz2 : ¬ ((i : Int) = (n : Int)) := by omega
  have hz3 : (c : Int) < (n : Int) + (m : Int) := by omega
  have hbw : b < w.heap.size := block_lt_of_cell (hcs 0 _ (List.getElem?_eq_getElem (by omega)))
  have hvw : vb < w.heap.size := block_lt_of_cell (hvs 0 _ (List.getElem?_eq_getElem (by omega)))
  have hkk : (n : Int) + (m : Int) - (i : Int) = ((n + m - i : Nat) : Int) := by omega
  have hik : i + (n + m - i) = n + m := by omega
  have hold : (Builtin.firstCells i0.size i (.slice (some ⟨b, off, none⟩) i c)).run Tryz.prog w.drew = .ok (cs.take (i * 3)).toArray w.drew := by
    rw [hzs]
    exact run_firstCells_some w.drew 3 i ⟨b, off, none⟩ i c (cs.take (i * 3)) (by rw [List.length_take]; omega) (fun j v hj => by
      rw [Addr.add_lit]
      rw [List.getElem?_take] at hj
      split at hj
      · exact hcs j v hj
      · cases hj)
  have hrz : ∀ ty, (Builtin.append_ #[43, 3] ty #[.slice (some ⟨b, off, none⟩) i c, .int .i64 ((n : Int) + (m : Int) - (i : Int))]).run Tryz.prog w =
      .ok (.slice (some ⟨w.heap.size, 0, none⟩) (n + m) (grownCap w (n + m) c 37)) (w.drew.alloc (.cells ((cs.take (i * 3)).toArray ++ Builtin.zeroCells z0.cells (n + m - i) ++ Builtin.zeroCells z0.cells (grownCap w (n + m) c 37 - (n + m))) 37)) := fun ty => by
    have h := Lib.run_append_grow_zeros w 43 3 ty 37 i0 _ .i64 .i64 u0 t3 hi0 hz0 (some ⟨b, off, none⟩) i c (cs.take (i * 3)) hold (n + m - i) (by omega) (by omega) (by omega) (by omega) (by rw [hzb]; omega) (by rw [hzb, hik]; exact growslice_fits hroom hbig)
    rw [hik] at h
    rw [hkk]
    exact h
  obtain ⟨G, hG⟩ : ∃ G, G = grownCap w (n + m) c 37 := ⟨_, rfl⟩
  obtain ⟨ROW, hROW⟩ : ∃ ROW : Array Value, ROW = (cs.take (i * 3)).toArray ++ Builtin.zeroCells z0.cells (n + m - i) ++ Builtin.zeroCells z0.cells (G - (n + m)) := ⟨_, rfl⟩
  rw [← hG] at hrz
  rw [← hROW] at hrz
  have hGn : n + m ≤ G := by rw [hG]; exact grownCap_ge w _ _ _
  have hRs : ROW.size = G * 3 := by
    rw [hROW]
    simp [Builtin.zeroCells, hzc]
    omega
  have hRl : (n + m) * 3 ≤ ROW.size := by rw [hRs]; exact Nat.mul_le_mul_right _ hGn
  have hRt : ROW.toList.take (i * 3) = cs.take (i * 3) := by
    rw [hROW, Array.toList_append, Array.toList_append, List.append_assoc, List.take_append_of_le_length (by simp; omega)]
    simp only [List.take_take, Nat.min_self]
  obtain ⟨W1, hW1⟩ : ∃ W1, W1 = w.drew.alloc (.cells ROW 37) := ⟨_, rfl⟩
  rw [← hW1] at hrz
  have hN : ∀ j, j < (n + m) * 3 → (W1.cell? ⟨w.heap.size, j, none⟩).isSome = true := fun j hj => by
    rw [hW1, World.cell?_alloc_at (w := w.drew) ROW _ w.heap.size j rfl, Array.getElem?_eq_getElem (by omega)]; rfl
  have hNf : ∀ j, W1.frozen? ⟨w.heap.size, j, none⟩ = false := fun j => by rw [hW1]; exact World.frozen?_alloc_at (w := w.drew) ROW _ w.heap.size j rfl
  have hOb : ∀ j v, w.cell? ⟨b, j, none⟩ = some v → W1.cell? ⟨b, j, none⟩ = some v := fun j v h => by rw [hW1, World.cell?_alloc_past (w := w.drew) _ b j hbw]; exact h
  have hOv : ∀ j v, w.cell? ⟨vb, j, none⟩ = some v → W1.cell? ⟨vb, j, none⟩ = some v := fun j v h => by rw [hW1, World.cell?_alloc_past (w := w.drew) _ vb j hvw]; exact h
  have hcpA : ∀ (W : World), (∀ x, W.cell? x = W1.cell? x) → (∀ x, W.frozen? x = W1.frozen? x) → ∀ ty dc, (Builtin.copy_ #[43, 43] ty #[.slice (some ⟨w.heap.size, i * 3, none⟩) (n + m - i) dc, .slice (some ⟨vb, voff, none⟩) m vc]).run Tryz.prog W = .ok (goInt m) (W.setCells w.heap.size (i * 3) vs) := fun W hWc hWf ty dc => by
    have := run_copy_k (P := Tryz.prog) W 43 43 ty 37 w.heap.size (i * 3) (n + m - i) dc ⟨vb, voff, none⟩ m vc 3 vs u0 hsz (by rw [hvl]; simp only [Nat.min_def]; split <;> omega)
      (fun j v hj => by rw [Addr.add_lit, hWc]; exact hOv _ v (hvs j v hj))
      (fun j hj => by rw [hWc]; exact hN _ (by omega)) (fun j hj => by rw [hWf]; exact hNf _) h1v
    rwa [show Nat.min m (n + m - i) = m from by simp only [Nat.min_def]; split <;> omega] at this
  have hG63 : G ≤ 9223372036854775807 := by
    have := grownCap_le_maxLen w (n + m) c 37 (by unfold maxLen; omega)
    rw [← hG] at this
    unfold maxLen at this
    omega
  have hGi : ¬ (G = i) := by omega
  have hGim : ¬ (G = i + m) := by omega
  have hci : ¬ (c = i) := by omega
  have hbN : b ≠ w.heap.size := by omega
  have hdl : (cs.drop (i * 3)).length = n * 3 - i * 3 := by rw [List.length_drop, hcl]
  have hcpB : ∀ (W : World), (∀ x, W.cell? x = (W1.setCells w.heap.size (i * 3) vs).cell? x) → (∀ x, W.frozen? x = (W1.setCells w.heap.size (i * 3) vs).frozen? x) → ∀ ty dc sc, (Builtin.copy_ #[43, 43] ty #[.slice (some ⟨w.heap.size, (i + m) * 3, none⟩) (n + m - (i + m)) dc, .slice (some ⟨b, off + i * 3, none⟩) (n - i) sc]).run Tryz.prog W = .ok (goInt ((n - i : Nat) : Int)) (W.setCells w.heap.size ((i + m) * 3) (cs.drop (i * 3))) := fun W hWc hWf ty dc sc => by
    have := run_copy_k (P := Tryz.prog) W 43 43 ty 37 w.heap.size ((i + m) * 3) (n + m - (i + m)) dc ⟨b, off + i * 3, none⟩ (n - i) sc 3 (cs.drop (i * 3)) u0 hsz (by rw [hdl]; simp only [Nat.min_def]; split <;> omega)
      (fun j v hj => by
        rw [Addr.add_lit, hWc, World.cell?_setCells_out _ _ _ _ _ (fun h _ => absurd h hbN), Nat.add_assoc]
        exact hOb _ v (hcs (i * 3 + j) v (by rwa [List.getElem?_drop] at hj)))
      (fun j hj => by rw [hWc]; exact isSome_setCells _ _ _ _ (fun t ht => hN _ (by omega)) _ (hN _ (by omega)))
      (fun j hj => by rw [hWf, World.frozen?_setCells]; exact hNf _) (fun v hv => h1c v (List.mem_of_mem_drop hv))
    rwa [show Nat.min (n - i) (n + m - (i + m)) = n - i from by simp only [Nat.min_def]; split <;> omega] at this
  subst hW1
  have hE1 : ∀ x, ((w.alloc (.cells ROW 37)).drew).cell? x = (w.drew.alloc (.cells ROW 37)).cell? x := fun x => rfl
  have hE2 : ∀ x, ((w.alloc (.cells ROW 37)).drew).frozen? x = (w.drew.alloc (.cells ROW 37)).frozen? x := fun x => rfl
  have hF1 : ∀ x, (((w.alloc (.cells ROW 37)).drew.setCells w.heap.size (i * 3) vs).drew).cell? x = ((w.drew.alloc (.cells ROW 37)).setCells w.heap.size (i * 3) vs).cell? x := fun x => rfl
  have hF2 : ∀ x, (((w.alloc (.cells ROW 37)).drew.setCells w.heap.size (i * 3) vs).drew).frozen? x = ((w.drew.alloc (.cells ROW 37)).setCells w.heap.size (i * 3) vs).frozen? x := fun x => rfl
  have hw1 : IntKind.i64.wrap ((i : Int) + (m : Int)) = (i : Int) + (m : Int) := by rw [IntKind.wrap_i64]; omega
  have hb1 : (0 : Int) ≤ (i : Int) + (m : Int) := by omega
  have hin : i ≤ n := by omega
  have htn : ((i : Int) + (m : Int)).toNat = i + m := by omega
  have hb3 : (i : Int) ≤ (n : Int) := by omega
  clear hkk hik hold hROW hG hRl
  go_enter Tryz.func148, Tryz.ntmps148
  go_wp2_with (first
    | (at_builtin; refine Lib.wpList_append_run _ rfl _ _ _ _ rfl _ _ rfl rfl _ _ (hrz _) ?_)
    | (at_builtin; refine wpList_copy_runI _ rfl _ _ 43 43 rfl _ _ rfl rfl (hcpA _ hE1 hE2 _ _) ?_)
    | (at_builtin; refine wpList_copy_runI _ rfl _ _ 43 43 rfl _ _ rfl rfl (hcpB _ (fun _ => rfl) (fun _ => rfl) _ _ _) ?_))
  go_region_law_o (refine step_copy_runI rfl _ _ 43 43 rfl (.slice (some ⟨w.heap.size, (i + m) * 3, none⟩) (n + m - (i + m)) (G - (i + m))) (.slice (some ⟨b, off + i * 3, none⟩) (n - i) (c - i)) (by simp [Act.eval, Act.put]) (by simp [Act.eval, Act.put]) (hcpB _ hF1 hF2 3 (G - (i + m)) (c - i)) ?_)
  go_wp2
  go_ret
  exact ⟨G, ROW, hGn, hRs, hRt, rfl, rfl⟩
set_option maxHeartbeats 1000000 in
set_option maxRecDepth 100000 in
theorem atEnd (base : Option Addr) (n c m vc : Nat) (vb : Option Addr) (v : Value) (w w' : World) (hm : 0 < m) (hnil : base = none → n = 0 ∧ c = 0)
    (hr : (Builtin.append_ #[43, 43] 43 #[.slice base n c, .slice vb m vc]).run Tryz.prog w = .ok v w') :
    Calls Tryz.prog 148 #[.slice base n c, .int .i64 n, .slice vb m vc] w fun e w'' => e = .returned v ∧ w'' = w' := by
  have mixed : Tryz.prog.follows .mixedOrders = true := by kernel_rfl
  have hz1 : ¬ ((m : Int) = 0) := by omega
  cases base with
  | none =>
    obtain ⟨h0, h1⟩ := hnil rfl
    subst h0; subst h1
    go_enter Tryz.func148, Tryz.ntmps148
    go_wp2_with (at_builtin; refine Lib.wpList_append_run _ rfl _ _ _ _ rfl _ _ rfl rfl _ _ hr ?_)
    go_ret
    exact ⟨rfl, rfl⟩
  | some a =>
    obtain ⟨ab, ao, asp⟩ := a
    go_enter Tryz.func148, Tryz.ntmps148
    go_wp2_with (at_builtin; refine Lib.wpList_append_run _ rfl _ _ _ _ rfl _ _ rfl rfl _ _ hr ?_)
    all_goals (go_ret; exact ⟨rfl, rfl⟩)
theorem call_ov (w : World) (vb voff m vc b o lb cb : Nat) (hne : vb ≠ b) (tA : TypeId) (kA : Nat) (hsa : w.shape? vb = some (tA, kA)) (hkA : kA ≠ 0) {ccs : Array Value} {t : TypeId} (hb : w.heap[b]? = some (.cells ccs t (0, 0))) (hk : ccs.size ≠ 0) :
    (callFunc 180 #[.slice (some ⟨vb, voff, none⟩) m vc, .slice (some ⟨b, o, none⟩) lb cb]).run Tryz.prog w = .ok (.value (.bool false)) w := by
  rw [run_callFunc_extern Tryz.func180 (by kernel_rfl) (by kernel_rfl) (by kernel_rfl) (e := Extern.SlicesOverlaps.overlaps #[43, 43] #[4]) (by kernel_rfl),
    run_overlaps_row w 43 4 37 u0 3 hz ⟨vb, voff, none⟩ ⟨b, o, none⟩ m vc lb cb hne tA kA hsa hkA hb hk]
  rfl
theorem rets_of {C : Ctx} {r : AV} {st' : Store} {v : Value} {w1 : World} {D : Ctx} (h1 : Ext C D) (h2 : D.OK) (h3 : D.st = st') (h4 : VR D r v) (e : Ending) (w' : World) (he : e = .returned v ∧ w' = D.w) : Rets C r st' e w' := by
  obtain ⟨rfl, rfl⟩ := he
  exact ⟨D, rfl, h1, h2, h3, h4⟩
set_option maxHeartbeats 1000000 in
theorem ok (xs : List AV) (C : Ctx) (r : AV) (st' : Store) (cargs : List Value) (h : pInsert 3 48 xs C.st = some (r, st')) (hO : C.OK) (hv : VRt C xs cargs) : CallsF Tryz.prog 148 cargs C.w (Rets C r st') := by
  refine ⟨Tryz.call148, ?_⟩
  obtain ⟨j0, z0, hi0, hz0, hzs, hzb, hzc⟩ := i0
  have hq0 : 0 < j0.size ∧ 0 < j0.bytes ∧ (j0.zero.map fun z => z.cells.size) = some j0.size := by rw [hzs, hzb, hz0]; simp [hzc]
  unfold pInsert at h
  split at h
  · rename_i id gen off ln i k2 ys
    simp only [VRt] at hv
    obtain ⟨cs, _, rfl, hs, ci, _, rfl, hi, cy, _, rfl, hy, rfl⟩ := hv
    have ei := VR_plain hi
    subst ei
    split at h
    · rename_i k' g xs nw hst
      split at h
      · rename_i hq
        obtain ⟨rfl, rfl, rfl, b1, rfl, b3, b4, b5, b6, b7, b8⟩ := hq
        simp only [Option.some.injEq, Prod.mk.injEq] at h
        obtain ⟨rfl, rfl⟩ := h
        obtain ⟨i, rfl⟩ : ∃ n : Nat, i = n := ⟨i.toNat, by omega⟩
        have b4' : i ≤ ln := by omega
        have hyl : ∀ c, c ∈ ys → c.length = 3 := fun c hc => by simpa using List.all_eq_true.1 b6 c hc
        obtain ⟨b, o, cap, t', n, ad, p1, ⟨rfl, pa⟩, p3, p4, p5, p6⟩ := VR_own hs hst
        obtain ⟨vb, voff, vc, vs, rfl, v1, v2, v3, v4⟩ := sl_cells (by decide) b5 hyl hy
        obtain ⟨bb, o', hB, ccs, t'', ⟨fr, f1, ff⟩, f2, f3, f4⟩ := hO.get hst
        obtain rfl : fr = (0, 0) := by
          rcases ff with ff | ⟨ff, _⟩
          · exact ff
          · cases ff
        rw [p1] at hB; injection hB with hB; injection hB with e1 e2; subst e1; subst e2
        have hn : n = ccs.size ∧ t' = t'' := by
          unfold World.shape? at p4; rw [f1] at p4; simp at p4; exact ⟨p4.2.symm, p4.1.symm⟩
        obtain ⟨rfl, rfl⟩ := hn
        simp only [Int.toNat_natCast]
        have hold : ((xs.drop off).take ln).length = ln := by simp; omega
        have hxs' : ∀ c, c ∈ (xs.drop off).take ln → c.length = 3 := fun c hc => f2 c (List.mem_of_mem_drop (List.mem_of_mem_take hc))
        by_cases hend : i = ln
        · subst hend
          obtain ⟨D, v, a1, a2, a3, a4, a5⟩ := app_run (P := Tryz.prog) hO u0 hi0 hq0 hs hy (r := .own id (g + 1) 0 (i + ys.length)) (st' := C.st.set id (.row 3 (g + 1) ((xs.drop off).take i ++ ys) false)) (by
            have h7 : (ys.all fun c => c.length == j0.size) = true := by rw [hzs]; exact b6
            simp only [Prim.ev, Opd.ev, Env.get, if_true, Nat.reduceEqDiff, if_false, elems, h7, b6, hst, hzs, hzb, b1, true_and, Bool.false_eq_true, false_implies, b7, okSt, List.all_nil, Nat.zero_ne_one, and_self]) 43
          rw [List.take_of_length_le (i := i) (by omega), List.drop_of_length_le (i := i) (by omega), List.append_nil]
          exact (atEnd (some ad) i cap ys.length vc (some ⟨vb, voff, none⟩) v C.w D.w b5 (fun e => by cases e) a1).mono fun e w' he => rets_of (w1 := D.w) a2 a3 a4 a5 e w' he
        · have hlt : i < ln := by omega
          obtain rfl := pa (by omega)
          have hmul : (off + ln) * 3 ≤ xs.length * 3 := Nat.mul_le_mul_right _ b1
          have hseg : VRs C ((xs.drop off).take ln).flatten ((ccs.toList.drop (o + off * 3)).take (ln * 3)) := by
            rw [seg_flat f2]
            have := VRs_take (VRs_drop f4 (off * 3)) (ln * 3)
            rw [List.drop_take, List.drop_drop, List.take_take] at this
            rw [Nat.min_eq_left (by omega)] at this
            exact this
          obtain ⟨cs, hcs⟩ : ∃ cs, cs = (ccs.toList.drop (o + off * 3)).take (ln * 3) := ⟨_, rfl⟩
          rw [← hcs] at hseg
          have hcl : cs.length = ln * 3 := by rw [hcs]; simp; omega
          have hcc : ∀ j v, cs[j]? = some v → C.w.cell? ⟨b, o + off * 3 + j, none⟩ = some v := fun j v hj => by
            rw [hcs, List.getElem?_take] at hj
            split at hj
            · rw [List.getElem?_drop, Array.getElem?_toList] at hj
              rw [cell_of f1]; exact hj
            · cases hj
          have hvb : vb ≠ b := fun e => v4.2.1 ⟨id, o, _, by rw [e]; exact p1, hst, fun hnw => by cases hnw⟩
          have hbs : VRs C (((xs.drop off).take ln).take i ++ (ys ++ ((xs.drop off).take ln).drop i)).flatten (cs.take (i * 3) ++ (vs ++ cs.drop (i * 3))) := by
            rw [List.flatten_append, List.flatten_append, flat_take hxs', flat_drop hxs']
            exact VRs_append (VRs_take hseg _) (VRs_append v2 (VRs_drop hseg _))
          have hnl : (((xs.drop off).take ln).take i ++ (ys ++ ((xs.drop off).take ln).drop i)).length = ln + ys.length := by
            simp only [List.length_append, List.length_take, List.length_drop]; omega
          have hnk : ∀ c, c ∈ ((xs.drop off).take ln).take i ++ (ys ++ ((xs.drop off).take ln).drop i) → c.length = 3 := fun c hc => by
            rcases List.mem_append.1 hc with hc | hc
            · exact hxs' c (List.mem_of_mem_take hc)
            · rcases List.mem_append.1 hc with hc | hc
              · exact hyl c hc
              · exact hxs' c (List.mem_of_mem_drop hc)
          have h1c : ∀ v ∈ cs, v.oneCell' = true := VRs_one hseg
          have h1v : ∀ v ∈ vs, v.oneCell' = true := VRs_one v2
          have hdl : (cs.drop (i * 3)).length = ln * 3 - i * 3 := by rw [List.length_drop, hcl]
          have htl : (cs.take (i * 3)).length = i * 3 := by rw [List.length_take, hcl]; omega
          by_cases hfit : ln + ys.length ≤ cap
          · have hcapk : (off + (ln + ys.length)) * 3 ≤ (off + cap) * 3 := Nat.mul_le_mul_right _ (by omega)
            have hsh : ∃ tA kA, C.w.shape? vb = some (tA, kA) ∧ kA ≠ 0 := by
              have := v4.1
              unfold World.cell? at this
              split at this
              · rename_i c t fr hh
                simp only at hh this
                refine ⟨t, c.size, by simp [World.shape?, hh], fun e => ?_⟩
                split at this
                · cases this
                · rw [Array.getElem?_eq_none (by omega)] at this; cases this
              · cases this
            obtain ⟨tA, kA, hsa, hkA⟩ := hsh
            have hS := shift b (o + off * 3) ln cap i vb voff ys.length vc cs vs C.w hlt b5 hfit (by omega) hvb hcl v1 hcc (fun j hj => by rw [cell_of f1, Array.getElem?_eq_getElem (by omega)]; rfl) (fun j => frozen_of f1 j) v3 h1c h1v
              (fun lb cb => call_ov C.w vb voff ys.length vc b _ lb cb hvb tA kA hsa hkA f1 (by omega))
            refine hS.mono ?_
            rintro e w' ⟨rfl, rfl⟩
            obtain ⟨c1, u1, r1⟩ := upd_setCells (cs.drop (i * 3)) C.w.drew ccs t' b (o + off * 3 + (i + ys.length) * 3) f1 (by omega)
            have hc1 : c1.size = ccs.size := by
              rw [← Array.length_toList, r1]; simp only [List.length_append, List.length_take, List.length_drop, Array.length_toList, hcl]; omega
            obtain ⟨c2, u2, r2⟩ := upd_setCells vs _ c1 t' b (o + off * 3 + i * 3) u1.at_ (by omega)
            have hc2 : c2.size = ccs.size := by
              rw [← Array.length_toList, r2]; simp only [List.length_append, List.length_take, List.length_drop, Array.length_toList, hcl]; omega
            have U : Upd C.w ((C.w.drew.setCells b (o + off * 3 + (i + ys.length) * 3) (cs.drop (i * 3))).setCells b (o + off * 3 + i * 3) vs) b (.cells c2 t' (0, 0)) :=
              ⟨u2.os.trans u1.os, u2.tape.trans u1.tape, u2.out.trans u1.out, u2.size.trans u1.size, fun k hk => (u2.other k hk).trans (u1.other k hk), u2.at_⟩
            have := rets_row hO hst p1 (w' := (C.w.drew.setCells b (o + off * 3 + (i + ys.length) * 3) (cs.drop (i * 3))).setCells b (o + off * 3 + i * 3) vs) (b' := b) (o' := o + off * 3) (ccs' := c2) (t' := t') (cap := cap) (.inl ⟨rfl, U, by rw [hc2]; exact p4⟩) hnk (by rw [hnl]; exact hfit) (by rw [hc2]; omega) (by
              rw [hnl]
              have e3 : (c2.toList.drop (o + off * 3)).take ((ln + ys.length) * 3) = cs.take (i * 3) ++ (vs ++ cs.drop (i * 3)) := by
                have s1 : c1.toList.take (o + off * 3 + i * 3) = ccs.toList.take (o + off * 3 + i * 3) := by
                  rw [r1, List.append_assoc, List.take_append_of_le_length (by simp; omega), List.take_take, Nat.min_eq_left (by omega)]
                have s2 : c1.toList.drop (o + off * 3 + i * 3 + vs.length) = cs.drop (i * 3) ++ ccs.toList.drop (o + off * 3 + (i + ys.length) * 3 + (cs.drop (i * 3)).length) := by
                  rw [r1, List.append_assoc, List.drop_append_of_le_length (by simp; omega), List.drop_of_length_le (by simp; omega), List.nil_append]
                rw [r2, s1, s2, List.append_assoc, List.drop_append_of_le_length (by simp; omega), List.drop_take]
                rw [show o + off * 3 + i * 3 - (o + off * 3) = i * 3 by omega]
                have s3 : (ccs.toList.drop (o + off * 3)).take (i * 3) = cs.take (i * 3) := by rw [hcs, List.take_take, Nat.min_eq_left (by omega)]
                rw [s3, ← List.append_assoc, ← List.append_assoc, List.take_append_of_le_length (by simp only [List.length_append, htl, v1, hdl]; omega), List.take_of_length_le (by simp only [List.length_append, htl, v1, hdl]; omega), List.append_assoc]
              rw [e3]
              exact hbs)
            rw [hnl] at this
            exact this
          · have hS := grow b (o + off * 3) ln cap i vb voff ys.length vc cs vs C.w hlt b5 p3 (by omega) b7 hcl v1 hcc v3 h1c h1v
            refine hS.mono ?_
            rintro e w' ⟨G, ROW, g1, g2, g3, rfl, rfl⟩
            have hA := below_alloc C.w (.cells ROW 37)
            have hR : (ROW.size : Nat) = G * 3 := g2
            have hGk : (ln + ys.length) * 3 ≤ G * 3 := Nat.mul_le_mul_right _ g1
            obtain ⟨c1, u1, r1⟩ := upd_setCells vs (C.w.alloc (.cells ROW 37)).drew ROW 37 C.w.heap.size (i * 3) (heap_push_at C.w _) (by omega)
            have hc1 : c1.size = ROW.size := by
              rw [← Array.length_toList, r1]; simp only [List.length_append, List.length_take, List.length_drop, Array.length_toList]; omega
            obtain ⟨c2, u2, r2⟩ := upd_setCells (cs.drop (i * 3)) ((C.w.alloc (.cells ROW 37)).drew.setCells C.w.heap.size (i * 3) vs).drew c1 37 C.w.heap.size ((i + ys.length) * 3) u1.at_ (by omega)
            have hc2 : c2.size = ROW.size := by
              rw [← Array.length_toList, r2]; simp only [List.length_append, List.length_take, List.length_drop, Array.length_toList, hcl]; omega
            have hB : Below C.w.heap.size C.w ((((C.w.alloc (.cells ROW 37)).drew.setCells C.w.heap.size (i * 3) vs).drew).setCells C.w.heap.size ((i + ys.length) * 3) (cs.drop (i * 3))) :=
              ⟨u2.os.trans (u1.os.trans hA.os), u2.tape.trans (u1.tape.trans hA.tape), u2.out.trans (u1.out.trans hA.output), by rw [u2.size]; exact Nat.le_trans hA.size (Nat.le_of_eq u1.size.symm), fun k hk => (u2.other k (by omega)).trans ((u1.other k (by omega)).trans (hA.block k hk))⟩
            have := rets_row hO hst p1 (b' := C.w.heap.size) (o' := 0) (ccs' := c2) (t' := 37) (cap := G) (.inr ⟨Nat.le_refl _, hB, u2.at_⟩) hnk (by rw [hnl]; exact g1) (by rw [hc2]; omega) (by
              rw [hnl, List.drop_zero]
              have e3 : c2.toList.take ((ln + ys.length) * 3) = cs.take (i * 3) ++ (vs ++ cs.drop (i * 3)) := by
                have s1 : c1.toList.take ((i + ys.length) * 3) = cs.take (i * 3) ++ vs := by
                  rw [r1, g3, List.take_append_of_le_length (by simp only [List.length_append, htl, v1]; omega), List.take_of_length_le (by simp only [List.length_append, htl, v1]; omega)]
                rw [r2, s1, List.take_append_of_le_length (by simp only [List.length_append, htl, v1, hdl]; omega), List.take_of_length_le (by simp only [List.length_append, htl, v1, hdl]; omega), List.append_assoc]
              rw [e3]
              exact hbs)
            rw [hnl] at this
            exact this
      · cases h
    · cases h
  · rename_i k2 ys
    simp only [VRt] at hv
    obtain ⟨cs, _, rfl, hs, ci, _, rfl, hi, cy, _, rfl, hy, rfl⟩ := hv
    have ei := VR_plain hi
    have es := VR_plain hs
    subst ei; subst es
    split at h
    · rename_i hq
      obtain ⟨rfl, b5, b6, b7, b8⟩ := hq
      simp only [Option.some.injEq, Prod.mk.injEq] at h
      obtain ⟨rfl, rfl⟩ := h
      have hyl : ∀ c, c ∈ ys → c.length = 3 := fun c hc => by simpa using List.all_eq_true.1 b6 c hc
      obtain ⟨vb, voff, vc, vs, rfl, v1, v2, v3, v4⟩ := sl_cells (by decide) b5 hyl hy
      have h0 : ¬ ys.length = 0 := by omega
      obtain ⟨D, v, a1, a2, a3, a4, a5⟩ := app_run (P := Tryz.prog) hO u0 hi0 hq0 (x := .v (.slice none 0 0)) (cx := .slice none 0 0) (VR_v rfl) hy (r := .own C.st.length 0 0 ys.length) (st' := C.st ++ [.row 3 0 ys false]) (by
        have h7 : (ys.all fun c => c.length == j0.size) = true := by rw [hzs]; exact b6
        simp only [Prim.ev, Opd.ev, Env.get, if_true, Nat.reduceEqDiff, if_false, elems, h7, b6, hzs, hzb, b7, h0, Nat.zero_ne_one]) 43
      exact (atEnd none 0 0 ys.length vc (some ⟨vb, voff, none⟩) v C.w D.w b5 (fun _ => ⟨rfl, rfl⟩) a1).mono fun e w' he => rets_of (w1 := D.w) a2 a3 a4 a5 e w' he
    · cases h
  · cases h
end Go.Proofs.YtoobogpbejdocaaGreatDoor.EvInsD
