import Derived.Test.YtjidmpcgkcaeaaaGreatDoorEvSa
import Derived.Test.YtjidmpcgkcaeaaaGreatDoorEvFd5
set_option linter.unusedVariables false
set_option linter.unusedSectionVars false
set_option linter.unusedSimpArgs false
namespace Go.Proofs.YtjidmpcgkcaeaaaGreatDoor.Ev
attribute [local congr] bind_congr_head
attribute [local go_sem] AV.cells AV.tuple elems boxQ callN_any compact_same compact_new aggOf
theorem swp_perm {α : Type} {xs : List α} {i j : Nat} {p q : α} (hi : xs[i]? = some p) (hj : xs[j]? = some q) : ((xs.set i q).set j p).Perm xs := by
  obtain ⟨h1, e1⟩ := List.getElem?_eq_some_iff.1 hi
  obtain ⟨h2, e2⟩ := List.getElem?_eq_some_iff.1 hj
  have h := List.set_set_perm h1 h2
  rw [e1, e2] at h
  exact h
theorem swp_at {α : Type} {xs : List α} {i j : Nat} {p q : α} (hi : xs[i]? = some p) (hj : xs[j]? = some q) : (xs.set i q)[j]? = some q := by
  rw [List.getElem?_set]
  split
  · have := (List.getElem?_eq_some_iff.1 hi).1
    rename_i c; subst c
    simp [this]
  · exact hj
theorem w_add {i j : Nat} (h : i + j ≤ 4000) : IntKind.i64.wrap ((i : Int) + (j : Int)) = ((i + j : Nat) : Int) := by rw [IntWalk.i64_in _ (by omega)]; omega
theorem w_sub {i j : Nat} (h : i ≤ 4000) (h2 : j ≤ i) : IntKind.i64.wrap ((i : Int) - (j : Int)) = ((i - j : Nat) : Int) := by rw [IntWalk.i64_in _ (by omega)]; omega
theorem w_sub1 {i : Nat} (h : i ≤ 4000) (h2 : 1 ≤ i) : IntKind.i64.wrap ((i : Int) - 1) = ((i - 1 : Nat) : Int) := by rw [IntWalk.i64_in _ (by omega)]; omega
theorem at_lt {α : Type} (xs : List α) {i : Nat} (h : i < xs.length) : ∃ p, xs[i]? = some p := ⟨_, List.getElem?_eq_getElem h⟩
abbrev ownC (g L : Nat) : AV := .own 0 g 0 L
abbrev rowC (g : Nat) (xs : List ChT) : Store := [.row 4 g (xs.map ChT.cells) false]
theorem set_ch (xs : List ChT) (i : Nat) (c : ChT) : (xs.map ChT.cells).set i [vi c.at_, vi c.saga, vi c.was, vi c.is_] = (xs.set i c).map ChT.cells := by
  rw [List.map_set]; rfl
theorem swr_loop {E : Prog} (g N a b n : Nat) (hN : N ≤ 1000) (ha : a + n ≤ N) (hb : b + n ≤ N) {L : Env × Store → Option (Sig × Env × Store)}
    (hL : ∀ e st, L (e, st) = (IR.runL E.glob (callL E) [] ir_slices_swapRangeCmpFunc_api_Change_L0 e st).bind (seqK fun e st => L (compact [] 1 [0, 1, 2, 3, 10] e st))) :
    ∀ (r i : Nat) (xs : List ChT), i + r = n → xs.length = N → ∃ ys : List ChT, ys.Perm xs ∧
    L ([(0, ownC g N), (1, vi a), (2, vi b), (3, vi n), (10, vi i)], rowC g xs) = some (.exit 0, [], rowC g ys)
  | 0, i, xs, hi, hx => by
    have h1 : ¬ (i : Int) < (n : Int) := by omega
    refine ⟨xs, .refl _, ?_⟩
    rw [hL]
    simp -implicitDefEqProofs only [go_sem, ir_slices_swapRangeCmpFunc_api_Change_L0, h1, ro_ch]
  | r + 1, i, xs, hi, hx => by
    have h1 : (i : Int) < (n : Int) := by omega
    have h6 := wrap_succ (i := i) (by omega)
    obtain ⟨p, hp⟩ := at_lt xs (i := a + i) (by omega)
    obtain ⟨q, hq⟩ := at_lt xs (i := b + i) (by omega)
    have wa := w_add (i := a) (j := i) (by omega)
    have wb := w_add (i := b) (j := i) (by omega)
    have la : a + i < N := by omega
    have lb : b + i < N := by omega
    have hq2 := swp_at hp hq
    obtain ⟨ys, hy, ih⟩ := swr_loop g N a b n hN ha hb hL r (i + 1) ((xs.set (a + i) q).set (b + i) p) (by omega) (by simp only [List.length_set]; exact hx)
    refine ⟨ys, hy.trans (swp_perm hp hq), ?_⟩
    rw [← ih, hL]
    simp -implicitDefEqProofs only [go_sem, ir_slices_swapRangeCmpFunc_api_Change_L0, h1, h6, wa, wb, la, lb, hp, hq, hq2, ias_own, set_ch, List.getElem?_map, Option.map_some, Nat.zero_add, Int.toNat_natCast, and_self, ChT.cells, ro_ch, Int.natCast_nonneg]
theorem fn_swr {E : Prog} (hE : Std E fns) (g N a b n f : Nat) (hN : N ≤ 1000) (ha : a + n ≤ N) (hb : b + n ≤ N) (xs : List ChT) (hx : xs.length = N) : ∃ ys : List ChT, ys.Perm xs ∧
    callL E f_slices_swapRangeCmpFunc_api_Change [ownC g N, vi a, vi b, vi n, .fn f []] [] (rowC g xs) = some (.tup [], rowC g ys) := by
  obtain ⟨ys, hy, h⟩ := swr_loop (E := E) g N a b n hN ha hb (loopL_eq (IR.runL E.glob (callL E) [] ir_slices_swapRangeCmpFunc_api_Change_L0) (compact [] 1 [0, 1, 2, 3, 10])) n 0 xs (by omega) hx
  refine ⟨ys, hy, ?_⟩
  simp only [Int.natCast_zero] at h
  rw [hE.runN rfl rfl]
  simp -implicitDefEqProofs only [go_sem, ir_slices_swapRangeCmpFunc_api_Change, h, ro_ch]
def Cmps (E : Prog) (f : Nat) (cmp : ChT → ChT → Int) : Prop := ∀ a b : ChT, callL E f [.agg [vi a.at_, vi a.saga, vi a.was, vi a.is_], .agg [vi b.at_, vi b.saga, vi b.was, vi b.is_]] [] [] = some (vi (cmp a b), [])
theorem insI_loop {E : Prog} (g N a b f : Nat) (cmp : ChT → ChT → Int) (hc : Cmps E f cmp) (hN : N ≤ 1000) (i : Int) {L : Env × Store → Option (Sig × Env × Store)}
    (hL : ∀ e st, L (e, st) = (IR.runL E.glob (callL E) [] ir_slices_insertionSortCmpFunc_api_Change_L0 e st).bind (seqK fun e st => L (compact [] 1 [0, 1, 2, 3, 8, 9] e st))) :
    ∀ (j : Nat) (xs : List ChT), j < N → xs.length = N → ∃ ys : List ChT, ys.Perm xs ∧
    L ([(0, ownC g N), (1, vi a), (2, vi b), (3, .fn f []), (8, vi i), (9, vi j)], rowC g xs) = some (.exit 2, [(0, ownC g N), (1, vi a), (2, vi b), (3, .fn f []), (8, vi i)], rowC g ys)
  | 0, xs, hj, hx => by
    have h1 : ¬ (a : Int) < ((0 : Nat) : Int) := by omega
    refine ⟨xs, .refl _, ?_⟩
    rw [hL]
    simp -implicitDefEqProofs only [go_sem, ir_slices_insertionSortCmpFunc_api_Change_L0, h1, ro_ch]
  | j + 1, xs, hj, hx => by
    by_cases h1 : (a : Int) < ((j + 1 : Nat) : Int)
    · obtain ⟨p, hp⟩ := at_lt xs (i := j + 1) (by omega)
      obtain ⟨q, hq⟩ := at_lt xs (i := j) (by omega)
      have w := w_sub1 (i := j + 1) (by omega) (by omega)
      rw [Nat.add_sub_cancel] at w
      have lj : j < N := by omega
      have hcm := hc p q
      have n1 : (0 : Int) ≤ ((j + 1 : Nat) : Int) := by omega
      by_cases c : cmp p q < 0
      · have hq2 := swp_at hp hq
        obtain ⟨ys, hy, ih⟩ := insI_loop g N a b f cmp hc hN i hL j ((xs.set (j + 1) q).set j p) (by omega) (by simp only [List.length_set]; exact hx)
        refine ⟨ys, hy.trans (swp_perm hp hq), ?_⟩
        rw [← ih, hL]
        simp -implicitDefEqProofs only [go_sem, ir_slices_insertionSortCmpFunc_api_Change_L0, h1, w, hj, lj, n1, hp, hq, hq2, hcm, c, ias_own, set_ch, List.getElem?_map, Option.map_some, Nat.zero_add, Int.toNat_natCast, and_self, ChT.cells, ro_ch, Int.natCast_nonneg]
      · refine ⟨xs, .refl _, ?_⟩
        rw [hL]
        simp -implicitDefEqProofs only [go_sem, ir_slices_insertionSortCmpFunc_api_Change_L0, h1, w, hj, lj, n1, hp, hq, hcm, c, ias_own, List.getElem?_map, Option.map_some, Nat.zero_add, Int.toNat_natCast, and_self, ChT.cells, ro_ch, Int.natCast_nonneg]
    · refine ⟨xs, .refl _, ?_⟩
      rw [hL]
      simp -implicitDefEqProofs only [go_sem, ir_slices_insertionSortCmpFunc_api_Change_L0, h1, ro_ch]
theorem insO_loop {E : Prog} (g N a b f : Nat) (cmp : ChT → ChT → Int) (hc : Cmps E f cmp) (hN : N ≤ 1000) (hb : b ≤ N) {L : Env × Store → Option (Sig × Env × Store)}
    (hL : ∀ e st, L (e, st) = (IR.runL E.glob (callL E) [] ir_slices_insertionSortCmpFunc_api_Change_L1 e st).bind (seqK fun e st => L (compact [] 1 [0, 1, 2, 3, 8] e st))) :
    ∀ (r i : Nat) (xs : List ChT), b ≤ i + r → i ≤ 2000 → xs.length = N → ∃ ys : List ChT, ys.Perm xs ∧
    L ([(0, ownC g N), (1, vi a), (2, vi b), (3, .fn f []), (8, vi i)], rowC g xs) = some (.exit 0, [], rowC g ys)
  | 0, i, xs, hr, hi, hx => by
    have h1 : ¬ (i : Int) < (b : Int) := by omega
    refine ⟨xs, .refl _, ?_⟩
    rw [hL]
    simp -implicitDefEqProofs only [go_sem, ir_slices_insertionSortCmpFunc_api_Change_L1, h1, ro_ch]
  | r + 1, i, xs, hr, hi, hx => by
    by_cases h1 : (i : Int) < (b : Int)
    · have h6 := wrap_succ (i := i) (by omega)
      obtain ⟨zs, hz, hin⟩ := insI_loop (E := E) g N a b f cmp hc hN i (loopL_eq (IR.runL E.glob (callL E) [] ir_slices_insertionSortCmpFunc_api_Change_L0) (compact [] 1 [0, 1, 2, 3, 8, 9])) i xs (by omega) hx
      obtain ⟨ys, hy, ih⟩ := insO_loop g N a b f cmp hc hN hb hL r (i + 1) zs (by omega) (by omega) (by rw [hz.length_eq]; exact hx)
      refine ⟨ys, hy.trans hz, ?_⟩
      rw [← ih, hL]
      simp -implicitDefEqProofs only [go_sem, ir_slices_insertionSortCmpFunc_api_Change_L1, h1, h6, hin, ro_ch]
    · refine ⟨xs, .refl _, ?_⟩
      rw [hL]
      simp -implicitDefEqProofs only [go_sem, ir_slices_insertionSortCmpFunc_api_Change_L1, h1, ro_ch]
theorem fn_insSort {E : Prog} (hE : Std E fns) (g N a b f : Nat) (cmp : ChT → ChT → Int) (hc : Cmps E f cmp) (hN : N ≤ 1000) (ha : a ≤ 1000) (hb : b ≤ N) (xs : List ChT) (hx : xs.length = N) : ∃ ys : List ChT, ys.Perm xs ∧
    callL E f_slices_insertionSortCmpFunc_api_Change [ownC g N, vi a, vi b, .fn f []] [] (rowC g xs) = some (.tup [], rowC g ys) := by
  obtain ⟨ys, hy, h⟩ := insO_loop (E := E) g N a b f cmp hc hN hb (loopL_eq (IR.runL E.glob (callL E) [] ir_slices_insertionSortCmpFunc_api_Change_L1) (compact [] 1 [0, 1, 2, 3, 8])) b (a + 1) xs (by omega) (by omega) hx
  refine ⟨ys, hy, ?_⟩
  have w := wrap_succ (i := a) (by omega)
  rw [hE.runN rfl rfl]
  simp -implicitDefEqProofs only [go_sem, ir_slices_insertionSortCmpFunc_api_Change, w, h, ro_ch]
theorem rot_loop {E : Prog} (hE : Std E fns) (g N m f : Nat) (hN : N ≤ 1000) {L : Env × Store → Option (Sig × Env × Store)}
    (hL : ∀ e st, L (e, st) = (IR.runL E.glob (callL E) [] ir_slices_rotateCmpFunc_api_Change_L0 e st).bind (seqK fun e st => L (compact [] 1 [0, 2, 4, 10, 11] e st))) :
    ∀ (k i j : Nat) (xs : List ChT), i + j ≤ k → 1 ≤ i → 1 ≤ j → i ≤ m → m + j ≤ N → xs.length = N → ∃ (ys : List ChT) (i' : Nat), ys.Perm xs ∧ i' ≤ m ∧ m + i' ≤ N ∧
    L ([(0, ownC g N), (2, vi m), (4, .fn f []), (10, vi i), (11, vi j)], rowC g xs) = some (.exit 0, [(0, ownC g N), (2, vi m), (4, .fn f []), (10, vi i')], rowC g ys)
  | 0, i, j, xs, hk, h1, h2, h3, h4, hx => by omega
  | k + 1, i, j, xs, hk, h1, h2, h3, h4, hx => by
    by_cases c : (i : Int) = (j : Int)
    · refine ⟨xs, i, .refl _, h3, by omega, ?_⟩
      rw [hL]
      simp -implicitDefEqProofs only [go_sem, ir_slices_rotateCmpFunc_api_Change_L0, c, ro_ch]
    · have wm := w_sub (i := m) (j := i) (by omega) h3
      by_cases c2 : (j : Int) < (i : Int)
      · have wi := w_sub (i := i) (j := j) (by omega) (by omega)
        obtain ⟨zs, hz, hs⟩ := fn_swr hE g N (m - i) m j f hN (by omega) (by omega) xs hx
        obtain ⟨ys, i', hy, b1, b2, ih⟩ := rot_loop hE g N m f hN hL k (i - j) j zs (by omega) (by omega) h2 (by omega) h4 (by rw [hz.length_eq]; exact hx)
        refine ⟨ys, i', hy.trans hz, b1, b2, ?_⟩
        rw [← ih, hL]
        simp -implicitDefEqProofs only [go_sem, ir_slices_rotateCmpFunc_api_Change_L0, c, c2, wm, wi, hs, ro_ch]
      · have wj := w_sub (i := j) (j := i) (by omega) (by omega)
        have wa := w_add (i := m) (j := j) (by omega)
        have ws := w_sub (i := m + j) (j := i) (by omega) (by omega)
        obtain ⟨zs, hz, hs⟩ := fn_swr hE g N (m - i) (m + j - i) i f hN (by omega) (by omega) xs hx
        obtain ⟨ys, i', hy, b1, b2, ih⟩ := rot_loop hE g N m f hN hL k i (j - i) zs (by omega) h1 (by omega) h3 (by omega) (by rw [hz.length_eq]; exact hx)
        refine ⟨ys, i', hy.trans hz, b1, b2, ?_⟩
        rw [← ih, hL]
        simp -implicitDefEqProofs only [go_sem, ir_slices_rotateCmpFunc_api_Change_L0, c, c2, wm, wj, wa, ws, hs, ro_ch]
theorem fn_rot {E : Prog} (hE : Std E fns) (g N a m b f : Nat) (hN : N ≤ 1000) (h1 : a < m) (h2 : m < b) (h3 : b ≤ N) (xs : List ChT) (hx : xs.length = N) : ∃ ys : List ChT, ys.Perm xs ∧
    callL E f_slices_rotateCmpFunc_api_Change [ownC g N, vi a, vi m, vi b, .fn f []] [] (rowC g xs) = some (.tup [], rowC g ys) := by
  have w1 := w_sub (i := m) (j := a) (by omega) (by omega)
  have w2 := w_sub (i := b) (j := m) (by omega) (by omega)
  obtain ⟨zs, i', hz, b1, b2, h⟩ := rot_loop hE g N m f hN (loopL_eq (IR.runL E.glob (callL E) [] ir_slices_rotateCmpFunc_api_Change_L0) (compact [] 1 [0, 2, 4, 10, 11])) (b - a) (m - a) (b - m) xs (by omega) (by omega) (by omega) (by omega) (by omega) hx
  have w3 := w_sub (i := m) (j := i') (by omega) b1
  obtain ⟨ys, hy, hs⟩ := fn_swr hE g N (m - i') m i' f hN (by omega) (by omega) zs (by rw [hz.length_eq]; exact hx)
  refine ⟨ys, hy.trans hz, ?_⟩
  rw [hE.runN rfl rfl]
  simp -implicitDefEqProofs only [go_sem, ir_slices_rotateCmpFunc_api_Change, w1, w2, w3, h, hs, ro_ch]
theorem mid_wrap {i j : Nat} (h : i + j ≤ 4000) : IntKind.i64.wrap ((IntKind.u64.wrap (IntKind.i64.wrap ((i : Int) + (j : Int)))).fdiv (2 ^ (min 1 64))) = (((i + j) / 2 : Nat) : Int) := by
  have h1 : IntKind.i64.wrap ((i : Int) + (j : Int)) = ((i + j : Nat) : Int) := by rw [IntWalk.i64_in _ (by omega)]; omega
  have h2 : IntKind.u64.wrap ((i + j : Nat) : Int) = ((i + j : Nat) : Int) := by
    simp only [IntKind.wrap, IntKind.signed, IntKind.bits]
    simp
    omega
  have h3 : (2 : Int) ^ (min 1 64) = 2 := by decide
  rw [h1, h2, h3, Int.fdiv_eq_ediv_of_nonneg _ (by omega), IntWalk.i64_in _ (by omega)]
  omega
theorem no10 : ¬ ((1 : Int) < 0) := by omega
theorem s4_loop {E : Prog} (g N a f : Nat) (cmp : ChT → ChT → Int) (hc : Cmps E f cmp) (hN : N ≤ 1000) (ha : a < N) (xs : List ChT) (hx : xs.length = N) {L : Env × Store → Option (Sig × Env × Store)}
    (hL : ∀ e st, L (e, st) = (IR.runL E.glob (callL E) [] ir_slices_symMergeCmpFunc_api_Change_L4 e st).bind (seqK fun e st => L (compact [] 1 [0, 1, 4, 10, 11] e st))) :
    ∀ (d i j : Nat), j - i ≤ d → i ≤ j → j ≤ N → ∃ i' : Nat, i ≤ i' ∧ i' ≤ j ∧
    L ([(0, ownC g N), (1, vi a), (4, .fn f []), (10, vi i), (11, vi j)], rowC g xs) = some (.exit 0, [(0, ownC g N), (1, vi a), (10, vi i')], rowC g xs)
  | d, i, j, hd, hij, hj => by
    by_cases c : (i : Int) < (j : Int)
    · obtain ⟨p, hp⟩ := at_lt xs (i := (i + j) / 2) (by omega)
      obtain ⟨q, hq⟩ := at_lt xs (i := a) (by omega)
      have hm := mid_wrap (i := i) (j := j) (by omega)
      have h6 := wrap_succ (i := (i + j) / 2) (by omega)
      have lm : (i + j) / 2 < N := by omega
      have hcm := hc p q
      cases d with
      | zero => omega
      | succ d =>
        by_cases c2 : cmp p q < 0
        · obtain ⟨i', b1, b2, ih⟩ := s4_loop g N a f cmp hc hN ha xs hx hL d ((i + j) / 2 + 1) j (by omega) (by omega) hj
          refine ⟨i', by omega, b2, ?_⟩
          rw [← ih, hL]
          simp -implicitDefEqProofs only [go_sem, ir_slices_symMergeCmpFunc_api_Change_L4, c, no10, hm, h6, lm, ha, hp, hq, hcm, c2, ias_own, List.getElem?_map, Option.map_some, Nat.zero_add, Int.toNat_natCast, and_self, ChT.cells, ro_ch, Int.natCast_nonneg]
        · obtain ⟨i', b1, b2, ih⟩ := s4_loop g N a f cmp hc hN ha xs hx hL d i ((i + j) / 2) (by omega) (by omega) (by omega)
          refine ⟨i', b1, by omega, ?_⟩
          rw [← ih, hL]
          simp -implicitDefEqProofs only [go_sem, ir_slices_symMergeCmpFunc_api_Change_L4, c, no10, hm, lm, ha, hp, hq, hcm, c2, ias_own, List.getElem?_map, Option.map_some, Nat.zero_add, Int.toNat_natCast, and_self, ChT.cells, ro_ch, Int.natCast_nonneg]
    · refine ⟨i, Nat.le_refl _, hij, ?_⟩
      rw [hL]
      simp -implicitDefEqProofs only [go_sem, ir_slices_symMergeCmpFunc_api_Change_L4, c, ro_ch]
theorem s3_loop {E : Prog} (g N i : Nat) (hN : N ≤ 1000) (h1 : 1 ≤ i) (hi : i ≤ N) {L : Env × Store → Option (Sig × Env × Store)}
    (hL : ∀ e st, L (e, st) = (IR.runL E.glob (callL E) [] ir_slices_symMergeCmpFunc_api_Change_L3 e st).bind (seqK fun e st => L (compact [] 1 [0, 10, 13] e st))) :
    ∀ (r k : Nat) (xs : List ChT), i - 1 ≤ k + r → k ≤ 2000 → xs.length = N → ∃ ys : List ChT, ys.Perm xs ∧
    L ([(0, ownC g N), (10, vi i), (13, vi k)], rowC g xs) = some (.exit 2, [], rowC g ys)
  | 0, k, xs, hr, hk, hx => by
    have w := w_sub1 (i := i) (by omega) h1
    have c : ¬ (k : Int) < ((i - 1 : Nat) : Int) := by omega
    refine ⟨xs, .refl _, ?_⟩
    rw [hL]
    simp -implicitDefEqProofs only [go_sem, ir_slices_symMergeCmpFunc_api_Change_L3, w, c, ro_ch]
  | r + 1, k, xs, hr, hk, hx => by
    have w := w_sub1 (i := i) (by omega) h1
    by_cases c : (k : Int) < ((i - 1 : Nat) : Int)
    · have h6 := wrap_succ (i := k) (by omega)
      obtain ⟨p, hp⟩ := at_lt xs (i := k) (by omega)
      obtain ⟨q, hq⟩ := at_lt xs (i := k + 1) (by omega)
      have lk : k < N := by omega
      have lk1 : k + 1 < N := by omega
      have n1 : (0 : Int) ≤ ((k + 1 : Nat) : Int) := by omega
      have hq2 := swp_at hp hq
      obtain ⟨ys, hy, ih⟩ := s3_loop g N i hN h1 hi hL r (k + 1) ((xs.set k q).set (k + 1) p) (by omega) (by omega) (by simp only [List.length_set]; exact hx)
      refine ⟨ys, hy.trans (swp_perm hp hq), ?_⟩
      rw [← ih, hL]
      simp -implicitDefEqProofs only [go_sem, ir_slices_symMergeCmpFunc_api_Change_L3, w, c, h6, lk, lk1, n1, hp, hq, hq2, ias_own, set_ch, List.getElem?_map, Option.map_some, Nat.zero_add, Int.toNat_natCast, and_self, ChT.cells, ro_ch, Int.natCast_nonneg]
    · refine ⟨xs, .refl _, ?_⟩
      rw [hL]
      simp -implicitDefEqProofs only [go_sem, ir_slices_symMergeCmpFunc_api_Change_L3, w, c, ro_ch]
theorem s2_loop {E : Prog} (g N m f : Nat) (cmp : ChT → ChT → Int) (hc : Cmps E f cmp) (hN : N ≤ 1000) (ha : m < N) (xs : List ChT) (hx : xs.length = N) {L : Env × Store → Option (Sig × Env × Store)}
    (hL : ∀ e st, L (e, st) = (IR.runL E.glob (callL E) [] ir_slices_symMergeCmpFunc_api_Change_L2 e st).bind (seqK fun e st => L (compact [] 1 [0, 2, 4, 14, 15] e st))) :
    ∀ (d i j : Nat), j - i ≤ d → i ≤ j → j ≤ N → ∃ i' : Nat, i ≤ i' ∧ i' ≤ j ∧
    L ([(0, ownC g N), (2, vi m), (4, .fn f []), (14, vi i), (15, vi j)], rowC g xs) = some (.exit 4, [(0, ownC g N), (2, vi m), (14, vi i')], rowC g xs)
  | d, i, j, hd, hij, hj => by
    by_cases c : (i : Int) < (j : Int)
    · obtain ⟨p, hp⟩ := at_lt xs (i := (i + j) / 2) (by omega)
      obtain ⟨q, hq⟩ := at_lt xs (i := m) (by omega)
      have hm := mid_wrap (i := i) (j := j) (by omega)
      have h6 := wrap_succ (i := (i + j) / 2) (by omega)
      have lm : (i + j) / 2 < N := by omega
      have hcm := hc q p
      cases d with
      | zero => omega
      | succ d =>
        by_cases c2 : cmp q p < 0
        · obtain ⟨i', b1, b2, ih⟩ := s2_loop g N m f cmp hc hN ha xs hx hL d i ((i + j) / 2) (by omega) (by omega) (by omega)
          refine ⟨i', b1, by omega, ?_⟩
          rw [← ih, hL]
          simp -implicitDefEqProofs only [go_sem, ir_slices_symMergeCmpFunc_api_Change_L2, c, no10, hm, lm, ha, hp, hq, hcm, c2, ias_own, List.getElem?_map, Option.map_some, Nat.zero_add, Int.toNat_natCast, and_self, ChT.cells, ro_ch, Int.natCast_nonneg]
        · obtain ⟨i', b1, b2, ih⟩ := s2_loop g N m f cmp hc hN ha xs hx hL d ((i + j) / 2 + 1) j (by omega) (by omega) hj
          refine ⟨i', by omega, b2, ?_⟩
          rw [← ih, hL]
          simp -implicitDefEqProofs only [go_sem, ir_slices_symMergeCmpFunc_api_Change_L2, c, no10, hm, h6, lm, ha, hp, hq, hcm, c2, ias_own, List.getElem?_map, Option.map_some, Nat.zero_add, Int.toNat_natCast, and_self, ChT.cells, ro_ch, Int.natCast_nonneg]
    · refine ⟨i, Nat.le_refl _, hij, ?_⟩
      rw [hL]
      simp -implicitDefEqProofs only [go_sem, ir_slices_symMergeCmpFunc_api_Change_L2, c, ro_ch]
theorem s1_loop {E : Prog} (g N i : Nat) (hN : N ≤ 1000) {L : Env × Store → Option (Sig × Env × Store)}
    (hL : ∀ e st, L (e, st) = (IR.runL E.glob (callL E) [] ir_slices_symMergeCmpFunc_api_Change_L1 e st).bind (seqK fun e st => L (compact [] 1 [0, 14, 17] e st))) :
    ∀ (k : Nat) (xs : List ChT), k < N → xs.length = N → ∃ ys : List ChT, ys.Perm xs ∧
    L ([(0, ownC g N), (14, vi i), (17, vi k)], rowC g xs) = some (.exit 6, [], rowC g ys)
  | 0, xs, hk, hx => by
    have c : ¬ (i : Int) < ((0 : Nat) : Int) := by omega
    refine ⟨xs, .refl _, ?_⟩
    rw [hL]
    simp -implicitDefEqProofs only [go_sem, ir_slices_symMergeCmpFunc_api_Change_L1, c, ro_ch]
  | k + 1, xs, hk, hx => by
    by_cases c : (i : Int) < ((k + 1 : Nat) : Int)
    · have w := w_sub1 (i := k + 1) (by omega) (by omega)
      rw [Nat.add_sub_cancel] at w
      obtain ⟨p, hp⟩ := at_lt xs (i := k + 1) (by omega)
      obtain ⟨q, hq⟩ := at_lt xs (i := k) (by omega)
      have lk : k < N := by omega
      have n1 : (0 : Int) ≤ ((k + 1 : Nat) : Int) := by omega
      have hq2 := swp_at hp hq
      obtain ⟨ys, hy, ih⟩ := s1_loop g N i hN hL k ((xs.set (k + 1) q).set k p) (by omega) (by simp only [List.length_set]; exact hx)
      refine ⟨ys, hy.trans (swp_perm hp hq), ?_⟩
      rw [← ih, hL]
      simp -implicitDefEqProofs only [go_sem, ir_slices_symMergeCmpFunc_api_Change_L1, c, w, hk, lk, n1, hp, hq, hq2, ias_own, set_ch, List.getElem?_map, Option.map_some, Nat.zero_add, Int.toNat_natCast, and_self, ChT.cells, ro_ch, Int.natCast_nonneg]
    · refine ⟨xs, .refl _, ?_⟩
      rw [hL]
      simp -implicitDefEqProofs only [go_sem, ir_slices_symMergeCmpFunc_api_Change_L1, c, ro_ch]
theorem s0_loop {E : Prog} (g N f : Nat) (cmp : ChT → ChT → Int) (hc : Cmps E f cmp) (hN : N ≤ 1000) (xs : List ChT) (hx : xs.length = N) (a m b mid n : AV) (p : Nat) (hp2 : p ≤ 2000) {L : Env × Store → Option (Sig × Env × Store)} (s0 : a.ids = [] ∧ m.ids = [] ∧ b.ids = [] ∧ mid.ids = [] ∧ n.ids = [])
    (hL : ∀ e st, L (e, st) = (IR.runL E.glob (callL E) [] ir_slices_symMergeCmpFunc_api_Change_L0 e st).bind (seqK fun e st => L (compact [] 1 [0, 1, 2, 3, 4, 18, 19, 20, 21, 22] e st))) (ra rm rb rmid rn : Int) (ea : a = vi ra) (em : m = vi rm) (eb : b = vi rb) (emid : mid = vi rmid) (en : n = vi rn) :
    ∀ (d s r : Nat), r - s ≤ d → s ≤ r → r ≤ N → r ≤ p + 1 → p < N + s → ∃ s' : Nat, s ≤ s' ∧ s' ≤ r ∧
    L ([(0, ownC g N), (1, a), (2, m), (3, b), (4, .fn f []), (18, mid), (19, n), (20, vi s), (21, vi r), (22, vi p)], rowC g xs) =
      some (.exit 8, [(0, ownC g N), (1, a), (2, m), (3, b), (4, .fn f []), (18, mid), (19, n), (20, vi s')], rowC g xs)
  | d, s, r, hd, hsr, hr, hrp, hps => by
    subst ea em eb emid en
    by_cases c : (s : Int) < (r : Int)
    · obtain ⟨u, hu⟩ := at_lt xs (i := p - (s + r) / 2) (by omega)
      obtain ⟨v, hv⟩ := at_lt xs (i := (s + r) / 2) (by omega)
      have hm := mid_wrap (i := s) (j := r) (by omega)
      have w := w_sub (i := p) (j := (s + r) / 2) (by omega) (by omega)
      have h6 := wrap_succ (i := (s + r) / 2) (by omega)
      have l1 : p - (s + r) / 2 < N := by omega
      have l2 : (s + r) / 2 < N := by omega
      have hcm := hc u v
      cases d with
      | zero => omega
      | succ d =>
        by_cases c2 : cmp u v < 0
        · obtain ⟨s', b1, b2, ih⟩ := s0_loop g N f cmp hc hN xs hx (vi ra) (vi rm) (vi rb) (vi rmid) (vi rn) p hp2 s0 hL ra rm rb rmid rn rfl rfl rfl rfl rfl d s ((s + r) / 2) (by omega) (by omega) (by omega) (by omega) hps
          refine ⟨s', b1, by omega, ?_⟩
          rw [← ih, hL]
          simp -implicitDefEqProofs only [go_sem, ir_slices_symMergeCmpFunc_api_Change_L0, c, no10, hm, w, l1, l2, hu, hv, hcm, c2, ias_own, List.getElem?_map, Option.map_some, Nat.zero_add, Int.toNat_natCast, and_self, ChT.cells, ro_ch, Int.natCast_nonneg]
        · obtain ⟨s', b1, b2, ih⟩ := s0_loop g N f cmp hc hN xs hx (vi ra) (vi rm) (vi rb) (vi rmid) (vi rn) p hp2 s0 hL ra rm rb rmid rn rfl rfl rfl rfl rfl d ((s + r) / 2 + 1) r (by omega) (by omega) hr hrp (by omega)
          refine ⟨s', by omega, b2, ?_⟩
          rw [← ih, hL]
          simp -implicitDefEqProofs only [go_sem, ir_slices_symMergeCmpFunc_api_Change_L0, c, no10, hm, w, h6, l1, l2, hu, hv, hcm, c2, ias_own, List.getElem?_map, Option.map_some, Nat.zero_add, Int.toNat_natCast, and_self, ChT.cells, ro_ch, Int.natCast_nonneg]
    · refine ⟨s, Nat.le_refl _, hsr, ?_⟩
      rw [hL]
      simp -implicitDefEqProofs only [go_sem, ir_slices_symMergeCmpFunc_api_Change_L0, c, ro_ch]
theorem sym_a {E : Prog} (hE : Std E fns) (g N f : Nat) (cmp : ChT → ChT → Int) (hc : Cmps E f cmp) (hN : N ≤ 1000) (a m b : Nat) (xs : List ChT) (h1 : m - a = 1) (h2 : m < b) (h3 : b ≤ N) (hx : xs.length = N) : ∃ ys : List ChT, ys.Perm xs ∧
    callL E f_slices_symMergeCmpFunc_api_Change [ownC g N, vi a, vi m, vi b, .fn f []] [] (rowC g xs) = some (.tup [], rowC g ys) := by
  have w1 := w_sub (i := m) (j := a) (by omega) (by omega)
  have c1 : ((m - a : Nat) : Int) = 1 := by omega
  obtain ⟨i', b1, b2, e1⟩ := s4_loop (E := E) g N a f cmp hc hN (by omega) xs hx (loopL_eq (IR.runL E.glob (callL E) [] ir_slices_symMergeCmpFunc_api_Change_L4) (compact [] 1 [0, 1, 4, 10, 11])) N m b (by omega) (by omega) h3
  obtain ⟨ys, hy, e2⟩ := s3_loop (E := E) g N i' hN (by omega) (by omega) (loopL_eq (IR.runL E.glob (callL E) [] ir_slices_symMergeCmpFunc_api_Change_L3) (compact [] 1 [0, 10, 13])) N a xs (by omega) (by omega) hx
  refine ⟨ys, hy, ?_⟩
  rw [hE.runN rfl rfl]
  simp -implicitDefEqProofs only [go_sem, ir_slices_symMergeCmpFunc_api_Change, w1, c1, e1, e2, ro_ch]
theorem sym_b {E : Prog} (hE : Std E fns) (g N f : Nat) (cmp : ChT → ChT → Int) (hc : Cmps E f cmp) (hN : N ≤ 1000) (a m b : Nat) (xs : List ChT) (h0 : a < m) (h1 : ¬ m - a = 1) (h2 : b - m = 1) (h3 : b ≤ N) (hx : xs.length = N) : ∃ ys : List ChT, ys.Perm xs ∧
    callL E f_slices_symMergeCmpFunc_api_Change [ownC g N, vi a, vi m, vi b, .fn f []] [] (rowC g xs) = some (.tup [], rowC g ys) := by
  have w1 := w_sub (i := m) (j := a) (by omega) (by omega)
  have w2 := w_sub (i := b) (j := m) (by omega) (by omega)
  have c1 : ¬ ((m - a : Nat) : Int) = 1 := by omega
  have c2 : ((b - m : Nat) : Int) = 1 := by omega
  obtain ⟨i', b1, b2, e1⟩ := s2_loop (E := E) g N m f cmp hc hN (by omega) xs hx (loopL_eq (IR.runL E.glob (callL E) [] ir_slices_symMergeCmpFunc_api_Change_L2) (compact [] 1 [0, 2, 4, 14, 15])) N a m (by omega) (by omega) (by omega)
  obtain ⟨ys, hy, e2⟩ := s1_loop (E := E) g N i' hN (loopL_eq (IR.runL E.glob (callL E) [] ir_slices_symMergeCmpFunc_api_Change_L1) (compact [] 1 [0, 14, 17])) m xs (by omega) hx
  refine ⟨ys, hy, ?_⟩
  rw [hE.runN rfl rfl]
  simp -implicitDefEqProofs only [go_sem, ir_slices_symMergeCmpFunc_api_Change, w1, w2, c1, c2, e1, e2, ro_ch]
section
variable {E : Prog} (hE : Std E fns) (g N a m b mid s f : Nat) (hN : N ≤ 1000) (h0 : a < m) (h1 : ¬ m - a = 1) (h2 : ¬ b - m = 1) (hb : m < b) (h3 : b ≤ N) (hmid : mid = (a + b) / 2) (xs z1 z2 z3 : List ChT) (hs : s ≤ mid + m)
  (ra : (s : Int) < (m : Int) ∧ (m : Int) < ((mid + m - s : Nat) : Int) → callL E f_slices_rotateCmpFunc_api_Change [ownC g N, vi s, vi m, vi ((mid + m - s : Nat) : Int), .fn f []] [] (rowC g xs) = some (.tup [], rowC g z1))
  (rn : ¬ ((s : Int) < (m : Int) ∧ (m : Int) < ((mid + m - s : Nat) : Int)) → z1 = xs)
  (sa : (a : Int) < (s : Int) ∧ (s : Int) < (mid : Int) → callL E f_slices_symMergeCmpFunc_api_Change [ownC g N, vi a, vi s, vi mid, .fn f []] [] (rowC g z1) = some (.tup [], rowC g z2))
  (sn : ¬ ((a : Int) < (s : Int) ∧ (s : Int) < (mid : Int)) → z2 = z1)
  (ta : (mid : Int) < ((mid + m - s : Nat) : Int) ∧ ((mid + m - s : Nat) : Int) < (b : Int) → callL E f_slices_symMergeCmpFunc_api_Change [ownC g N, vi mid, vi ((mid + m - s : Nat) : Int), vi b, .fn f []] [] (rowC g z2) = some (.tup [], rowC g z3))
  (tn : ¬ ((mid : Int) < ((mid + m - s : Nat) : Int) ∧ ((mid + m - s : Nat) : Int) < (b : Int)) → z3 = z2)
include hE hN h0 h1 h2 hb h3 hmid hs ra rn sa sn ta tn
set_option maxHeartbeats 4000000 in
theorem sym_hi (cm : (mid : Int) < (m : Int))
    (e1 : loopL (IR.runL E.glob (callL E) [] ir_slices_symMergeCmpFunc_api_Change_L0) (compact [] 1 [0, 1, 2, 3, 4, 18, 19, 20, 21, 22]) ([(0, ownC g N), (1, vi a), (2, vi m), (3, vi b), (4, .fn f []), (18, vi mid), (19, vi ((mid + m : Nat) : Int)), (20, vi ((mid + m - b : Nat) : Int)), (21, vi mid), (22, vi ((mid + m - 1 : Nat) : Int))], rowC g xs) =
      some (.exit 8, [(0, ownC g N), (1, vi a), (2, vi m), (3, vi b), (4, .fn f []), (18, vi mid), (19, vi ((mid + m : Nat) : Int)), (20, vi s)], rowC g xs)) :
    callL E f_slices_symMergeCmpFunc_api_Change [ownC g N, vi a, vi m, vi b, .fn f []] [] (rowC g xs) = some (.tup [], rowC g z3) := by
  have w1 := w_sub (i := m) (j := a) (by omega) (by omega)
  have w2 := w_sub (i := b) (j := m) (by omega) (by omega)
  have c1 : ¬ ((m - a : Nat) : Int) = 1 := by omega
  have c2 : ¬ ((b - m : Nat) : Int) = 1 := by omega
  have hm := mid_wrap (i := a) (j := b) (by omega)
  rw [← hmid] at hm
  have w3 := w_add (i := mid) (j := m) (by omega)
  have w4 := w_sub (i := mid + m) (j := b) (by omega) (by omega)
  have w5 := w_sub1 (i := mid + m) (by omega) (by omega)
  have w6 := w_sub (i := mid + m) (j := s) (by omega) hs
  rw [hE.runN rfl rfl]
  by_cases c3 : (s : Int) < (m : Int) ∧ (m : Int) < ((mid + m - s : Nat) : Int)
  · have r1 := ra c3
    by_cases c4 : (a : Int) < (s : Int) ∧ (s : Int) < (mid : Int)
    · have r2 := sa c4
      by_cases c5 : (mid : Int) < ((mid + m - s : Nat) : Int) ∧ ((mid + m - s : Nat) : Int) < (b : Int)
      · have r3 := ta c5
        simp -implicitDefEqProofs only [go_sem, ir_slices_symMergeCmpFunc_api_Change, no10, w1, w2, c1, c2, hm, w3, w5, w6, cm, w4, e1, gand_b, Bool.and_eq_true, c3, c4, c5, r1, r2, r3, ro_ch]
      · have r3 := tn c5
        subst r3
        simp -implicitDefEqProofs only [go_sem, ir_slices_symMergeCmpFunc_api_Change, no10, w1, w2, c1, c2, hm, w3, w5, w6, cm, w4, e1, gand_b, Bool.and_eq_true, c3, c4, c5, r1, r2, ro_ch]
    · have r2 := sn c4
      subst r2
      by_cases c5 : (mid : Int) < ((mid + m - s : Nat) : Int) ∧ ((mid + m - s : Nat) : Int) < (b : Int)
      · have r3 := ta c5
        simp -implicitDefEqProofs only [go_sem, ir_slices_symMergeCmpFunc_api_Change, no10, w1, w2, c1, c2, hm, w3, w5, w6, cm, w4, e1, gand_b, Bool.and_eq_true, c3, c4, c5, r1, r3, ro_ch]
      · have r3 := tn c5
        subst r3
        simp -implicitDefEqProofs only [go_sem, ir_slices_symMergeCmpFunc_api_Change, no10, w1, w2, c1, c2, hm, w3, w5, w6, cm, w4, e1, gand_b, Bool.and_eq_true, c3, c4, c5, r1, ro_ch]
  · have r1 := rn c3
    subst r1
    by_cases c4 : (a : Int) < (s : Int) ∧ (s : Int) < (mid : Int)
    · have r2 := sa c4
      by_cases c5 : (mid : Int) < ((mid + m - s : Nat) : Int) ∧ ((mid + m - s : Nat) : Int) < (b : Int)
      · have r3 := ta c5
        simp -implicitDefEqProofs only [go_sem, ir_slices_symMergeCmpFunc_api_Change, no10, w1, w2, c1, c2, hm, w3, w5, w6, cm, w4, e1, gand_b, Bool.and_eq_true, c3, c4, c5, r2, r3, ro_ch]
      · have r3 := tn c5
        subst r3
        simp -implicitDefEqProofs only [go_sem, ir_slices_symMergeCmpFunc_api_Change, no10, w1, w2, c1, c2, hm, w3, w5, w6, cm, w4, e1, gand_b, Bool.and_eq_true, c3, c4, c5, r2, ro_ch]
    · have r2 := sn c4
      subst r2
      by_cases c5 : (mid : Int) < ((mid + m - s : Nat) : Int) ∧ ((mid + m - s : Nat) : Int) < (b : Int)
      · have r3 := ta c5
        simp -implicitDefEqProofs only [go_sem, ir_slices_symMergeCmpFunc_api_Change, no10, w1, w2, c1, c2, hm, w3, w5, w6, cm, w4, e1, gand_b, Bool.and_eq_true, c3, c4, c5, r3, ro_ch]
      · have r3 := tn c5
        subst r3
        simp -implicitDefEqProofs only [go_sem, ir_slices_symMergeCmpFunc_api_Change, no10, w1, w2, c1, c2, hm, w3, w5, w6, cm, w4, e1, gand_b, Bool.and_eq_true, c3, c4, c5, ro_ch]
set_option maxHeartbeats 4000000 in
theorem sym_lo (cm : ¬ (mid : Int) < (m : Int))
    (e1 : loopL (IR.runL E.glob (callL E) [] ir_slices_symMergeCmpFunc_api_Change_L0) (compact [] 1 [0, 1, 2, 3, 4, 18, 19, 20, 21, 22]) ([(0, ownC g N), (1, vi a), (2, vi m), (3, vi b), (4, .fn f []), (18, vi mid), (19, vi ((mid + m : Nat) : Int)), (20, vi a), (21, vi m), (22, vi ((mid + m - 1 : Nat) : Int))], rowC g xs) =
      some (.exit 8, [(0, ownC g N), (1, vi a), (2, vi m), (3, vi b), (4, .fn f []), (18, vi mid), (19, vi ((mid + m : Nat) : Int)), (20, vi s)], rowC g xs)) :
    callL E f_slices_symMergeCmpFunc_api_Change [ownC g N, vi a, vi m, vi b, .fn f []] [] (rowC g xs) = some (.tup [], rowC g z3) := by
  have w1 := w_sub (i := m) (j := a) (by omega) (by omega)
  have w2 := w_sub (i := b) (j := m) (by omega) (by omega)
  have c1 : ¬ ((m - a : Nat) : Int) = 1 := by omega
  have c2 : ¬ ((b - m : Nat) : Int) = 1 := by omega
  have hm := mid_wrap (i := a) (j := b) (by omega)
  rw [← hmid] at hm
  have w3 := w_add (i := mid) (j := m) (by omega)
  have w5 := w_sub1 (i := mid + m) (by omega) (by omega)
  have w6 := w_sub (i := mid + m) (j := s) (by omega) hs
  rw [hE.runN rfl rfl]
  by_cases c3 : (s : Int) < (m : Int) ∧ (m : Int) < ((mid + m - s : Nat) : Int)
  · have r1 := ra c3
    by_cases c4 : (a : Int) < (s : Int) ∧ (s : Int) < (mid : Int)
    · have r2 := sa c4
      by_cases c5 : (mid : Int) < ((mid + m - s : Nat) : Int) ∧ ((mid + m - s : Nat) : Int) < (b : Int)
      · have r3 := ta c5
        simp -implicitDefEqProofs only [go_sem, ir_slices_symMergeCmpFunc_api_Change, no10, w1, w2, c1, c2, hm, w3, w5, w6, cm, e1, gand_b, Bool.and_eq_true, c3, c4, c5, r1, r2, r3, ro_ch]
      · have r3 := tn c5
        subst r3
        simp -implicitDefEqProofs only [go_sem, ir_slices_symMergeCmpFunc_api_Change, no10, w1, w2, c1, c2, hm, w3, w5, w6, cm, e1, gand_b, Bool.and_eq_true, c3, c4, c5, r1, r2, ro_ch]
    · have r2 := sn c4
      subst r2
      by_cases c5 : (mid : Int) < ((mid + m - s : Nat) : Int) ∧ ((mid + m - s : Nat) : Int) < (b : Int)
      · have r3 := ta c5
        simp -implicitDefEqProofs only [go_sem, ir_slices_symMergeCmpFunc_api_Change, no10, w1, w2, c1, c2, hm, w3, w5, w6, cm, e1, gand_b, Bool.and_eq_true, c3, c4, c5, r1, r3, ro_ch]
      · have r3 := tn c5
        subst r3
        simp -implicitDefEqProofs only [go_sem, ir_slices_symMergeCmpFunc_api_Change, no10, w1, w2, c1, c2, hm, w3, w5, w6, cm, e1, gand_b, Bool.and_eq_true, c3, c4, c5, r1, ro_ch]
  · have r1 := rn c3
    subst r1
    by_cases c4 : (a : Int) < (s : Int) ∧ (s : Int) < (mid : Int)
    · have r2 := sa c4
      by_cases c5 : (mid : Int) < ((mid + m - s : Nat) : Int) ∧ ((mid + m - s : Nat) : Int) < (b : Int)
      · have r3 := ta c5
        simp -implicitDefEqProofs only [go_sem, ir_slices_symMergeCmpFunc_api_Change, no10, w1, w2, c1, c2, hm, w3, w5, w6, cm, e1, gand_b, Bool.and_eq_true, c3, c4, c5, r2, r3, ro_ch]
      · have r3 := tn c5
        subst r3
        simp -implicitDefEqProofs only [go_sem, ir_slices_symMergeCmpFunc_api_Change, no10, w1, w2, c1, c2, hm, w3, w5, w6, cm, e1, gand_b, Bool.and_eq_true, c3, c4, c5, r2, ro_ch]
    · have r2 := sn c4
      subst r2
      by_cases c5 : (mid : Int) < ((mid + m - s : Nat) : Int) ∧ ((mid + m - s : Nat) : Int) < (b : Int)
      · have r3 := ta c5
        simp -implicitDefEqProofs only [go_sem, ir_slices_symMergeCmpFunc_api_Change, no10, w1, w2, c1, c2, hm, w3, w5, w6, cm, e1, gand_b, Bool.and_eq_true, c3, c4, c5, r3, ro_ch]
      · have r3 := tn c5
        subst r3
        simp -implicitDefEqProofs only [go_sem, ir_slices_symMergeCmpFunc_api_Change, no10, w1, w2, c1, c2, hm, w3, w5, w6, cm, e1, gand_b, Bool.and_eq_true, c3, c4, c5, ro_ch]
end
theorem fn_sym {E : Prog} (hE : Std E fns) (g N f : Nat) (cmp : ChT → ChT → Int) (hc : Cmps E f cmp) (hN : N ≤ 1000) : ∀ (k a m b : Nat) (xs : List ChT), b - a ≤ k → a < m → m < b → b ≤ N → xs.length = N → ∃ ys : List ChT, ys.Perm xs ∧
    callL E f_slices_symMergeCmpFunc_api_Change [ownC g N, vi a, vi m, vi b, .fn f []] [] (rowC g xs) = some (.tup [], rowC g ys)
  | 0, a, m, b, xs, hk, h1, h2, h3, hx => by omega
  | k + 1, a, m, b, xs, hk, h1, h2, h3, hx => by
    by_cases c1 : m - a = 1
    · exact sym_a hE g N f cmp hc hN a m b xs c1 h2 h3 hx
    · by_cases c2 : b - m = 1
      · exact sym_b hE g N f cmp hc hN a m b xs h1 c1 c2 h3 hx
      · obtain ⟨mid, hmid⟩ : ∃ mid, mid = (a + b) / 2 := ⟨_, rfl⟩
        have rest : ∀ s : Nat, s ≤ mid + m → a ≤ s → mid + m ≤ b + s → ∃ z1 z2 z3 : List ChT, z3.Perm xs ∧
            (((s : Int) < (m : Int) ∧ (m : Int) < ((mid + m - s : Nat) : Int)) → callL E f_slices_rotateCmpFunc_api_Change [ownC g N, vi s, vi m, vi ((mid + m - s : Nat) : Int), .fn f []] [] (rowC g xs) = some (.tup [], rowC g z1)) ∧
            (¬ ((s : Int) < (m : Int) ∧ (m : Int) < ((mid + m - s : Nat) : Int)) → z1 = xs) ∧
            (((a : Int) < (s : Int) ∧ (s : Int) < (mid : Int)) → callL E f_slices_symMergeCmpFunc_api_Change [ownC g N, vi a, vi s, vi mid, .fn f []] [] (rowC g z1) = some (.tup [], rowC g z2)) ∧
            (¬ ((a : Int) < (s : Int) ∧ (s : Int) < (mid : Int)) → z2 = z1) ∧
            (((mid : Int) < ((mid + m - s : Nat) : Int) ∧ ((mid + m - s : Nat) : Int) < (b : Int)) → callL E f_slices_symMergeCmpFunc_api_Change [ownC g N, vi mid, vi ((mid + m - s : Nat) : Int), vi b, .fn f []] [] (rowC g z2) = some (.tup [], rowC g z3)) ∧
            (¬ ((mid : Int) < ((mid + m - s : Nat) : Int) ∧ ((mid + m - s : Nat) : Int) < (b : Int)) → z3 = z2) := by
          intro s hs has hsb
          obtain ⟨z1, p1, q1, q2⟩ : ∃ z1 : List ChT, z1.Perm xs ∧ (((s : Int) < (m : Int) ∧ (m : Int) < ((mid + m - s : Nat) : Int)) → callL E f_slices_rotateCmpFunc_api_Change [ownC g N, vi s, vi m, vi ((mid + m - s : Nat) : Int), .fn f []] [] (rowC g xs) = some (.tup [], rowC g z1)) ∧
              (¬ ((s : Int) < (m : Int) ∧ (m : Int) < ((mid + m - s : Nat) : Int)) → z1 = xs) := by
            by_cases c : (s : Int) < (m : Int) ∧ (m : Int) < ((mid + m - s : Nat) : Int)
            · obtain ⟨z, p, q⟩ := fn_rot hE g N s m (mid + m - s) f hN (by omega) (by omega) (by omega) xs hx
              exact ⟨z, p, fun _ => q, fun h => absurd c h⟩
            · exact ⟨xs, .refl _, fun h => absurd h c, fun _ => rfl⟩
          have x1 : z1.length = N := by rw [p1.length_eq]; exact hx
          obtain ⟨z2, p2, q3, q4⟩ : ∃ z2 : List ChT, z2.Perm z1 ∧ (((a : Int) < (s : Int) ∧ (s : Int) < (mid : Int)) → callL E f_slices_symMergeCmpFunc_api_Change [ownC g N, vi a, vi s, vi mid, .fn f []] [] (rowC g z1) = some (.tup [], rowC g z2)) ∧
              (¬ ((a : Int) < (s : Int) ∧ (s : Int) < (mid : Int)) → z2 = z1) := by
            by_cases c : (a : Int) < (s : Int) ∧ (s : Int) < (mid : Int)
            · obtain ⟨z, p, q⟩ := fn_sym hE g N f cmp hc hN k a s mid z1 (by omega) (by omega) (by omega) (by omega) x1
              exact ⟨z, p, fun _ => q, fun h => absurd c h⟩
            · exact ⟨z1, .refl _, fun h => absurd h c, fun _ => rfl⟩
          have x2 : z2.length = N := by rw [p2.length_eq]; exact x1
          by_cases c : (mid : Int) < ((mid + m - s : Nat) : Int) ∧ ((mid + m - s : Nat) : Int) < (b : Int)
          · obtain ⟨z, p, q⟩ := fn_sym hE g N f cmp hc hN k mid (mid + m - s) b z2 (by omega) (by omega) (by omega) h3 x2
            exact ⟨z1, z2, z, p.trans (p2.trans p1), q1, q2, q3, q4, fun _ => q, fun h => absurd c h⟩
          · exact ⟨z1, z2, z2, p2.trans p1, q1, q2, q3, q4, fun h => absurd h c, fun _ => rfl⟩
        by_cases cm : (mid : Int) < (m : Int)
        · obtain ⟨s, b1, b2, e1⟩ := s0_loop (E := E) g N f cmp hc hN xs hx (vi a) (vi m) (vi b) (vi mid) (vi ((mid + m : Nat) : Int)) (mid + m - 1) (by omega) ⟨rfl, rfl, rfl, rfl, rfl⟩ (loopL_eq (IR.runL E.glob (callL E) [] ir_slices_symMergeCmpFunc_api_Change_L0) (compact [] 1 [0, 1, 2, 3, 4, 18, 19, 20, 21, 22])) _ _ _ _ _ rfl rfl rfl rfl rfl
            N (mid + m - b) mid (by omega) (by omega) (by omega) (by omega) (by omega)
          obtain ⟨z1, z2, z3, p, q1, q2, q3, q4, q5, q6⟩ := rest s (by omega) (by omega) (by omega)
          exact ⟨z3, p, sym_hi hE g N a m b mid s f hN h1 c1 c2 h2 h3 hmid xs z1 z2 z3 (by omega) q1 q2 q3 q4 q5 q6 cm e1⟩
        · obtain ⟨s, b1, b2, e1⟩ := s0_loop (E := E) g N f cmp hc hN xs hx (vi a) (vi m) (vi b) (vi mid) (vi ((mid + m : Nat) : Int)) (mid + m - 1) (by omega) ⟨rfl, rfl, rfl, rfl, rfl⟩ (loopL_eq (IR.runL E.glob (callL E) [] ir_slices_symMergeCmpFunc_api_Change_L0) (compact [] 1 [0, 1, 2, 3, 4, 18, 19, 20, 21, 22])) _ _ _ _ _ rfl rfl rfl rfl rfl
            N a m (by omega) (by omega) (by omega) (by omega) (by omega)
          obtain ⟨z1, z2, z3, p, q1, q2, q3, q4, q5, q6⟩ := rest s (by omega) (by omega) (by omega)
          exact ⟨z3, p, sym_lo hE g N a m b mid s f hN h1 c1 c2 h2 h3 hmid xs z1 z2 z3 (by omega) q1 q2 q3 q4 q5 q6 cm e1⟩
theorem w_mul2 {i : Nat} (h : i ≤ 4000) : IntKind.i64.wrap (2 * (i : Int)) = ((2 * i : Nat) : Int) := by rw [IntWalk.i64_in _ (by omega)]; omega
theorem w_mul2' {i : Nat} (h : i ≤ 4000) : IntKind.i64.wrap ((i : Int) * 2) = ((2 * i : Nat) : Int) := by rw [IntWalk.i64_in _ (by omega)]; omega
theorem st2_loop {E : Prog} (hE : Std E fns) (g N f : Nat) (cmp : ChT → ChT → Int) (hc : Cmps E f cmp) (hN : N ≤ 1000) {L : Env × Store → Option (Sig × Env × Store)}
    (hL : ∀ e st, L (e, st) = (IR.runL E.glob (callL E) [] ir_slices_stableCmpFunc_api_Change_L2 e st).bind (seqK fun e st => L (compact [] 1 [0, 1, 2, 6, 7, 8] e st))) :
    ∀ (r a : Nat) (xs : List ChT), N ≤ a + r → a ≤ N → xs.length = N → ∃ (ys : List ChT) (a' : Nat), ys.Perm xs ∧ a' ≤ N ∧
    L ([(0, ownC g N), (1, vi N), (2, .fn f []), (6, vi 20), (7, vi a), (8, vi ((a + 20 : Nat) : Int))], rowC g xs) = some (.exit 0, [(0, ownC g N), (1, vi N), (2, .fn f []), (6, vi 20), (7, vi a')], rowC g ys)
  | 0, a, xs, hr, ha, hx => by
    have c : ¬ ((a + 20 : Nat) : Int) ≤ (N : Int) := by omega
    refine ⟨xs, a, .refl _, ha, ?_⟩
    rw [hL]
    simp -implicitDefEqProofs only [go_sem, ir_slices_stableCmpFunc_api_Change_L2, c, ro_ch]
  | r + 1, a, xs, hr, ha, hx => by
    by_cases c : ((a + 20 : Nat) : Int) ≤ (N : Int)
    · obtain ⟨zs, hz, hs⟩ := fn_insSort hE g N a (a + 20) f cmp hc hN (by omega) (by omega) xs hx
      obtain ⟨ys, a', hy, b1, ih⟩ := st2_loop hE g N f cmp hc hN hL r (a + 20) zs (by omega) (by omega) (by rw [hz.length_eq]; exact hx)
      have w : IntKind.i64.wrap (((a + 20 : Nat) : Int) + 20) = ((a + 20 + 20 : Nat) : Int) := by rw [IntWalk.i64_in _ (by omega)]; omega
      refine ⟨ys, a', hy.trans hz, b1, ?_⟩
      rw [← ih, hL]
      simp -implicitDefEqProofs only [go_sem, ir_slices_stableCmpFunc_api_Change_L2, c, w, hs, ro_ch]
    · refine ⟨xs, a, .refl _, ha, ?_⟩
      rw [hL]
      simp -implicitDefEqProofs only [go_sem, ir_slices_stableCmpFunc_api_Change_L2, c, ro_ch]
theorem st0_loop {E : Prog} (hE : Std E fns) (g N f bs : Nat) (cmp : ChT → ChT → Int) (hc : Cmps E f cmp) (hN : N ≤ 1000) (h0 : 1 ≤ bs) (h1 : bs ≤ 1000) {L : Env × Store → Option (Sig × Env × Store)}
    (hL : ∀ e st, L (e, st) = (IR.runL E.glob (callL E) [] ir_slices_stableCmpFunc_api_Change_L0 e st).bind (seqK fun e st => L (compact [] 1 [0, 1, 2, 6, 7, 8] e st))) :
    ∀ (r a : Nat) (xs : List ChT), N ≤ a + r → a ≤ N → xs.length = N → ∃ (ys : List ChT) (a' : Nat), ys.Perm xs ∧ a' ≤ N ∧
    L ([(0, ownC g N), (1, vi N), (2, .fn f []), (6, vi bs), (7, vi a), (8, vi ((a + 2 * bs : Nat) : Int))], rowC g xs) = some (.exit 4, [(0, ownC g N), (1, vi N), (2, .fn f []), (6, vi bs), (7, vi a')], rowC g ys)
  | 0, a, xs, hr, ha, hx => by
    have c : ¬ ((a + 2 * bs : Nat) : Int) ≤ (N : Int) := by omega
    refine ⟨xs, a, .refl _, ha, ?_⟩
    rw [hL]
    simp -implicitDefEqProofs only [go_sem, ir_slices_stableCmpFunc_api_Change_L0, c, ro_ch]
  | r + 1, a, xs, hr, ha, hx => by
    by_cases c : ((a + 2 * bs : Nat) : Int) ≤ (N : Int)
    · obtain ⟨zs, hz, hs⟩ := fn_sym hE g N f cmp hc hN N a (a + bs) (a + 2 * bs) xs (by omega) (by omega) (by omega) (by omega) hx
      obtain ⟨ys, a', hy, b1, ih⟩ := st0_loop hE g N f bs cmp hc hN h0 h1 hL r (a + 2 * bs) zs (by omega) (by omega) (by rw [hz.length_eq]; exact hx)
      have w1 := w_add (i := a) (j := bs) (by omega)
      have w2 := w_mul2 (i := bs) (by omega)
      have w3 := w_add (i := a + 2 * bs) (j := 2 * bs) (by omega)
      refine ⟨ys, a', hy.trans hz, b1, ?_⟩
      rw [← ih, hL]
      simp -implicitDefEqProofs only [go_sem, ir_slices_stableCmpFunc_api_Change_L0, c, w1, w2, w3, hs, ro_ch]
    · refine ⟨xs, a, .refl _, ha, ?_⟩
      rw [hL]
      simp -implicitDefEqProofs only [go_sem, ir_slices_stableCmpFunc_api_Change_L0, c, ro_ch]
theorem st1_loop {E : Prog} (hE : Std E fns) (g N f : Nat) (cmp : ChT → ChT → Int) (hc : Cmps E f cmp) (hN : N ≤ 1000) {L : Env × Store → Option (Sig × Env × Store)}
    (hL : ∀ e st, L (e, st) = (IR.runL E.glob (callL E) [] ir_slices_stableCmpFunc_api_Change_L1 e st).bind (seqK fun e st => L (compact [] 1 [0, 1, 2, 6] e st))) :
    ∀ (r bs : Nat) (xs : List ChT), N ≤ bs + r → 1 ≤ bs → bs ≤ 2000 → xs.length = N → ∃ ys : List ChT, ys.Perm xs ∧
    L ([(0, ownC g N), (1, vi N), (2, .fn f []), (6, vi bs)], rowC g xs) = some (.exit 2, [], rowC g ys)
  | 0, bs, xs, hr, h1, h2, hx => by
    have c : ¬ (bs : Int) < (N : Int) := by omega
    refine ⟨xs, .refl _, ?_⟩
    rw [hL]
    simp -implicitDefEqProofs only [go_sem, ir_slices_stableCmpFunc_api_Change_L1, c, ro_ch]
  | r + 1, bs, xs, hr, h1, h2, hx => by
    by_cases c : (bs : Int) < (N : Int)
    · have w1 := w_mul2 (i := bs) (by omega)
      have w2 := w_mul2' (i := bs) (by omega)
      obtain ⟨zs, a, hz, ha, hs⟩ := st0_loop hE g N f bs cmp hc hN h1 (by omega) (loopL_eq (IR.runL E.glob (callL E) [] ir_slices_stableCmpFunc_api_Change_L0) (compact [] 1 [0, 1, 2, 6, 7, 8])) N 0 xs (by omega) (by omega) hx
      simp only [Nat.zero_add, Int.natCast_zero] at hs
      have hzl : zs.length = N := by rw [hz.length_eq]; exact hx
      have w3 := w_add (i := a) (j := bs) (by omega)
      by_cases c2 : ((a + bs : Nat) : Int) < (N : Int)
      · obtain ⟨us, hu, hm⟩ := fn_sym hE g N f cmp hc hN N a (a + bs) N zs (by omega) (by omega) (by omega) (Nat.le_refl _) hzl
        obtain ⟨ys, hy, ih⟩ := st1_loop hE g N f cmp hc hN hL r (2 * bs) us (by omega) (by omega) (by omega) (by rw [hu.length_eq]; exact hzl)
        refine ⟨ys, hy.trans (hu.trans hz), ?_⟩
        rw [← ih, hL]
        simp -implicitDefEqProofs only [go_sem, ir_slices_stableCmpFunc_api_Change_L1, c, c2, w1, w2, w3, hs, hm, ro_ch]
      · obtain ⟨ys, hy, ih⟩ := st1_loop hE g N f cmp hc hN hL r (2 * bs) zs (by omega) (by omega) (by omega) hzl
        refine ⟨ys, hy.trans hz, ?_⟩
        rw [← ih, hL]
        simp -implicitDefEqProofs only [go_sem, ir_slices_stableCmpFunc_api_Change_L1, c, c2, w1, w2, w3, hs, ro_ch]
    · refine ⟨xs, .refl _, ?_⟩
      rw [hL]
      simp -implicitDefEqProofs only [go_sem, ir_slices_stableCmpFunc_api_Change_L1, c, ro_ch]
theorem fn_stable {E : Prog} (hE : Std E fns) (g f : Nat) (cmp : ChT → ChT → Int) (hc : Cmps E f cmp) (xs : List ChT) (hN : xs.length ≤ 1000) : ∃ ys : List ChT, ys.Perm xs ∧
    callL E f_slices_SortStableFunc_api_Change_api_Change [ownC g xs.length, .fn f []] [] (rowC g xs) = some (.tup [], rowC g ys) := by
  obtain ⟨zs, a, hz, ha, h1⟩ := st2_loop hE g xs.length f cmp hc hN (loopL_eq (IR.runL E.glob (callL E) [] ir_slices_stableCmpFunc_api_Change_L2) (compact [] 1 [0, 1, 2, 6, 7, 8])) xs.length 0 xs (by omega) (by omega) rfl
  obtain ⟨us, hu, h2⟩ := fn_insSort hE g xs.length a xs.length f cmp hc hN (by omega) (Nat.le_refl _) zs hz.length_eq
  obtain ⟨ys, hy, h3⟩ := st1_loop hE g xs.length f cmp hc hN (loopL_eq (IR.runL E.glob (callL E) [] ir_slices_stableCmpFunc_api_Change_L1) (compact [] 1 [0, 1, 2, 6])) xs.length 20 us (by omega) (by omega) (by omega) (by rw [hu.length_eq]; exact hz.length_eq)
  refine ⟨ys, hy.trans (hu.trans hz), ?_⟩
  simp only [Nat.zero_add, Int.natCast_zero] at h1
  have e20 : ((20 : Nat) : Int) = 20 := rfl
  rw [e20] at h1 h3
  have hs : callL E f_slices_stableCmpFunc_api_Change [ownC g xs.length, vi xs.length, .fn f []] [] (rowC g xs) = some (.tup [], rowC g ys) := by
    generalize xs.length = N at *
    rw [hE.runN rfl rfl]
    simp -implicitDefEqProofs only [go_sem, ir_slices_stableCmpFunc_api_Change, h1, h2, h3, ro_ch]
  rw [hE.runN rfl rfl]
  simp -implicitDefEqProofs only [go_sem, ir_slices_SortStableFunc_api_Change_api_Change, lenA_own, hs, ro_ch]
end Go.Proofs.YtjidmpcgkcaeaaaGreatDoor.Ev
