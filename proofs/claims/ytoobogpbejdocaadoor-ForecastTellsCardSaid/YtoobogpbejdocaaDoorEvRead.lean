import Derived.Test.YtoobogpbejdocaaDoorEvFn
import Derived.ChangeArms
set_option linter.unusedVariables false
set_option linter.unusedSectionVars false
set_option linter.unusedSimpArgs false
namespace Go.Proofs.YtoobogpbejdocaaDoor.Ev
def Reads (P : Program) : Nat → TypeId → List AV → Prop
  | 0, _, _ => False
  | d + 1, t, l => match P.underlying t with
    | some .bool => ∃ b, l = [.v (.bool b)]
    | some (.int k) => ∃ n, l = [.v (.int k n)] ∧ (Lit.int k n).wf = true
    | some .string => ∃ s : ByteArray, l = [.v (.string s)] ∧ s.size ≤ maxLen
    | some (.slice e) => l = [.v (.slice none 0 0)] ∨ ∃ xs : List (List AV), l = [.sl (P.cellsOf e) xs] ∧ xs.length ≤ maxLen ∧ ∀ c, c ∈ xs → Reads P d e c
    | some (.struct fs) => ∃ ls : List (List AV), l = ls.flatten ∧ ls.length = fs.size ∧ ∀ (i : Nat) (f : Field) (c : List AV), fs[i]? = some f → ls[i]? = some c → Reads P d f.type c
    | _ => False
def tiles (P : Program) : List Field → Nat → Nat → Bool
  | [], n, m => n == m
  | f :: fs, n, m => f.offset == n && tiles P fs (n + P.cellsOf f.type) m
def tyOK (P : Program) : Nat → TypeId → Bool
  | 0, _ => false
  | d + 1, t => match P.underlying t with
    | some .bool => P.cellsOf t == 1
    | some (.int _) => P.cellsOf t == 1
    | some .string => P.cellsOf t == 1
    | some (.slice e) => P.cellsOf t == 1 && decide (0 < P.cellsOf e) && tyOK P d e
    | some (.struct fs) => tiles P fs.toList 0 (P.cellsOf t) && fs.toList.all fun f => tyOK P d f.type
    | _ => false
def World.ctx (w : World) : Ctx := ⟨w, [], [], fun _ _ => False⟩
theorem ctx_ok (w : World) : (World.ctx w).OK where
  len := rfl
  inj := fun i j b o o' h => by simp [World.ctx] at h
  dis := fun i b o off h => by simp [World.ctx] at h
  xlt := fun b off h => h.elim
  obs := fun i ob b o h => by simp [World.ctx] at h
theorem ctx_stable {w : World} {ad : Addr} {c : Value} (h : w.cell? ad = some c) : (World.ctx w).stable ad c :=
  ⟨h, fun ⟨i, o, ob, hh, _⟩ => by simp [World.ctx] at hh, fun hx => hx⟩
theorem build_list {α : Type} {Q : Nat → α → Prop} : ∀ n : Nat, (∀ i, i < n → ∃ l, Q i l) → ∃ ls : List α, ls.length = n ∧ ∀ (i : Nat) (l : α), ls[i]? = some l → Q i l
  | 0, _ => ⟨[], rfl, fun i l h => by simp at h⟩
  | n + 1, h => by
    obtain ⟨ls, h1, h2⟩ := build_list n fun i hi => h i (by omega)
    obtain ⟨x, hx⟩ := h n (by omega)
    refine ⟨ls ++ [x], by simp [h1], fun i l hl => ?_⟩
    rcases app_get hl with hl | ⟨rfl, rfl⟩
    · exact h2 i l hl
    · rw [h1]; exact hx
theorem VRs_app {C : Ctx} : ∀ {a b : List AV} {x y : List Value}, VRs C a x → VRs C b y → VRs C (a ++ b) (x ++ y)
  | [], b, x, y, h, k => by simp only [VRs] at h; subst h; exact k
  | q :: a, b, x, y, h, k => by
    simp only [VRs] at h
    obtain ⟨c, r, rfl, h1, h2⟩ := h
    simp only [List.cons_append, VRs]
    exact ⟨c, r ++ y, rfl, h1, VRs_app h2 k⟩
theorem tile_ok {C : Ctx} {P : Program} {cs : List Value} : ∀ (fs : List Field) (ls : List (List AV)) (n m : Nat), tiles P fs n m = true → cs.length = m → ls.length = fs.length →
    (∀ (i : Nat) (f : Field) (l : List AV), fs[i]? = some f → ls[i]? = some l → VRs C l ((cs.drop f.offset).take (P.cellsOf f.type)) ∧ l.length = P.cellsOf f.type) → VRs C ls.flatten (cs.drop n) ∧ n + ls.flatten.length = m
  | [], [], n, m, ht, hm, _, _ => by
    simp only [tiles, beq_iff_eq] at ht
    subst ht
    rw [List.drop_of_length_le (by omega)]
    exact ⟨rfl, by simp⟩
  | [], l :: ls, n, m, ht, hm, hl, _ => by simp at hl
  | f :: fs, [], n, m, ht, hm, hl, _ => by simp at hl
  | f :: fs, l :: ls, n, m, ht, hm, hl, h => by
    simp only [tiles, Bool.and_eq_true, beq_iff_eq] at ht
    obtain ⟨h1, h2⟩ := ht
    obtain ⟨k1, k2⟩ := tile_ok fs ls _ m h2 hm (by simpa using hl) fun i g q hg hq => h (i + 1) g q hg hq
    obtain ⟨k3, k4⟩ := h 0 f l rfl rfl
    rw [h1] at k3
    refine ⟨?_, by simp only [List.flatten_cons, List.length_append, k4]; omega⟩
    have : cs.drop n = (cs.drop n).take (P.cellsOf f.type) ++ cs.drop (n + P.cellsOf f.type) := by
      rw [← List.drop_drop, List.take_append_drop]
    rw [this, List.flatten_cons]
    exact VRs_app k3 k1
theorem cells_at {w : World} {ad : Addr} {n : Nat} {cs : List Value} (h : w.cells? 0 ad n = some cs) : cs.length = n ∧ ∀ (i : Nat) (c : Value), cs[i]? = some c → w.cell? (ad.add i) = some c := by
  unfold World.cells? at h
  rw [if_pos (Nat.zero_le _)] at h
  have h1 := mapM_some_length h
  refine ⟨by simpa using h1, fun i c hi => ?_⟩
  have hlt : i < n := by have := (List.getElem?_eq_some_iff.1 hi).1; simp at h1; omega
  have := mapM_some_get h i i (by simp [hlt])
  rw [this, hi]
theorem add_twice (a : Addr) (n m : Nat) : (a.add n).add m = a.add (n + m) := by
  unfold Addr.add
  by_cases h1 : n = 0
  · subst h1; simp
  · by_cases h2 : m = 0
    · subst h2; simp
    · simp [h1, h2, Nat.add_assoc]
theorem reads_of_trod {H : Type} {enc : TypeId × Value → H} {P : Program} {w : World} : ∀ (d : Nat) (t : TypeId) (cs : List Value) (fuel : Nat) (x : DataW H × List MemPlace), tyOK P d t = true →
    DataW.trod enc P w 0 (fun _ => true) true fuel t cs = some x → ∃ l, Reads P d t l ∧ VRs (World.ctx w) l cs ∧ l.length = P.cellsOf t
  | 0, t, cs, fuel, x, ht, h => by cases ht
  | d + 1, t, cs, fuel, x, ht, h => by
    simp only [tyOK] at ht
    split at ht
    · rename_i hu
      obtain ⟨b, rfl, _⟩ := DataW.trod_bool hu h
      exact ⟨[.v (.bool b)], by simp only [Reads, hu]; exact ⟨b, rfl⟩, by simp only [VRs]; exact ⟨_, [], rfl, ⟨VR_v rfl, rfl⟩, rfl⟩, by simpa using (beq_iff_eq.1 ht).symm⟩
    · rename_i k hu
      obtain ⟨n, rfl, _, hn⟩ := DataW.trod_int hu h
      exact ⟨[.v (.int k n)], by simp only [Reads, hu]; exact ⟨n, rfl, hn⟩, by simp only [VRs]; exact ⟨_, [], rfl, ⟨VR_v rfl, rfl⟩, rfl⟩, by simpa using (beq_iff_eq.1 ht).symm⟩
    · rename_i hu
      obtain ⟨s, rfl, _, hn⟩ := DataW.trod_string hu h
      exact ⟨[.v (.string s)], by simp only [Reads, hu]; exact ⟨s, rfl, hn⟩, by simp only [VRs]; exact ⟨_, [], rfl, ⟨VR_v rfl, rfl⟩, rfl⟩, by simpa using (beq_iff_eq.1 ht).symm⟩
    · rename_i e hu
      simp only [Bool.and_eq_true, beq_iff_eq, decide_eq_true_eq] at ht
      obtain ⟨⟨t1, t2⟩, t3⟩ := ht
      rcases DataW.trod_slice hu h with ⟨rfl, _⟩ | ⟨a, len, cap, elems, rest, n, _, rfl, _, _, hlc, hcm, hel, hat, _⟩
      · exact ⟨[.v (.slice none 0 0)], by simp only [Reads, hu]; exact .inl trivial, by simp only [VRs]; exact ⟨_, [], rfl, ⟨VR_v rfl, rfl⟩, rfl⟩, by simp [t1]⟩
      · have hspot : 0 < len → a.spot = none := by
          intro h0
          have h1 := hat 0 h0
          rw [List.getElem?_eq_getElem (by omega), Option.bind_eq_some_iff] at h1
          obtain ⟨cs', h2, _⟩ := h1
          obtain ⟨c1, c2⟩ := cells_at h2
          have h4 := c2 0 cs'[0] (List.getElem?_eq_getElem (by omega))
          rw [Nat.zero_mul] at h4
          have h5 : (a.add 0).add 0 = a := rfl
          rw [h5] at h4
          unfold World.cell? at h4
          split at h4
          · split at h4
            · cases h4
            · rename_i hs; simpa using hs
          · cases h4
        have step : ∀ i, i < len → ∃ l : List AV, Reads P d e l ∧ l.length = P.cellsOf e ∧ a.spot = none ∧ VRat (World.ctx w) a l (i * P.cellsOf e) := by
          intro i hi
          have h1 := hat i hi
          rw [List.getElem?_eq_getElem (by omega), Option.bind_eq_some_iff] at h1
          obtain ⟨cs', h2, h3⟩ := h1
          obtain ⟨l, r1, r2, r3⟩ := reads_of_trod d e cs' n _ t3 h3
          obtain ⟨c1, c2⟩ := cells_at h2
          have hcell : ∀ (j : Nat) (q : AV), l[j]? = some q → ∃ c, w.cell? (a.add (i * P.cellsOf e + j)) = some c ∧ VR (World.ctx w) q c ∧ c.oneCell' = true := by
            intro j q hj
            obtain ⟨c, g1, g2⟩ := VRs_get r2 j q hj
            refine ⟨c, ?_, g2⟩
            have := c2 j c g1
            rw [add_twice] at this
            exact this
          refine ⟨l, r1, r3, ?_, VRat_mk fun j q hj => ?_⟩
          · exact hspot (by omega)
          · obtain ⟨c, g1, g2, g3⟩ := hcell j q hj
            exact ⟨c, ctx_stable g1, g2, g3⟩
        obtain ⟨xs, e1, e2⟩ := build_list len step
        refine ⟨[.sl (P.cellsOf e) xs], by simp only [Reads, hu]; exact .inr ⟨xs, rfl, by omega, fun c hc => by obtain ⟨i, hi⟩ := List.getElem?_of_mem hc; exact (e2 i c hi).1⟩, ?_, by simp [t1]⟩
        simp only [VRs]
        refine ⟨_, [], rfl, ⟨?_, rfl⟩, rfl⟩
        simp only [VR]
        refine ⟨some a, cap, by rw [e1], ⟨by omega, rfl⟩, VRrow_mk fun i c hi => ?_⟩
        obtain ⟨_, g2, g3, g4⟩ := e2 i c hi
        exact ⟨g2, a, rfl, g3, by rw [Nat.zero_add]; exact g4⟩
    · rename_i fs hu
      simp only [Bool.and_eq_true, List.all_eq_true] at ht
      obtain ⟨t1, t2⟩ := ht
      obtain ⟨xs, n, _, _, hlen, hxl, hat⟩ := DataW.trod_struct hu h
      have step : ∀ i, i < fs.size → ∃ l : List AV, ∀ f, fs[i]? = some f → Reads P d f.type l ∧ VRs (World.ctx w) l ((cs.drop f.offset).take (P.cellsOf f.type)) ∧ l.length = P.cellsOf f.type := by
        intro i hi
        have hf : fs[i]? = some fs[i] := Array.getElem?_eq_getElem hi
        have h1 := hat i _ hf
        rw [List.getElem?_eq_getElem (by omega)] at h1
        obtain ⟨l, r1, r2, r3⟩ := reads_of_trod d _ _ n _ (t2 _ (by simp)) h1
        exact ⟨l, fun f hf2 => by rw [hf] at hf2; cases hf2; exact ⟨r1, r2, r3⟩⟩
      obtain ⟨ls, e1, e2⟩ := build_list fs.size step
      obtain ⟨k1, k2⟩ := tile_ok (C := World.ctx w) (P := P) (cs := cs) fs.toList ls 0 _ t1 hlen (by simpa using e1) fun i f l hf hl => by
        have := e2 i l hl f (by simpa using hf)
        exact ⟨this.2.1, this.2.2⟩
      refine ⟨ls.flatten, by simp only [Reads, hu]; exact ⟨ls, rfl, e1, fun i f c hf hc => (e2 i c hc f hf).1⟩, by simpa using k1, by omega⟩
    · cases ht
end Go.Proofs.YtoobogpbejdocaaDoor.Ev
