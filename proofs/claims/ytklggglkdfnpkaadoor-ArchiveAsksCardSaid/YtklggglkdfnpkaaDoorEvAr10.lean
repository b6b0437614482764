/-
  Archives: merging by the code is merging by the document; the law ArchiveAdds.
-/
import Derived.Test.YtklggglkdfnpkaaDoorEvAr9
set_option linter.unusedVariables false
set_option linter.unusedSimpArgs false
namespace Go.Proofs.YtklggglkdfnpkaaDoor.Ev
attribute [local congr] bind_congr_head
/-! ### plain lists -/
theorem srt_ext : ∀ {a b : List RowT}, srt a → srt b → (∀ x, x ∈ a ↔ x ∈ b) → a = b
  | [], [], _, _, _ => rfl
  | [], y :: b, _, _, h => by have := (h y).2 (by simp); simp at this
  | x :: a, [], _, _, h => by have := (h x).1 (by simp); simp at this
  | x :: a, y :: b, ha, hb, h => by
    obtain ⟨a1, a2⟩ := List.pairwise_cons.1 ha
    obtain ⟨b1, b2⟩ := List.pairwise_cons.1 hb
    have e : x = y := by
      rcases List.mem_cons.1 ((h x).1 (by simp)) with e | h1
      · exact e
      · rcases List.mem_cons.1 ((h y).2 (by simp)) with e | h2
        · exact e.symm
        · have := b1 x h1; have := a1 y h2; omega
    subst e
    rw [srt_ext a2 b2 fun z => ?_]
    constructor
    · intro hz
      rcases List.mem_cons.1 ((h z).1 (List.mem_cons_of_mem _ hz)) with e | h1
      · subst e; have := a1 z hz; omega
      · exact h1
    · intro hz
      rcases List.mem_cons.1 ((h z).2 (List.mem_cons_of_mem _ hz)) with e | h1
      · subst e; have := b1 z hz; omega
      · exact h1
theorem lb_split {n : Int} {l : List RowT} (h : srt l) : (∀ x, x ∈ l.take (lb n l) → x.sg < n) ∧ (∀ x, x ∈ l.drop (lb n l) → n ≤ x.sg) := by
  constructor
  · intro x hx
    obtain ⟨i, hi⟩ := List.getElem?_of_mem hx
    rw [List.getElem?_take] at hi
    split at hi
    · rename_i c; exact (lb_iff h hi).1 c
    · cases hi
  · intro x hx
    obtain ⟨i, hi⟩ := List.getElem?_of_mem hx
    rw [List.getElem?_drop] at hi
    have := lb_iff (n := n) h hi
    rcases Int.lt_or_le x.sg n with c | c
    · have := this.2 c; omega
    · exact c
theorem mem_put {l : List RowT} {r x : RowT} : x ∈ putS l r ↔ x ∈ l ∨ x = r := by
  unfold putS
  have : x ∈ l ↔ x ∈ l.take (lb r.sg l) ∨ x ∈ l.drop (lb r.sg l) := by
    rw [← List.mem_append, List.take_append_drop]
  rw [this, List.mem_append, List.mem_cons]
  constructor
  · rintro (h | h | h)
    · exact .inl (.inl h)
    · exact .inr h
    · exact .inl (.inr h)
  · rintro ((h | h) | h)
    · exact .inl h
    · exact .inr (.inr h)
    · exact .inr (.inl h)
theorem srt_put {l : List RowT} {r : RowT} (h : srt l) (hn : thereS r.sg l = false) : srt (putS l r) := by
  obtain ⟨h1, h2⟩ := lb_split (n := r.sg) h
  have hd : ∀ x, x ∈ l.drop (lb r.sg l) → r.sg < x.sg := fun x hx => by
    have := h2 x hx
    have h3 : ¬ x.sg = r.sg := fun e => by
      have := List.any_eq_false.1 hn x (List.mem_of_mem_drop hx)
      simp [e] at this
    omega
  unfold putS
  refine List.pairwise_append.2 ⟨List.Pairwise.sublist (List.take_sublist _ _) h, List.pairwise_cons.2 ⟨hd, List.Pairwise.sublist (List.drop_sublist _ _) h⟩, fun a ha b hb => ?_⟩
  have := h1 a ha
  rcases List.mem_cons.1 hb with rfl | hb
  · exact this
  · have := hd b hb; omega
/-- Two rows of one saga that differ. -/
def conf2 (a b : List RowT) : Bool := b.any (confS a)
theorem conf_none {a : List RowT} {y : RowT} (h : confS a y = false) {x : RowT} (hx : x ∈ a) (e : x.sg = y.sg) : x = y := by
  have := List.any_eq_false.1 h x hx
  simpa [e] using this
theorem ref_spec {a : List RowT} : ∀ {b out : List RowT}, srt out → srt b → (∀ x, x ∈ a → x ∈ out) → (∀ y, y ∈ b → ∀ x, x ∈ out → x.sg = y.sg → x ∈ a) →
    (conf2 a b = true → refMS a out b = none) ∧ (conf2 a b = false → ∃ o, refMS a out b = some o ∧ srt o ∧ ∀ x, x ∈ o ↔ x ∈ out ∨ x ∈ b)
  | [], out, ho, _, _, _ => ⟨fun h => (by cases h), fun _ => ⟨out, rfl, ho, by simp⟩⟩
  | y :: b, out, ho, hb, h1, h2 => by
    obtain ⟨b1, b2⟩ := List.pairwise_cons.1 hb
    have hcons : conf2 a (y :: b) = (confS a y || conf2 a b) := rfl
    rw [hcons]
    unfold refMS
    cases hc : confS a y
    · simp only [Bool.false_or, Bool.false_eq_true, if_false]
      cases ht : thereS y.sg a
      · simp only [Bool.false_eq_true, if_false]
        have ht2 : thereS y.sg out = false := by
          rw [Bool.eq_false_iff]
          intro q
          obtain ⟨x, hx, e⟩ := List.any_eq_true.1 q
          have e' : x.sg = y.sg := by simpa using e
          have := List.any_eq_false.1 ht x (h2 y (by simp) x hx e')
          simp [e'] at this
        obtain ⟨i1, i2⟩ := ref_spec (a := a) (b := b) (out := putS out y) (srt_put ho ht2) b2 (fun x hx => mem_put.2 (.inl (h1 x hx))) (fun z hz x hx e => by
          rcases mem_put.1 hx with q | q
          · exact h2 z (List.mem_cons_of_mem _ hz) x q e
          · subst q; have := b1 z hz; omega)
        refine ⟨i1, fun q => ?_⟩
        obtain ⟨o, k1, k2, k3⟩ := i2 q
        refine ⟨o, k1, k2, fun x => ?_⟩
        rw [k3, mem_put, List.mem_cons]
        constructor
        · rintro ((q | q) | q)
          · exact .inl q
          · exact .inr (.inl q)
          · exact .inr (.inr q)
        · rintro (q | q | q)
          · exact .inl (.inl q)
          · exact .inl (.inr q)
          · exact .inr q
      · simp only [if_true]
        obtain ⟨i1, i2⟩ := ref_spec (a := a) (b := b) (out := out) ho b2 h1 (fun z hz x hx e => h2 z (List.mem_cons_of_mem _ hz) x hx e)
        refine ⟨i1, fun q => ?_⟩
        obtain ⟨o, k1, k2, k3⟩ := i2 q
        refine ⟨o, k1, k2, fun x => ?_⟩
        obtain ⟨z, hz, e⟩ := List.any_eq_true.1 ht
        have e' : z.sg = y.sg := by simpa using e
        have ey : z = y := conf_none hc hz e'
        subst ey
        rw [k3, List.mem_cons]
        constructor
        · rintro (q | q)
          · exact .inl q
          · exact .inr (.inr q)
        · rintro (q | q | q)
          · exact .inl q
          · subst q; exact .inl (h1 _ hz)
          · exact .inr q
    · exact ⟨fun _ => by simp, fun q => by simp at q⟩
theorem merge_spec : ∀ (n : Nat) {a b : List RowT}, a.length + b.length ≤ n → srt a → srt b →
    (conf2 a b = true → mergeS n a b = none) ∧ (conf2 a b = false → ∃ o, mergeS n a b = some o ∧ srt o ∧ ∀ x, x ∈ o ↔ x ∈ a ∨ x ∈ b) := by
  intro n
  induction n with
  | zero =>
    intro a b hn ha hb
    have e1 : a = [] := List.eq_nil_of_length_eq_zero (by omega)
    have e2 : b = [] := List.eq_nil_of_length_eq_zero (by omega)
    subst e1; subst e2
    exact ⟨fun h => (by cases h), fun _ => ⟨[], rfl, List.Pairwise.nil, by simp⟩⟩
  | succ n ih =>
    intro a b hn ha hb
    have step : ∀ (x : RowT) (m : Option (List RowT)) (P : RowT → Prop), (∀ z, P z → x.sg < z.sg) → (∃ o, m = some o ∧ srt o ∧ ∀ z, z ∈ o ↔ P z) → ∃ o, m.map (x :: ·) = some o ∧ srt o ∧ ∀ z, z ∈ o ↔ z = x ∨ P z := by
      rintro x m P hP ⟨o, rfl, h2, h3⟩
      exact ⟨x :: o, rfl, List.pairwise_cons.2 ⟨fun z hz => hP z ((h3 z).1 hz), h2⟩, fun z => by rw [List.mem_cons, h3]⟩
    cases a with
    | nil =>
      have c0 : conf2 [] b = false := List.any_eq_false.2 fun y _ => by rw [confS_nil]; decide
      rw [c0]
      refine ⟨fun h => (by cases h), fun _ => ?_⟩
      cases b with
      | nil => exact ⟨[], rfl, List.Pairwise.nil, by simp⟩
      | cons y b =>
        obtain ⟨b1, b2⟩ := List.pairwise_cons.1 hb
        have c1 : conf2 [] b = false := List.any_eq_false.2 fun y _ => by rw [confS_nil]; decide
        obtain ⟨o, k1, k2, k3⟩ := step y (mergeS n [] b) (· ∈ b) b1 (by
          obtain ⟨o, k1, k2, k3⟩ := (ih (a := []) (b := b) (by simp at hn ⊢; omega) List.Pairwise.nil b2).2 c1
          exact ⟨o, k1, k2, by simpa using k3⟩)
        exact ⟨o, k1, k2, fun z => by rw [k3, List.mem_cons]; simp⟩
    | cons x a =>
      obtain ⟨a1, a2⟩ := List.pairwise_cons.1 ha
      cases b with
      | nil =>
        refine ⟨fun h => (by cases h), fun _ => ?_⟩
        obtain ⟨o, k1, k2, k3⟩ := step x (mergeS n a []) (· ∈ a) a1 (by
          obtain ⟨o, k1, k2, k3⟩ := (ih (a := a) (b := []) (by simp at hn ⊢; omega) a2 List.Pairwise.nil).2 rfl
          exact ⟨o, k1, k2, by simpa using k3⟩)
        exact ⟨o, k1, k2, fun z => by rw [k3, List.mem_cons]; simp⟩
      | cons y b =>
        obtain ⟨b1, b2⟩ := List.pairwise_cons.1 hb
        simp only [List.length_cons] at hn
        by_cases c1 : x.sg < y.sg
        · have e : conf2 (x :: a) (y :: b) = conf2 a (y :: b) := by
            unfold conf2
            rw [Bool.eq_iff_iff, List.any_eq_true, List.any_eq_true]
            have hz : ∀ z, z ∈ y :: b → confS (x :: a) z = confS a z := fun z hz => by
              have : ¬ x.sg = z.sg := by
                rcases List.mem_cons.1 hz with rfl | hz
                · omega
                · have := b1 z hz; omega
              rw [confS_cons]; simp [this]
            exact ⟨fun ⟨z, h1, h2⟩ => ⟨z, h1, by rw [← hz z h1]; exact h2⟩, fun ⟨z, h1, h2⟩ => ⟨z, h1, by rw [hz z h1]; exact h2⟩⟩
          have em : mergeS (n + 1) (x :: a) (y :: b) = (mergeS n a (y :: b)).map (x :: ·) := by simp only [mergeS, if_pos c1]
          rw [e, em]
          obtain ⟨i1, i2⟩ := ih (a := a) (b := y :: b) (by simp; omega) a2 hb
          refine ⟨fun h => by rw [i1 h]; rfl, fun h => ?_⟩
          obtain ⟨o, k1, k2, k3⟩ := step x (mergeS n a (y :: b)) (fun z => z ∈ a ∨ z ∈ y :: b) (fun z hz => by
            rcases hz with hz | hz
            · exact a1 z hz
            · rcases List.mem_cons.1 hz with rfl | hz
              · exact c1
              · have := b1 z hz; omega) (i2 h)
          exact ⟨o, k1, k2, fun z => by rw [k3]; simp only [List.mem_cons, or_assoc]⟩
        · by_cases c2 : y.sg < x.sg
          · have h0 : confS (x :: a) y = false := List.any_eq_false.2 fun z hz => by
              have : ¬ z.sg = y.sg := by
                rcases List.mem_cons.1 hz with rfl | hz
                · omega
                · have := a1 z hz; omega
              simp [this]
            have e : conf2 (x :: a) (y :: b) = conf2 (x :: a) b := by unfold conf2; rw [List.any_cons, h0, Bool.false_or]
            have em : mergeS (n + 1) (x :: a) (y :: b) = (mergeS n (x :: a) b).map (y :: ·) := by simp only [mergeS, if_neg c1, if_pos c2]
            rw [e, em]
            obtain ⟨i1, i2⟩ := ih (a := x :: a) (b := b) (by simp; omega) ha b2
            refine ⟨fun h => by rw [i1 h]; rfl, fun h => ?_⟩
            obtain ⟨o, k1, k2, k3⟩ := step y (mergeS n (x :: a) b) (fun z => z ∈ x :: a ∨ z ∈ b) (fun z hz => by
              rcases hz with hz | hz
              · rcases List.mem_cons.1 hz with rfl | hz
                · exact c2
                · have := a1 z hz; omega
              · exact b1 z hz) (i2 h)
            exact ⟨o, k1, k2, fun z => by rw [k3, List.mem_cons (a := z) (b := y)]; constructor <;> (rintro (q | q | q) <;> simp [q])⟩
          · by_cases d : x = y
            · subst d
              have h0 : confS (x :: a) x = false := List.any_eq_false.2 fun z hz => by
                rcases List.mem_cons.1 hz with rfl | hz
                · simp
                · have := a1 z hz
                  have : ¬ z.sg = x.sg := by omega
                  simp [this]
              have e : conf2 (x :: a) (x :: b) = conf2 a b := by
                unfold conf2
                rw [List.any_cons, h0, Bool.false_or, Bool.eq_iff_iff, List.any_eq_true, List.any_eq_true]
                have hz : ∀ z, z ∈ b → confS (x :: a) z = confS a z := fun z hz => by
                  have : ¬ x.sg = z.sg := by have := b1 z hz; omega
                  rw [confS_cons]; simp [this]
                exact ⟨fun ⟨z, h1, h2⟩ => ⟨z, h1, by rw [← hz z h1]; exact h2⟩, fun ⟨z, h1, h2⟩ => ⟨z, h1, by rw [hz z h1]; exact h2⟩⟩
              have em : mergeS (n + 1) (x :: a) (x :: b) = (mergeS n a b).map (x :: ·) := by simp only [mergeS, if_neg c1, if_true]
              rw [e, em]
              obtain ⟨i1, i2⟩ := ih (a := a) (b := b) (by omega) a2 b2
              refine ⟨fun h => by rw [i1 h]; rfl, fun h => ?_⟩
              obtain ⟨o, k1, k2, k3⟩ := step x (mergeS n a b) (fun z => z ∈ a ∨ z ∈ b) (fun z hz => hz.elim (a1 z) (b1 z)) (i2 h)
              exact ⟨o, k1, k2, fun z => by rw [k3]; simp only [List.mem_cons]; constructor <;> (rintro (q | q | q) <;> first | (simp [q]; done) | (rcases q with q | q <;> simp [q]))⟩
            · have h0 : confS (x :: a) y = true := by
                rw [confS_cons]
                have : x.sg = y.sg := by omega
                simp [this, d]
              have e : conf2 (x :: a) (y :: b) = true := by unfold conf2; rw [List.any_cons, h0, Bool.true_or]
              have em : mergeS (n + 1) (x :: a) (y :: b) = none := by simp only [mergeS, if_neg c1, if_neg c2, if_neg d]
              rw [e, em]
              exact ⟨fun _ => rfl, fun h => by cases h⟩
theorem conf2_symm (a b : List RowT) : conf2 a b = conf2 b a := by
  have h : ∀ {a b : List RowT}, conf2 a b = true → conf2 b a = true := by
    intro a b h
    obtain ⟨y, hy, h1⟩ := List.any_eq_true.1 h
    obtain ⟨x, hx, h2⟩ := List.any_eq_true.1 h1
    simp only [Bool.and_eq_true, decide_eq_true_eq, Bool.not_eq_true', decide_eq_false_iff_not] at h2
    exact List.any_eq_true.2 ⟨x, hx, List.any_eq_true.2 ⟨y, hy, by simp only [Bool.and_eq_true, decide_eq_true_eq, Bool.not_eq_true', decide_eq_false_iff_not]; exact ⟨h2.1.symm, fun e => h2.2 e.symm⟩⟩⟩
  rw [Bool.eq_iff_iff]
  exact ⟨h, h⟩
theorem merge_ref {n : Nat} {a b : List RowT} (hn : a.length + b.length ≤ n) (ha : srt a) (hb : srt b) : mergeS n a b = refMS a a b := by
  obtain ⟨m1, m2⟩ := merge_spec n hn ha hb
  obtain ⟨r1, r2⟩ := ref_spec (a := a) ha hb (fun x h => h) (fun y _ x hx _ => hx)
  cases hc : conf2 a b
  · obtain ⟨o, k1, k2, k3⟩ := m2 hc
    obtain ⟨o2, j1, j2, j3⟩ := r2 hc
    rw [k1, j1, srt_ext k2 j2 fun x => by rw [k3, j3]]
  · rw [m1 hc, r1 hc]
theorem merge_symm {n : Nat} {a b : List RowT} (hn : a.length + b.length ≤ n) (ha : srt a) (hb : srt b) : mergeS n a b = mergeS n b a := by
  obtain ⟨m1, m2⟩ := merge_spec n hn ha hb
  obtain ⟨r1, r2⟩ := merge_spec n (a := b) (b := a) (by omega) hb ha
  rw [← conf2_symm a b] at r1 r2
  cases hc : conf2 a b
  · obtain ⟨o, k1, k2, k3⟩ := m2 hc
    obtain ⟨o2, j1, j2, j3⟩ := r2 hc
    rw [k1, j1, srt_ext k2 j2 fun x => by rw [k3, j3, or_comm]]
  · rw [m1 hc, r1 hc]
end Go.Proofs.YtklggglkdfnpkaaDoor.Ev
