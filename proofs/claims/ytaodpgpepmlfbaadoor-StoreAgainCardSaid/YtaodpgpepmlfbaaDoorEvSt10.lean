/-
  A store and the document's files: what holds of both, whatever is done.
-/
import Derived.Test.YtaodpgpepmlfbaaDoorEvSt9
set_option linter.unusedVariables false
set_option linter.unusedSimpArgs false
namespace Go.Proofs.YtaodpgpepmlfbaaDoor.Ev
theorem ext_le (s : ByteArray) (k : Nat) : (s.extract 0 k).size ≤ s.size ∧ (s.extract 0 k).size ≤ k ∧ (k ≤ s.size → (s.extract 0 k).size = k) := by
  have : (s.extract 0 k).size = min k s.size := by simp
  omega
structure Inv (cap : Int) (l x : List FX) : Prop where
  p : l.Perm x
  s : srtF x
  t : (totF x : Int) ≤ cap
  w : ∀ f, f ∈ x → 0 ≤ f.sf ∧ f.sf ≤ f.b.size
  c : x.length ≤ 256
  n : ∀ f, f ∈ x → f.n.size ≤ 100 ∧ labelGood f.n = true
theorem Inv.okF {cap : Int} {l x : List FX} (h : Inv cap l x) (hc : cap ≤ 4611686018427387904) {f : FX} (hf : f ∈ x) : okF f := ⟨h.w f hf, by have := tot_mem hf; have := h.t; omega⟩
theorem srt_names {x y : List FX} (e : x.map FX.n = y.map FX.n) (h : srtF x) : srtF y := by
  have h1 : (x.map FX.n).Pairwise fun a b => kyB a < kyB b := List.pairwise_map.2 h
  rw [e] at h1
  exact (List.pairwise_map (f := FX.n)).1 h1
theorem sort_names {cap : Int} {l x : List FX} (h : Inv cap l x) : sortN (l.map FX.n) = x.map FX.n := sortN_eq (h.p.map _) (List.pairwise_map.2 h.s)
/-- The power back, file by file. -/
theorem boot_inv {keep : List Int} : ∀ (rest : List FX) (i : Nat) (l out : List FX), l.Perm (out ++ rest) → srtF (out ++ rest) → (∀ f, f ∈ rest → okF f) →
    okB keep (rest.map FX.n) i l ∧ (bootL keep (rest.map FX.n) i l).Perm (out ++ bootR keep rest i) ∧ srtF (out ++ bootR keep rest i)
  | [], i, l, out, p, s, _ => ⟨trivial, by simpa [bootL, bootR] using p, by simpa [bootR] using s⟩
  | f :: rest, i, l, out, p, s, hw => by
    have hf : f ∈ l := p.mem_iff.2 (by simp)
    have hnd : nodF l := nod_perm p.symm s.nod
    have hfd : fndF f.n l = some f := fnd_of hnd hf rfl
    obtain ⟨s1, s2, s3⟩ := List.pairwise_append.1 s
    obtain ⟨s4, s5⟩ := List.pairwise_cons.1 s2
    have hfil : (filF f.n l).Perm (out ++ rest) := by
      refine (fil_perm p).trans ?_
      have e1 : filF f.n out = out := fil_no fun g hg e => by
        have := s3 g hg f (by simp)
        rw [e] at this
        exact List.lt_irrefl _ this
      have e2 : filF f.n rest = rest := fil_no fun g hg e => by
        have := s4 g hg
        rw [e] at this
        exact List.lt_irrefl _ this
      have e3 : filF f.n (out ++ f :: rest) = out ++ rest := by
        unfold filF at e1 e2 ⊢
        rw [List.filter_append, e1, List.filter_cons_of_neg (by simp), e2]
      rw [e3]
    simp only [List.map_cons, okB, bootL, bootR_cons]
    cases hst : stayF f (kp keep i)
    · have e1 : stepB l f.n (kp keep i) = filF f.n l := by
        unfold stepB
        rw [hfd]
        simp only [hst, Bool.false_eq_true, if_false]
        exact del_fil hnd
      rw [e1]
      obtain ⟨i1, i2, i3⟩ := boot_inv rest (i + 1) (filF f.n l) out hfil (List.Pairwise.sublist (List.Sublist.append_left (List.sublist_cons_self _ _) _) s) fun g hg => hw g (List.mem_cons_of_mem _ hg)
      exact ⟨⟨⟨f, hfd, hw f (by simp)⟩, i1⟩, by simpa using i2, by simpa using i3⟩
    · have e1 : stepB l f.n (kp keep i) = putL (leftF f (kp keep i)) l := by
        unfold stepB
        rw [hfd]
        simp only [hst, if_true, leftF]
      rw [e1]
      have p2 : (putL (leftF f (kp keep i)) l).Perm (out ++ [leftF f (kp keep i)] ++ rest) := by
        refine (put_perm hnd).trans ?_
        have : (filF (leftF f (kp keep i)).n l).Perm (out ++ rest) := hfil
        refine (this.cons _).trans ?_
        rw [List.append_assoc]
        exact List.perm_middle.symm
      obtain ⟨i1, i2, i3⟩ := boot_inv rest (i + 1) _ (out ++ [leftF f (kp keep i)]) p2 (srt_names (x := out ++ f :: rest) (by simp [leftF]) s) fun g hg => hw g (List.mem_cons_of_mem _ hg)
      exact ⟨⟨⟨f, hfd, hw f (by simp)⟩, i1⟩, by simpa using i2, by simpa using i3⟩
/-- What is left is no more than there was. -/
theorem bootR_in {keep : List Int} : ∀ (x : List FX) (i : Nat), (∀ f, f ∈ x → okF f) → totF (bootR keep x i) ≤ totF x ∧ (bootR keep x i).length ≤ x.length ∧
    ∀ g, g ∈ bootR keep x i → (∃ f, f ∈ x ∧ g.n = f.n) ∧ (0 ≤ g.sf ∧ g.sf ≤ g.b.size) ∧ g.sf = g.b.size ∧ g.sy = true
  | [], _, _ => ⟨Nat.le_refl _, Nat.le_refl _, fun g hg => by cases hg⟩
  | f :: r, i, h => by
    obtain ⟨i1, i2, i3⟩ := bootR_in (keep := keep) r (i + 1) fun g hg => h g (List.mem_cons_of_mem _ hg)
    rw [bootR_cons]
    obtain ⟨n1, n2, n3⟩ := leftN_in (h f (by simp)) (kp keep i)
    obtain ⟨e1, e2, e3⟩ := ext_le f.b (leftN f (kp keep i)).toNat
    split
    · refine ⟨by rw [tot_app, tot_one', tot_cons]; have : (leftF f (kp keep i)).b.size ≤ f.b.size := e1; omega, by simp; omega, fun g hg => ?_⟩
      rcases List.mem_append.1 hg with hg | hg
      · rw [List.mem_singleton.1 hg]
        have e4 := e3 (by omega)
        have q : ((f.b.extract 0 (leftN f (kp keep i)).toNat).size : Int) = leftN f (kp keep i) := by omega
        exact ⟨⟨f, by simp, rfl⟩, ⟨n1, by show leftN f (kp keep i) ≤ ((f.b.extract 0 (leftN f (kp keep i)).toNat).size : Int); omega⟩, q.symm, rfl⟩
      · obtain ⟨⟨f', a1, a2⟩, a3⟩ := i3 g hg
        exact ⟨⟨f', List.mem_cons_of_mem _ a1, a2⟩, a3⟩
    · refine ⟨by rw [List.nil_append, tot_cons]; omega, by simp; omega, fun g hg => ?_⟩
      obtain ⟨⟨f', a1, a2⟩, a3⟩ := i3 g (by simpa using hg)
      exact ⟨⟨f', List.mem_cons_of_mem _ a1, a2⟩, a3⟩
theorem inv_boot {cap : Int} {l x : List FX} (h : Inv cap l x) (hc : cap ≤ 4611686018427387904) (keep : List Int) :
    okB keep (sortN (l.map FX.n)) 0 l ∧ Inv cap (bootL keep (sortN (l.map FX.n)) 0 l) (bootR keep x 0) := by
  have hw : ∀ f, f ∈ x → okF f := fun f hf => h.okF hc hf
  rw [sort_names h]
  obtain ⟨b1, b2, b3⟩ := boot_inv (keep := keep) x 0 l [] h.p h.s hw
  obtain ⟨c1, c2, c3⟩ := bootR_in (keep := keep) x 0 hw
  refine ⟨b1, ⟨b2, b3, by have := h.t; omega, fun g hg => (c3 g hg).2.1, by have := h.c; omega, fun g hg => ?_⟩⟩
  obtain ⟨⟨f, a1, a2⟩, _⟩ := c3 g hg
  rw [a2]
  exact h.n f a1
/-- A file put. -/
theorem inv_put {cap : Int} {l x : List FX} (h : Inv cap l x) (f : FX) (hw : 0 ≤ f.sf ∧ f.sf ≤ f.b.size) (hn : f.n.size ≤ 100 ∧ labelGood f.n = true) (ht : (totF (filF f.n x) + f.b.size : Nat) ≤ cap) (hl : hasF f.n x = true ∨ x.length < 256) :
    Inv cap (putL f l) (withF x f) := by
  have hp := with_perm h.s f
  refine ⟨put_with h.p h.s f, srt_with h.s f, ?_, fun g hg => ?_, ?_, fun g hg => ?_⟩
  · rw [tot_perm hp, tot_cons]; omega
  · rcases List.mem_cons.1 (hp.mem_iff.1 hg) with rfl | hg
    · exact hw
    · exact h.w g (List.mem_filter.1 hg).1
  · rw [hp.length_eq, List.length_cons]
    have h1 : (filF f.n x).length ≤ x.length := List.length_filter_le _ _
    have := h.c
    rcases hl with hl | hl
    · have : (filF f.n x).length < x.length := by
        refine Nat.lt_of_le_of_ne h1 fun e => ?_
        obtain ⟨g, g1, g2⟩ := has_iff.1 hl
        have := (List.length_filter_eq_length_iff.1 e) g g1
        simp [g2] at this
      omega
    · omega
  · rcases List.mem_cons.1 (hp.mem_iff.1 hg) with rfl | hg
    · exact hn
    · exact h.n g (List.mem_filter.1 hg).1
theorem inv_del {cap : Int} {l x : List FX} (h : Inv cap l x) {n : ByteArray} (hh : hasF n x = true) : Inv cap (delL n l) (withoutF x n) := by
  have e := without_fil h.s hh
  refine ⟨del_without h.p h.s hh, by rw [e]; exact srt_fil h.s n, ?_, fun g hg => ?_, ?_, fun g hg => ?_⟩
  · rw [e]
    cases k : fndF n x with
    | none =>
      have := fnd_has (n := n) (x := x)
      rw [k, hh] at this; cases this
    | some f => have := tot_fil h.s.nod k; have := h.t; omega
  · rw [e] at hg; exact h.w g (List.mem_filter.1 hg).1
  · rw [e]; have h1 : (filF n x).length ≤ x.length := List.length_filter_le _ _; have := h.c; omega
  · rw [e] at hg; exact h.n g (List.mem_filter.1 hg).1
end Go.Proofs.YtaodpgpepmlfbaaDoor.Ev
