/-
  Files in a store: plain lists of files, by their names; the map's entries are such a list in some order.
-/
import Derived.Test.YtaodpgpepmlfbaaDoorEvSl
import Derived.Sort.Walk0
set_option linter.unusedVariables false
set_option linter.unusedSimpArgs false
namespace Go.Proofs.YtaodpgpepmlfbaaDoor.Ev
open Go.RowKit
structure FX where
  (n b : ByteArray) (sf : Int) (sy : Bool)
  deriving DecidableEq
def FX.cells (f : FX) : List AV := [.v (.string f.n), .v (.string f.b), .v (.int .i64 f.sf), .v (.bool f.sy)]
def FX.val (f : FX) : AV := .agg [.v (.string f.b), .v (.int .i64 f.sf), .v (.bool f.sy)]
theorem ro_fx : Ro FX.cells := fun _ => rfl
def kyB (n : ByteArray) : List UInt8 := n.data.toList
theorem kyB_inj {a b : ByteArray} (h : kyB a = kyB b) : a = b := by
  cases a; cases b
  simp only [kyB] at h
  congr 1
  exact Array.ext' h
theorem ltN_of {a b : ByteArray} (h : ¬ kyB a < kyB b) (h2 : a ≠ b) : kyB b < kyB a := by
  have h3 := List.not_lt.1 h
  rcases Decidable.em (kyB b < kyB a) with h4 | h4
  · exact h4
  · exact absurd (kyB_inj (List.le_antisymm (List.not_lt.1 h4) h3)) h2
theorem bLess (a b : ByteArray) : Op.bytesLess a.toList b.toList = decide (kyB a < kyB b) := by
  rw [ByteArray.toList_eq, ByteArray.toList_eq]
  exact Go.Proofs.bytesLess_eq _ _
/-! ### sorted lists of files -/
def srtF (x : List FX) : Prop := x.Pairwise fun a b => kyB a.n < kyB b.n
def nodF (x : List FX) : Prop := x.Pairwise fun a b => a.n ≠ b.n
theorem srtF.nod {x : List FX} (h : srtF x) : nodF x := h.imp fun {a b} h e => by rw [e] at h; exact List.lt_irrefl _ h
theorem nod_perm {x y : List FX} (p : x.Perm y) (h : nodF x) : nodF y := (p.pairwise_iff (fun {a b} h => Ne.symm h)).1 h
/-- How many names are less? -/
def lbF (n : ByteArray) : List FX → Nat
  | [] => 0
  | f :: x => if kyB f.n < kyB n then lbF n x + 1 else 0
theorem lbF_le (n : ByteArray) : ∀ x, lbF n x ≤ x.length
  | [] => Nat.le_refl _
  | f :: x => by unfold lbF; split; exact Nat.succ_le_succ (lbF_le n x); exact Nat.zero_le _
theorem lbF_split {n : ByteArray} : ∀ {x : List FX}, srtF x → (∀ f, f ∈ x.take (lbF n x) → kyB f.n < kyB n) ∧ (∀ f, f ∈ x.drop (lbF n x) → ¬ kyB f.n < kyB n)
  | [], _ => ⟨by simp, by simp⟩
  | g :: x, h => by
    obtain ⟨h1, h2⟩ := List.pairwise_cons.1 h
    unfold lbF
    split
    · rename_i c
      obtain ⟨i1, i2⟩ := lbF_split (n := n) h2
      refine ⟨fun f hf => ?_, fun f hf => i2 f hf⟩
      rw [List.take_succ_cons] at hf
      rcases List.mem_cons.1 hf with rfl | hf
      · exact c
      · exact i1 f hf
    · rename_i c
      refine ⟨by simp, fun f hf => ?_⟩
      rw [List.drop_zero] at hf
      rcases List.mem_cons.1 hf with rfl | hf
      · exact c
      · intro q
        exact c (List.lt_trans (h1 f hf) q)
def hasF (n : ByteArray) (x : List FX) : Bool := x.any fun f => decide (f.n = n)
def fndF (n : ByteArray) (x : List FX) : Option FX := x.find? fun f => decide (f.n = n)
def filF (n : ByteArray) (x : List FX) : List FX := x.filter fun f => !decide (f.n = n)
theorem has_iff {n : ByteArray} {x : List FX} : hasF n x = true ↔ ∃ f, f ∈ x ∧ f.n = n := by simp [hasF]
theorem has_perm {n : ByteArray} {x y : List FX} (p : x.Perm y) : hasF n x = hasF n y := by
  rw [Bool.eq_iff_iff, has_iff, has_iff]
  exact ⟨fun ⟨f, h, e⟩ => ⟨f, p.mem_iff.1 h, e⟩, fun ⟨f, h, e⟩ => ⟨f, p.mem_iff.2 h, e⟩⟩
theorem fnd_has {n : ByteArray} {x : List FX} : (fndF n x).isSome = hasF n x := by
  unfold fndF hasF
  rw [Bool.eq_iff_iff, List.find?_isSome, List.any_eq_true]
theorem fnd_none {n : ByteArray} {x : List FX} (h : hasF n x = false) : fndF n x = none := by
  have := fnd_has (n := n) (x := x)
  rw [h] at this
  cases e : fndF n x with
  | none => rfl
  | some f => rw [e] at this; cases this
theorem fnd_mem {n : ByteArray} {x : List FX} {f : FX} (h : fndF n x = some f) : f ∈ x ∧ f.n = n := ⟨List.mem_of_find?_eq_some h, by simpa using List.find?_some h⟩
theorem nod_eq {x : List FX} (h : nodF x) {f g : FX} (hf : f ∈ x) (hg : g ∈ x) (e : f.n = g.n) : f = g := by
  induction x with
  | nil => cases hf
  | cons a x ih =>
    obtain ⟨h1, h2⟩ := List.pairwise_cons.1 h
    rcases List.mem_cons.1 hf with k1 | k1
    · rcases List.mem_cons.1 hg with k2 | k2
      · rw [k1, k2]
      · subst k1; exact absurd e (h1 g k2)
    · rcases List.mem_cons.1 hg with k2 | k2
      · subst k2; exact absurd e.symm (h1 f k1)
      · exact ih h2 k1 k2
theorem fnd_of {n : ByteArray} {x : List FX} (h : nodF x) {f : FX} (hf : f ∈ x) (e : f.n = n) : fndF n x = some f := by
  cases k : fndF n x with
  | none =>
    have := List.find?_eq_none.1 k f hf
    simp [e] at this
  | some g =>
    obtain ⟨g1, g2⟩ := fnd_mem k
    rw [nod_eq h hf g1 (e.trans g2.symm)]
theorem fnd_perm {n : ByteArray} {x y : List FX} (p : x.Perm y) (h : nodF x) : fndF n x = fndF n y := by
  cases k : fndF n y with
  | none =>
    refine fnd_none ?_
    have := fnd_has (n := n) (x := y)
    rw [k] at this
    rw [has_perm p, ← this]; rfl
  | some f =>
    obtain ⟨g1, g2⟩ := fnd_mem k
    exact fnd_of h (p.mem_iff.2 g1) g2
theorem fil_perm {n : ByteArray} {x y : List FX} (p : x.Perm y) : (filF n x).Perm (filF n y) := p.filter _
theorem fil_no {n : ByteArray} {x : List FX} (h : ∀ f, f ∈ x → f.n ≠ n) : filF n x = x := List.filter_eq_self.2 fun f hf => by simp [h f hf]
theorem lb_get {n : ByteArray} {x : List FX} (h : srtF x) : fndF n x = if (x[lbF n x]?.any fun f => decide (f.n = n)) = true then x[lbF n x]? else none := by
  obtain ⟨h1, h2⟩ := lbF_split (n := n) h
  cases k : x[lbF n x]? with
  | none =>
    have hl : x.length ≤ lbF n x := by simpa using k
    simp only [Option.any_none, Bool.false_eq_true, if_false]
    refine fnd_none (Bool.eq_false_iff.2 fun q => ?_)
    obtain ⟨f, hf, e⟩ := has_iff.1 q
    have := h1 f (by rw [List.take_of_length_le hl]; exact hf)
    rw [e] at this
    exact List.lt_irrefl _ this
  | some g =>
    simp only [Option.any_some, decide_eq_true_eq]
    split
    · rename_i e
      exact fnd_of h.nod (List.mem_of_getElem? k) e
    · rename_i e
      refine fnd_none (Bool.eq_false_iff.2 fun q => ?_)
      obtain ⟨f, hf, e2⟩ := has_iff.1 q
      rw [← List.take_append_drop (lbF n x) x] at hf
      rcases List.mem_append.1 hf with hf | hf
      · have := h1 f hf
        rw [e2] at this
        exact List.lt_irrefl _ this
      · have hd : x.drop (lbF n x) = g :: x.drop (lbF n x + 1) := List.drop_eq_getElem?_toList_append.trans (by rw [k]; rfl)
        rw [hd] at hf
        rcases List.mem_cons.1 hf with rfl | hf
        · exact e e2
        · have hg := h2 g (by rw [hd]; simp)
          have hs : srtF (x.drop (lbF n x)) := List.Pairwise.sublist (List.drop_sublist _ _) h
          rw [hd] at hs
          have := (List.pairwise_cons.1 hs).1 f hf
          rw [e2] at this
          exact hg this
theorem lb_has {n : ByteArray} {x : List FX} (h : srtF x) : (x[lbF n x]?.any fun f => decide (f.n = n)) = hasF n x := by
  have := fnd_has (n := n) (x := x)
  rw [lb_get h] at this
  rw [← this]
  split
  · rename_i c
    rw [c]
    cases k : x[lbF n x]? with
    | none => rw [k] at c; cases c
    | some g => rfl
  · rename_i c
    rw [Bool.eq_false_iff.2 c]; rfl
/-- With another one, or one more, by the document. -/
def withF (x : List FX) (f : FX) : List FX := x.take (lbF f.n x) ++ f :: x.drop (lbF f.n x + (if hasF f.n x = true then 1 else 0))
theorem with_fil {x : List FX} (h : srtF x) (f : FX) : withF x f = x.take (lbF f.n x) ++ f :: filF f.n (x.drop (lbF f.n x)) ∧ filF f.n x = x.take (lbF f.n x) ++ filF f.n (x.drop (lbF f.n x)) := by
  obtain ⟨h1, h2⟩ := lbF_split (n := f.n) h
  have e1 : filF f.n (x.take (lbF f.n x)) = x.take (lbF f.n x) := fil_no fun g hg e => by
    have := h1 g hg
    rw [e] at this
    exact List.lt_irrefl _ this
  have e2 : filF f.n x = x.take (lbF f.n x) ++ filF f.n (x.drop (lbF f.n x)) := by
    conv => lhs; rw [← List.take_append_drop (lbF f.n x) x]
    unfold filF at e1 ⊢
    rw [List.filter_append, e1]
  refine ⟨?_, e2⟩
  unfold withF
  congr 2
  have hs : srtF (x.drop (lbF f.n x)) := List.Pairwise.sublist (List.drop_sublist _ _) h
  rw [← lb_has h]
  cases k : x[lbF f.n x]? with
  | none =>
    have hl : x.length ≤ lbF f.n x := by simpa using k
    rw [List.drop_eq_nil_of_le hl]
    simp [filF, hl]
  | some g =>
    have hd : x.drop (lbF f.n x) = g :: x.drop (lbF f.n x + 1) := List.drop_eq_getElem?_toList_append.trans (by rw [k]; rfl)
    rw [hd] at hs h2 ⊢
    obtain ⟨s1, _⟩ := List.pairwise_cons.1 hs
    have hr : ∀ q, q ∈ x.drop (lbF f.n x + 1) → q.n ≠ f.n := fun q hq e => by
      have := s1 q hq
      rw [e] at this
      exact h2 g (by simp) this
    simp only [Option.any_some, decide_eq_true_eq]
    split
    · rename_i e
      unfold filF
      rw [List.filter_cons_of_neg (by simp [e])]
      exact (fil_no hr).symm
    · rename_i e
      rw [Nat.add_zero, hd]
      refine (fil_no fun q hq => ?_).symm
      rcases List.mem_cons.1 hq with rfl | hq
      · exact e
      · exact hr q hq
theorem with_perm {x : List FX} (h : srtF x) (f : FX) : (withF x f).Perm (f :: filF f.n x) := by
  rw [(with_fil h f).1, (with_fil h f).2]
  exact List.perm_middle
theorem srt_with {x : List FX} (h : srtF x) (f : FX) : srtF (withF x f) := by
  obtain ⟨h1, h2⟩ := lbF_split (n := f.n) h
  rw [(with_fil h f).1]
  refine List.pairwise_append.2 ⟨List.Pairwise.sublist (List.take_sublist _ _) h, List.pairwise_cons.2 ⟨fun g hg => ?_, List.Pairwise.sublist ((List.filter_sublist).trans (List.drop_sublist _ _)) h⟩, fun a ha b hb => ?_⟩
  · obtain ⟨hg1, hg2⟩ := List.mem_filter.1 hg
    exact ltN_of (h2 g hg1) (by simpa using hg2)
  · have := h1 a ha
    rcases List.mem_cons.1 hb with rfl | hb
    · exact this
    · obtain ⟨hg1, hg2⟩ := List.mem_filter.1 hb
      exact List.lt_trans this (ltN_of (h2 b hg1) (by simpa using hg2))
/-- Without one, by the document. -/
def withoutF (x : List FX) (n : ByteArray) : List FX := x.take (lbF n x) ++ x.drop (lbF n x + 1)
theorem without_fil {x : List FX} (h : srtF x) {n : ByteArray} (hh : hasF n x = true) : withoutF x n = filF n x := by
  have := with_fil h ⟨n, ⟨#[]⟩, 0, false⟩
  simp only at this
  obtain ⟨w1, w2⟩ := this
  unfold withF at w1
  simp only [hh, if_true] at w1
  rw [w2]
  unfold withoutF
  have := List.append_cancel_left w1
  simp only [List.cons.injEq, true_and] at this
  rw [this]
theorem srt_fil {x : List FX} (h : srtF x) (n : ByteArray) : srtF (filF n x) := List.Pairwise.sublist List.filter_sublist h
/-! ### the map's entries -/
def putL (f : FX) : List FX → List FX
  | [] => [f]
  | g :: l => if g.n = f.n then f :: l else g :: putL f l
def delL (n : ByteArray) : List FX → List FX
  | [] => []
  | g :: l => if g.n = n then l else g :: delL n l
theorem put_perm {f : FX} : ∀ {l : List FX}, nodF l → (putL f l).Perm (f :: filF f.n l)
  | [], _ => List.Perm.refl _
  | g :: l, h => by
    obtain ⟨h1, h2⟩ := List.pairwise_cons.1 h
    unfold putL filF
    split
    · rename_i e
      rw [List.filter_cons_of_neg (by simp [e])]
      have := fil_no (n := f.n) (x := l) fun q hq e2 => h1 q hq (e.trans e2.symm)
      unfold filF at this
      rw [this]
    · rename_i e
      rw [List.filter_cons_of_pos (by simp [e])]
      exact ((put_perm h2).cons g).trans (List.Perm.swap f g _)
theorem del_fil {n : ByteArray} : ∀ {l : List FX}, nodF l → delL n l = filF n l
  | [], _ => rfl
  | g :: l, h => by
    obtain ⟨h1, h2⟩ := List.pairwise_cons.1 h
    unfold delL filF
    split
    · rename_i e
      rw [List.filter_cons_of_neg (by simp [e])]
      exact (fil_no fun q hq e2 => h1 q hq (e.trans e2.symm)).symm
    · rename_i e
      rw [List.filter_cons_of_pos (by simp [e]), del_fil h2]; rfl
theorem put_with {l x : List FX} (p : l.Perm x) (h : srtF x) (f : FX) : (putL f l).Perm (withF x f) :=
  (put_perm (nod_perm p.symm h.nod)).trans (((fil_perm p).cons f).trans (with_perm h f).symm)
theorem del_without {l x : List FX} (p : l.Perm x) (h : srtF x) {n : ByteArray} (hh : hasF n x = true) : (delL n l).Perm (withoutF x n) := by
  rw [del_fil (nod_perm p.symm h.nod), without_fil h hh]
  exact fil_perm p
def mapF (l : List FX) : List (Value × AV) := l.map fun f => (.string f.n, f.val)
theorem eqV_s (a b : ByteArray) : eqV .s (.string a) (.string b) = some (decide (a = b)) := by simp only [eqV, txt_eq]
theorem mfind_F (n : ByteArray) : ∀ l : List FX, mfind .s (.string n) (mapF l) = some ((fndF n l).map FX.val)
  | [] => rfl
  | g :: l => by
    have ih := mfind_F n l
    unfold mapF at ih ⊢
    simp only [List.map_cons, mfind, eqV_s, fndF, List.find?_cons]
    by_cases c : n = g.n
    · subst c; simp
    · have c' : ¬ g.n = n := fun e => c e.symm
      simp only [c, c', decide_false]
      exact ih
theorem mput_F (f : FX) : ∀ l : List FX, mput .s (.string f.n) f.val (mapF l) = some (mapF (putL f l))
  | [] => rfl
  | g :: l => by
    have ih := mput_F f l
    unfold mapF at ih ⊢
    simp only [List.map_cons, mput, eqV_s, putL]
    by_cases c : f.n = g.n
    · simp [c]
    · have c' : ¬ g.n = f.n := fun e => c e.symm
      simp only [c, c', decide_false, if_false, ih, List.map_cons]
theorem mdel_F (n : ByteArray) : ∀ l : List FX, mdel .s (.string n) (mapF l) = some (mapF (delL n l))
  | [] => rfl
  | g :: l => by
    have ih := mdel_F n l
    unfold mapF at ih ⊢
    simp only [List.map_cons, mdel, eqV_s, delL]
    by_cases c : n = g.n
    · subst c; simp
    · have c' : ¬ g.n = n := fun e => c e.symm
      simp only [c, c', decide_false, if_false, ih, List.map_cons]
/-! ### how many bytes -/
def totF (x : List FX) : Nat := (x.map fun f => f.b.size).sum
theorem tot_perm {x y : List FX} (p : x.Perm y) : totF x = totF y := (p.map _).sum_nat
theorem tot_cons (f : FX) (x : List FX) : totF (f :: x) = f.b.size + totF x := by simp [totF]
theorem tot_one' (f : FX) : totF [f] = f.b.size := by simp [totF]
theorem tot_app (x y : List FX) : totF (x ++ y) = totF x + totF y := by simp [totF]
theorem tot_fil {n : ByteArray} {x : List FX} {f : FX} (h : nodF x) (hf : fndF n x = some f) : totF (filF n x) + f.b.size = totF x := by
  induction x with
  | nil => cases hf
  | cons g x ih =>
    obtain ⟨h1, h2⟩ := List.pairwise_cons.1 h
    by_cases e : g.n = n
    · have : f = g := by
        have : fndF n (g :: x) = some g := by unfold fndF; rw [List.find?_cons_of_pos (by simp [e])]
        rw [this] at hf; exact (Option.some.inj hf).symm
      subst this
      have e2 : filF n (f :: x) = x := by
        unfold filF
        rw [List.filter_cons_of_neg (by simp [e])]
        exact fil_no fun q hq e2 => h1 q hq (e.trans e2.symm)
      rw [e2, tot_cons, Nat.add_comm]
    · have e2 : filF n (g :: x) = g :: filF n x := by unfold filF; rw [List.filter_cons_of_pos (by simp [e])]
      have e3 : fndF n (g :: x) = fndF n x := by unfold fndF; rw [List.find?_cons_of_neg (by simp [e])]
      rw [e3] at hf
      rw [e2, tot_cons, tot_cons, Nat.add_assoc, ih h2 hf]
theorem tot_no {n : ByteArray} {x : List FX} (h : hasF n x = false) : filF n x = x := fil_no fun f hf e => by
  rw [has_iff.2 ⟨f, hf, e⟩] at h; cases h
theorem tot_mem {x : List FX} {f : FX} (h : f ∈ x) : f.b.size ≤ totF x := by
  induction x with
  | nil => cases h
  | cons g x ih =>
    rw [tot_cons]
    rcases List.mem_cons.1 h with rfl | h
    · omega
    · have := ih h; omega
/-! ### names, sorted -/
def insN (n : ByteArray) : List ByteArray → List ByteArray
  | [] => [n]
  | m :: l => if Op.bytesLess m.data.toList n.data.toList = true then m :: insN n l else n :: m :: l
def sortN (l : List ByteArray) : List ByteArray := l.foldr insN []
theorem ins_perm (n : ByteArray) : ∀ l, (insN n l).Perm (n :: l)
  | [] => List.Perm.refl _
  | m :: l => by
    unfold insN
    split
    · exact ((ins_perm n l).cons m).trans (List.Perm.swap n m l)
    · exact List.Perm.refl _
theorem sortN_perm : ∀ l, (sortN l).Perm l
  | [] => List.Perm.refl _
  | n :: l => (ins_perm n _).trans ((sortN_perm l).cons n)
theorem ins_pw (n : ByteArray) : ∀ {l : List ByteArray}, l.Pairwise (fun a b => kyB a ≤ kyB b) → (insN n l).Pairwise (fun a b => kyB a ≤ kyB b)
  | [], _ => by simp [insN]
  | m :: l, h => by
    obtain ⟨h1, h2⟩ := List.pairwise_cons.1 h
    unfold insN
    split
    · rename_i c
      rw [Go.Proofs.bytesLess_eq] at c
      have c' : kyB m < kyB n := of_decide_eq_true c
      refine List.pairwise_cons.2 ⟨fun x hx => ?_, ins_pw n h2⟩
      rcases List.mem_cons.1 ((ins_perm n l).mem_iff.1 hx) with rfl | hx
      · exact List.le_of_lt c'
      · exact h1 x hx
    · rename_i c
      rw [Go.Proofs.bytesLess_eq] at c
      have c' : kyB n ≤ kyB m := List.not_lt.1 fun q => c (decide_eq_true q)
      refine List.pairwise_cons.2 ⟨fun x hx => ?_, h⟩
      rcases List.mem_cons.1 hx with rfl | hx
      · exact c'
      · exact List.le_trans c' (h1 x hx)
theorem sortN_pw : ∀ l, (sortN l).Pairwise (fun a b => kyB a ≤ kyB b)
  | [] => List.Pairwise.nil
  | n :: l => ins_pw n (sortN_pw l)
theorem sortN_eq {l s : List ByteArray} (p : l.Perm s) (h : s.Pairwise fun a b => kyB a < kyB b) : sortN l = s :=
  List.Perm.eq_of_pairwise (le := fun a b => kyB a ≤ kyB b) (fun a b _ _ h1 h2 => kyB_inj (List.le_antisymm h1 h2)) (sortN_pw l) (h.imp fun h => List.le_of_lt h) ((sortN_perm l).trans p)
/-! ### what the map's entries say -/
def fileOf : Value × AV → Option FX
  | (.string n, .agg [.v (.string b), .v (.int .i64 s), .v (.bool y)]) => some ⟨n, b, s, y⟩
  | _ => none
def filesOf : List (Value × AV) → Option (List FX)
  | [] => some []
  | p :: l => (fileOf p).bind fun f => (filesOf l).map (f :: ·)
theorem filesOf_map : ∀ l : List FX, filesOf (mapF l) = some l
  | [] => rfl
  | f :: l => by
    have ih := filesOf_map l
    unfold mapF at ih ⊢
    simp only [List.map_cons, filesOf, ih]; rfl
theorem fileOf_eq {p : Value × AV} {f : FX} (h : fileOf p = some f) : p = (.string f.n, f.val) := by
  obtain ⟨k, a⟩ := p
  unfold fileOf at h
  split at h
  · cases h; rename_i e; cases e; rfl
  · cases h
theorem filesOf_eq : ∀ {es : List (Value × AV)} {l : List FX}, filesOf es = some l → es = mapF l
  | [], l, h => by simp only [filesOf, Option.some.injEq] at h; subst h; rfl
  | p :: es, l, h => by
    simp only [filesOf, Option.bind_eq_some_iff, Option.map_eq_some_iff] at h
    obtain ⟨f, h1, l', h2, rfl⟩ := h
    rw [filesOf_eq h2, fileOf_eq h1]; rfl
def nmC (b : ByteArray) : List AV := [.v (.string b)]
theorem ro_nm : Ro nmC := fun _ => rfl
/-- How much more fits. -/
def pFree (xs : List AV) (st : Store) : Option (AV × Store) :=
  match xs with
  | [.ref id _ 0 0] => match st[id]? with
    | some (.box (.v (.int .i64 cap) :: .mp m :: _)) => match st[m]? with
      | some (.map es) => match filesOf es with
        | some l => if 0 ≤ cap ∧ cap ≤ 4611686018427387904 ∧ (totF l : Int) ≤ cap then some (.v (.int .i64 (cap - totF l)), st) else none
        | none => none
      | _ => none
    | _ => none
  | _ => none
/-- The files' names, sorted. -/
def pNames (xs : List AV) (st : Store) : Option (AV × Store) :=
  match xs with
  | [.ref id _ 0 0] => match st[id]? with
    | some (.box (.v (.int .i64 _) :: .mp m :: _)) => match st[m]? with
      | some (.map es) => match filesOf es with
        | some l => if l.length ≤ 100000 ∧ (l.all fun f => decide (f.n.size ≤ 100000)) = true then some ((slOf (sortN (l.map FX.n))).av 1 nmC, st) else none
        | none => none
      | _ => none
    | _ => none
  | _ => none
end Go.Proofs.YtaodpgpepmlfbaaDoor.Ev
