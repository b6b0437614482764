/-
  Chapter 36, the rows that list the library's tables of powers: what the evaluator's program gives.
-/
import Derived.Test.YtgehbkdpodnajaaDoorEvPr
import Derived.Test.YtgehbkdpodnajaaDoorEvE36
import Derived.Test.YtgehbkdpodnajaaDoorEvG36
import Derived.Test.YtgehbkdpodnajaaDoorEvRd8
set_option linter.unusedVariables false
set_option linter.unusedSimpArgs false
namespace Go.Proofs.YtgehbkdpodnajaaDoor.Ev
open Go.RowKit Go.Proofs
/-- strings.Join -/
def texts : List (List AV) → Option (List ByteArray)
  | [] => some []
  | [.v (.string b)] :: l => match texts l with | some r => some (b :: r) | none => none
  | _ => none
def pJoin (xs : List AV) (st : Store) : Option (AV × Store) :=
  match xs with
  | [.sl 1 l, .v (.string sep)] => match texts l with
    | some bs => if bs.length ≤ 140737488355328 ∧ (Lib.join (bs.map (·.data.toList)) sep.data.toList).length ≤ 140737488355328 then some (.v (.string ⟨(Lib.join (bs.map (·.data.toList)) sep.data.toList).toArray⟩), st) else none
    | none => none
  | [.v (.slice none 0 0), .v (.string _)] => some (.v (.string ⟨#[]⟩), st)
  | _ => none
theorem keep_join : PKeep pJoin := by
  intro xs st r st' h
  unfold pJoin at h
  split at h
  · split at h
    · split at h
      · cases h; rfl
      · cases h
    · cases h
  · cases h; rfl
  · cases h
theorem texts_eq : ∀ {l : List (List AV)} {bs : List ByteArray}, texts l = some bs → l = bs.map fun b => [AV.v (.string b)]
  | [], bs, h => by cases h; rfl
  | x :: l, bs, h => by
    unfold texts at h
    split at h
    · rename_i hd; cases hd
    · rename_i b l' hd
      cases hd
      split at h
      · rename_i r hr
        cases h
        rw [texts_eq hr]; rfl
      · cases h
    · cases h
theorem ok_join {G : Nat → Option (List AV)} : POK Tryd.prog G 34 pJoin := by
  intro xs C r st' cargs h hO hg hv
  unfold pJoin at h
  split at h
  · rename_i l sep
    split at h
    · rename_i bs hbs
      split at h
      · rename_i hb
        cases h
        have hl := texts_eq hbs
        subst hl
        simp only [VRt] at hv
        obtain ⟨c1, l1, rfl, hc1, c2, l2, rfl, hc2, rfl⟩ := hv
        have e2 := VR_plain hc2
        subst e2
        simp only [VR] at hc1
        obtain ⟨a, cap, rfl, ⟨hcap, ha⟩, hrow⟩ := hc1
        have hlen : (bs.map fun b => [AV.v (.string b)]).length = bs.length := List.length_map _
        rw [hlen] at hcap ⊢
        cases bs with
        | nil => exact calls_plain rfl hO Tryd.call34 ((Tryd.strings_Join_none a cap sep C.w).mono (by rintro e w' ⟨rfl, rfl⟩; exact ⟨rfl, ⟨rfl, rfl, rfl, Nat.le_refl _, fun _ _ => rfl⟩⟩))
        | cons b0 bs' =>
          have hget : ∀ (j : Nat) (x : ByteArray), (b0 :: bs')[j]? = some x → ∃ ad, a = some ad ∧ ad.spot = none ∧ C.w.cell? (ad.add j) = some (.string x) := by
            intro j x hj
            obtain ⟨ad, h1, h2, h3⟩ := (VRrow_get hrow j [.v (.string x)] (by rw [List.getElem?_map, hj]; rfl)).2
            obtain ⟨c, k1, k2, _⟩ := VRat_get h3 0 (.v (.string x)) rfl
            have := VR_plain k2
            subst this
            refine ⟨ad, h1, h2, ?_⟩
            have k3 := k1.1
            rw [show (0 + j) * 1 + 0 = j by omega] at k3
            exact k3
          obtain ⟨⟨bk, o, sp⟩, rfl, hs, h0⟩ := hget 0 b0 rfl
          have hs : sp = none := hs
          subst hs
          have hcells : ∀ (j : Nat) (x : ByteArray), (b0 :: bs')[j]? = some x → C.w.cell? ⟨bk, o + j, none⟩ = some (.string x) := by
            intro j x hj
            obtain ⟨ad, e1, _, e3⟩ := hget j x hj
            cases e1
            rw [add_plain] at e3
            exact e3
          have hbk : bk < C.w.heap.size := by
            have h1 := hcells 0 b0 rfl
            rcases Nat.lt_or_ge bk C.w.heap.size with q | q
            · exact q
            · simp [World.cell?, Array.getElem?_eq_none q] at h1
          exact calls_plain rfl hO Tryd.call34 (Tryd.strings_Join bk o cap (b0 :: bs') sep C.w hcells hbk hb.1 hcap hb.2)
      · cases h
    · cases h
  · cases h
    simp only [VRt] at hv
    obtain ⟨c1, l1, rfl, hc1, c2, l2, rfl, hc2, rfl⟩ := hv
    have e1 := VR_plain hc1
    have e2 := VR_plain hc2
    subst e1; subst e2
    exact calls_plain rfl hO Tryd.call34 ((Tryd.strings_Join_none none 0 _ C.w).mono (by rintro e w' ⟨rfl, rfl⟩; exact ⟨rfl, ⟨rfl, rfl, rfl, Nat.le_refl _, fun _ _ => rfl⟩⟩))
  · cases h
end Go.Proofs.YtgehbkdpodnajaaDoor.Ev
set_option linter.unusedVariables false
set_option linter.unusedSimpArgs false
namespace Go.Proofs.YtgehbkdpodnajaaDoor.Ev
def prim36j : Nat → Option (List AV → Store → Option (AV × Store))
  | 52 => some pItoa
  | 29 => some pSplit
  | 56 => some pValid
  | 81 => some pIndexByte
  | 34 => some pJoin
  | _ => none
def E36J (m : Int) : Prog := ⟨glob36 true m, fns, prim36j⟩
theorem awake36j (m : Int) : (callF (E36J m) 60 f_usufructlaw36_awake [] [] []).map (·.1) = some (.v (.bool true)) := by kernel_rfl
theorem prim36j_ok (m : Int) : PrimOK Go.Proofs.Tryd.prog (E36J m) := by
  intro f p xs C r st' cargs hp h hO hg hv
  have hp' : prim36j f = some p := hp
  unfold prim36j at hp'
  split at hp'
  · cases hp'; exact ok_itoa (G := (E36J m).glob) rfl xs C r st' cargs h hO hg hv
  · cases hp'; exact ok_split (G := (E36J m).glob) (m := m) rfl xs C r st' cargs h hO hg hv
  · cases hp'; exact ok_valid (G := (E36J m).glob) rfl rfl xs C r st' cargs h hO hg hv
  · cases hp'; exact ok_indexByte (G := (E36J m).glob) xs C r st' cargs h hO hg hv
  · cases hp'; exact ok_join (G := (E36J m).glob) xs C r st' cargs h hO hg hv
  · cases hp'
theorem prim36j_sc (m : Int) : PrimSc (E36J m) := by
  intro f p xs st r st' bases hp h
  have hp' : prim36j f = some p := hp
  have : st' = st := by
    unfold prim36j at hp'
    split at hp'
    · cases hp'; exact keep_itoa _ _ _ _ h
    · cases hp'; exact keep_split _ _ _ _ h
    · cases hp'; exact keep_valid _ _ _ _ h
    · cases hp'; exact keep_indexByte _ _ _ _ h
    · cases hp'; exact keep_join _ _ _ _ h
    · cases hp'
  subst this
  exact Grows.refl _
end Go.Proofs.YtgehbkdpodnajaaDoor.Ev
set_option linter.unusedVariables false
set_option linter.unusedSimpArgs false
set_option maxRecDepth 100000
namespace Go.Proofs.YtgehbkdpodnajaaDoor.Ev
open Go.RowKit Go.Proofs
theorem awake36jP (m : Int) : callP (E36J m) f_usufructlaw36_awake [] = some (vb true) := by
  have h := awake36j m
  cases k : callF (E36J m) 60 f_usufructlaw36_awake [] [] [] with
  | none => rw [k] at h; cases h
  | some p =>
    rw [k] at h
    refine callP_of 60 ?_
    rw [k]
    obtain ⟨r, st⟩ := p
    simp only [Option.map_some, Option.some.injEq] at h
    subst h
    rfl
theorem std36j (m : Int) : Std (E36J m) fns := ⟨by kernel_rfl, fun f fd h => by
  show prim36j f = none
  have h2 : fns 52 = none ∧ fns 29 = none ∧ fns 56 = none ∧ fns 81 = none ∧ fns 34 = none := ⟨by kernel_rfl, by kernel_rfl, by kernel_rfl, by kernel_rfl, by kernel_rfl⟩
  unfold prim36j
  split
  · rw [h2.1] at h; cases h
  · rw [h2.2.1] at h; cases h
  · rw [h2.2.2.1] at h; cases h
  · rw [h2.2.2.2.1] at h; cases h
  · rw [h2.2.2.2.2] at h; cases h
  · rfl⟩
theorem pv36j (m : Int) : (E36J m).prim f_utf8_ValidString = some pValid := by kernel_rfl
theorem pi36j (m : Int) : (E36J m).prim f_strconv_Itoa_0 = some pItoa := by kernel_rfl
theorem ps36j (m : Int) : (E36J m).prim f_strings_Split = some pSplit := by kernel_rfl
theorem pb36j (m : Int) : (E36J m).prim f_strings_IndexByte = some pIndexByte := by kernel_rfl
theorem pj36j (m : Int) : (E36J m).prim f_strings_Join = some pJoin := by kernel_rfl
theorem vok36j (m : Int) : VOK (E36J m) := fun s hs => by
  unfold callP
  rw [call_prim (pv36j m)]
  simp only [pValid]
  rw [if_pos (by omega)]
  rfl
theorem phok36j (m : Int) : PHOK (E36J m) := rfl
theorem ibok36j (m : Int) : IBOK (E36J m) := fun s n => by
  unfold callP
  rw [call_prim (pb36j m)]
  rfl
theorem itok36j (m : Int) : ITOK (E36J m) := fun n h0 h1 => by
  unfold callP
  rw [call_prim (pi36j m)]
  simp only [pItoa]
  rw [if_pos ⟨h0, h1⟩]
  rfl
theorem asok36j (m : Int) : ASOK (E36J m) := callP_of 60 (by kernel_rfl)
theorem ross_strL : ∀ l : List (List UInt8), ross (l.map strL) = true
  | [] => rfl
  | x :: l => by
    have ih := ross_strL l
    rw [List.map_cons]
    unfold ross at ih ⊢
    rw [belowss, ih]; rfl
theorem spok36j (m : Int) : SPOK (E36J m) := fun s hs => by
  unfold callP
  rw [call_prim (ps36j m)]
  simp only [pSplit]
  rw [if_pos ⟨hs, by decide⟩, split_pcs, List.map_map]
  simp only [AV.snap]
  exact if_pos (ross_strL _)
theorem texts_strL : ∀ l : List (List UInt8), texts (l.map strL) = some (l.map BA)
  | [] => rfl
  | x :: l => by
    have ih := texts_strL l
    rw [List.map_cons]
    show (match texts (l.map strL) with | some r => some (BA x :: r) | none => none) = _
    rw [ih]; rfl
theorem join_eq : ∀ ts : List (List UInt8), Lib.join ((ts.map BA).map (·.data.toList)) [32] = joinB ts
  | [] => rfl
  | [a] => by
    show Lib.join [(BA a).data.toList] [32] = _
    rw [Lib.join_one, ba_data]
    show a = if ([] : List (List UInt8)) = [] then a else _
    rw [if_pos rfl]
  | a :: b :: ts => by
    have ih := join_eq (b :: ts)
    rw [joinB, if_neg (by simp), ← ih]
    unfold Lib.join
    simp only [List.map_cons, ba_data]
    rw [List.intercalate_cons_cons]
    simp
theorem join_le0 : ∀ {ts : List (List UInt8)} {B : Nat}, (∀ p, p ∈ ts → p.length ≤ B) → (joinB ts).length ≤ ts.length * (B + 1)
  | [], B, _ => by simp [joinB]
  | a :: ts, B, h => by
    have h1 := h a (by simp)
    have ih := join_le0 (ts := ts) (B := B) fun p hp => h p (List.mem_cons_of_mem _ hp)
    rw [joinB, List.length_cons, Nat.succ_mul]
    split
    · omega
    · simp only [List.length_append, List.length_cons]; omega
theorem jok36j (m : Int) : JOK (E36J m) := fun ts hn hl => by
  have e32 : (⟨#[32]⟩ : ByteArray).data.toList = [32] := rfl
  unfold callP
  rw [call_prim (pj36j m)]
  cases ts with
  | nil => rfl
  | cons a ts =>
    have hlen := join_le0 (ts := a :: ts) (B := 2000000) hl
    have h2 : (a :: ts).length * (2000000 + 1) ≤ 1000 * 2000001 := Nat.mul_le_mul_right _ hn
    show (match pJoin [.sl 1 ((a :: ts).map strL), .v (.string ⟨#[32]⟩)] [] with | some (r, st) => r.snap st | none => none) = _
    simp only [pJoin, texts_strL]
    rw [join_eq, if_pos ⟨by rw [List.length_map]; omega, by omega⟩]
    rfl
theorem law36j (n : List TypeId) (f : Nat) (law : ∀ m avs, ArgsOf Tryd.prog n avs → callP (E36J m) f avs = some (.v (.bool true))) (W : World) (hl : laidMetH Tryd.prog laid36b W) (hs : W.ShapedOpen Tryd.prog) :
    ∃ E : Prog, GRo E.glob ∧ PrimOK Tryd.prog E ∧ PrimSc E ∧ (∀ f fd, E.fn f = some fd → FnChk Tryd.prog f fd) ∧ GlobR (World.ctx W) E.glob ∧ ∀ avs, ArgsOf Tryd.prog n avs → callP E f avs = some (.v (.bool true)) := by
  obtain ⟨m, hg⟩ := glob36b_ok hl hs
  exact ⟨E36J m, gro36 true m, prim36j_ok m, prim36j_sc m, fns_ok, hg, law m⟩
end Go.Proofs.YtgehbkdpodnajaaDoor.Ev
