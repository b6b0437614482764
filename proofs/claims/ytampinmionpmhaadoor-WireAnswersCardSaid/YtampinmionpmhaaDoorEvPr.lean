/-
  The library functions that chapter 19 meets: Itoa, Split, ValidString, Join, Atoi.
-/
import Derived.Test.YtampinmionpmhaaDoorEvLib
import Derived.Test.YtampinmionpmhaaDoorShelf
set_option linter.unusedVariables false
set_option linter.unusedSimpArgs false
namespace Go.Proofs.YtampinmionpmhaaDoor.Ev
open Go.RowKit Go.Proofs Go.Sort

def POK (P : Program) (G : Nat → Option (List AV)) (f : Nat) (p : List AV → Store → Option (AV × Store)) : Prop :=
  ∀ (xs : List AV) (C : Ctx) (r : AV) (st' : Store) (cargs : List Value), p xs C.st = some (r, st') → C.OK → GlobR C G → VRt C xs cargs → CallsF P f cargs C.w (Rets C r st')
def PKeep (p : List AV → Store → Option (AV × Store)) : Prop := ∀ xs st r st', p xs st = some (r, st') → st' = st
/-- strconv.Itoa -/
def pItoa (xs : List AV) (st : Store) : Option (AV × Store) :=
  match xs with
  | [.v (.int .i64 n)] => if -9223372036854775808 ≤ n ∧ n ≤ 9223372036854775807 then some (.v (.string ⟨(Lib.itoa n).toArray⟩), st) else none
  | _ => none
/-- strings.Split, the separator not empty -/
def pSplit (xs : List AV) (st : Store) : Option (AV × Store) :=
  match xs with
  | [.v (.string s), .v (.string sep)] => if s.size < 4294967281 ∧ 1 ≤ sep.size then some (.sl 1 ((Lib.splitB sep 0 (Lib.countB s sep) s).map fun b => [.v (.string b)]), st) else none
  | _ => none
theorem below_grow {B : Nat} {a w : World} (h : Below B a w) (hB : B ≤ w.heap.size) (os : Array Obj) : Below B a (grow w os) :=
  h.trans ⟨rfl, rfl, rfl, by simp [grow], fun k hk => by simp only [grow]; rw [Array.getElem?_append_left (by omega)]⟩
theorem keep_itoa : PKeep pItoa := by
  intro xs st r st' h
  unfold pItoa at h
  split at h
  · split at h
    · cases h; rfl
    · cases h
  · cases h
theorem keep_split : PKeep pSplit := by
  intro xs st r st' h
  unfold pSplit at h
  split at h
  · split at h
    · cases h; rfl
    · cases h
  · cases h
theorem ok_itoa {G : Nat → Option (List AV)} (h2 : G 2 = some ((Lib.pow10Tab.map fun z => Value.int .u64 z).map AV.v)) : POK Tryd.prog G 24 pItoa := by
  intro xs C r st' cargs h hO hg hv
  unfold pItoa at h
  split at h
  · rename_i n
    split at h
    · rename_i hb
      cases h
      simp only [VRt] at hv
      obtain ⟨c, l, rfl, hc, rfl⟩ := hv
      have := VR_plain hc
      subst this
      obtain ⟨t, fr, hh⟩ := glob_all hg h2
      have htab : Lib.TabIs Tryd.prog C.w "internal/strconv.uint64pow10" .u64 Lib.pow10Tab := by
        have hn : Tryd.prog.globalNamed "internal/strconv.uint64pow10" = some 2 := by kernel_rfl
        simp only [Lib.TabIs, World.var?, hn, Option.bind_some, hh]
      refine calls_plain rfl hO Tryd.call24 ((Tryd.strconv_Itoa n hb.1 hb.2 C.w htab).mono ?_)
      rintro e w' ⟨rfl, k, os, rfl⟩
      exact ⟨rfl, below_grow (⟨rfl, rfl, rfl, Nat.le_refl _, fun _ _ => rfl⟩ : Below C.w.heap.size C.w (C.w.drewN k)) (Nat.le_refl _) os⟩
    · cases h
  · cases h
theorem ok_split {G : Nat → Option (List AV)} {m : Int} (h3 : G 3 = some [.v (.int .i64 m)]) : POK Tryd.prog G 32 pSplit := by
  intro xs C r st' cargs h hO hg hv
  unfold pSplit at h
  split at h
  · rename_i s sep
    split at h
    · rename_i hb
      cases h
      simp only [VRt] at hv
      obtain ⟨c1, l1, rfl, hc1, c2, l2, rfl, hc2, rfl⟩ := hv
      have e1 := VR_plain hc1
      have e2 := VR_plain hc2
      subst e1; subst e2
      have hm : C.w.cell? ⟨3, 0, none⟩ = some (.int .i64 m) := glob_cell (l := [.int .i64 m]) hg h3 rfl
      have hlen : (Lib.splitB sep 0 (Lib.countB s sep) s).length = Lib.countB s sep + 1 := Lib.splitB_all sep hb.2 0 _ s rfl
      refine calls_texts (t := 9) hO Tryd.call32 ((Tryd.strings_Split s sep m C.w hb.1 hm hb.2).mono ?_)
      rintro e w' ⟨rfl, rfl⟩
      rw [hlen]
      exact ⟨rfl, rfl⟩
    · cases h
  · cases h
/-- unicode/utf8.ValidString -/
def pValid (xs : List AV) (st : Store) : Option (AV × Store) :=
  match xs with
  | [.v (.string s)] => if s.size ≤ 9223372036854775807 then some (.v (.bool (Lib.validD s.data.toList)), st) else none
  | _ => none
theorem keep_valid : PKeep pValid := by
  intro xs st r st' h
  unfold pValid at h
  split at h
  · split at h
    · cases h; rfl
    · cases h
  · cases h
def tabFirst : List Value := (List.range 256).map fun c => .int .u8 (Lib.firstT c)
def tabAcc : List Value := (List.range 32).map fun j => .int .u8 (if j % 2 = 0 then Lib.accLo (j / 2) else Lib.accHi (j / 2))
theorem ok_valid {G : Nat → Option (List AV)} (h0 : G 0 = some (tabFirst.map AV.v)) (h1 : G 1 = some (tabAcc.map AV.v)) : POK Tryd.prog G 35 pValid := by
  intro xs C r st' cargs h hO hg hv
  unfold pValid at h
  split at h
  · rename_i s
    split at h
    · rename_i hb
      cases h
      simp only [VRt] at hv
      obtain ⟨c, l, rfl, hc, rfl⟩ := hv
      have := VR_plain hc
      subst this
      have hT : Lib.Utf8Tabs 0 1 C.w := by
        refine ⟨fun c hc => glob_cell hg h0 (by simp [tabFirst, hc]), fun i hi => ⟨glob_cell hg h1 ?_, glob_cell hg h1 ?_⟩⟩
        · simp [tabAcc, show 2 * i < 32 by omega]
        · simp [tabAcc, show 2 * i + 1 < 32 by omega, show (2 * i + 1) % 2 = 1 by omega, show (2 * i + 1) / 2 = i by omega]
      exact calls_plain rfl hO Tryd.call35 (Tryd.utf8_ValidString s C.w hb hT)
    · cases h
  · cases h
/-- strings.Join -/
def texts : List (List AV) → Option (List ByteArray)
  | [] => some []
  | [.v (.string b)] :: l => match texts l with | some r => some (b :: r) | none => none
  | _ => none
def pJoin (xs : List AV) (st : Store) : Option (AV × Store) :=
  match xs with
  | [.sl 1 l, .v (.string sep)] => match texts l with
    | some bs => if bs.length ≤ 140737488355328 ∧ (Lib.join (bs.map (·.data.toList)) sep.data.toList).length ≤ 140737488355328 then some (.v (.string ⟨(Lib.join (bs.map (·.data.toList)) sep.data.toList).toArray⟩), st) else none
    | none => none
  | [.v (.slice none 0 0), .v (.string _)] => some (.v (.string ⟨#[]⟩), st)
  | _ => none
theorem keep_join : PKeep pJoin := by
  intro xs st r st' h
  unfold pJoin at h
  split at h
  · split at h
    · split at h
      · cases h; rfl
      · cases h
    · cases h
  · cases h; rfl
  · cases h
theorem texts_eq : ∀ {l : List (List AV)} {bs : List ByteArray}, texts l = some bs → l = bs.map fun b => [AV.v (.string b)]
  | [], bs, h => by cases h; rfl
  | x :: l, bs, h => by
    unfold texts at h
    split at h
    · rename_i hd; cases hd
    · rename_i b l' hd
      cases hd
      split at h
      · rename_i r hr
        cases h
        rw [texts_eq hr]; rfl
      · cases h
    · cases h
theorem ok_join {G : Nat → Option (List AV)} : POK Tryd.prog G 43 pJoin := by
  intro xs C r st' cargs h hO hg hv
  unfold pJoin at h
  split at h
  · rename_i l sep
    split at h
    · rename_i bs hbs
      split at h
      · rename_i hb
        cases h
        have hl := texts_eq hbs
        subst hl
        simp only [VRt] at hv
        obtain ⟨c1, l1, rfl, hc1, c2, l2, rfl, hc2, rfl⟩ := hv
        have e2 := VR_plain hc2
        subst e2
        simp only [VR] at hc1
        obtain ⟨a, cap, rfl, ⟨hcap, ha⟩, hrow⟩ := hc1
        have hlen : (bs.map fun b => [AV.v (.string b)]).length = bs.length := List.length_map _
        rw [hlen] at hcap ⊢
        cases bs with
        | nil => exact calls_plain rfl hO Tryd.call43 ((Tryd.strings_Join_none a cap sep C.w).mono (by rintro e w' ⟨rfl, rfl⟩; exact ⟨rfl, ⟨rfl, rfl, rfl, Nat.le_refl _, fun _ _ => rfl⟩⟩))
        | cons b0 bs' =>
          have hget : ∀ (j : Nat) (x : ByteArray), (b0 :: bs')[j]? = some x → ∃ ad, a = some ad ∧ ad.spot = none ∧ C.w.cell? (ad.add j) = some (.string x) := by
            intro j x hj
            obtain ⟨ad, h1, h2, h3⟩ := (VRrow_get hrow j [.v (.string x)] (by rw [List.getElem?_map, hj]; rfl)).2
            obtain ⟨c, k1, k2, _⟩ := VRat_get h3 0 (.v (.string x)) rfl
            have := VR_plain k2
            subst this
            refine ⟨ad, h1, h2, ?_⟩
            have k3 := k1.1
            rw [show (0 + j) * 1 + 0 = j by omega] at k3
            exact k3
          obtain ⟨⟨bk, o, sp⟩, rfl, hs, h0⟩ := hget 0 b0 rfl
          have hs : sp = none := hs
          subst hs
          have hcells : ∀ (j : Nat) (x : ByteArray), (b0 :: bs')[j]? = some x → C.w.cell? ⟨bk, o + j, none⟩ = some (.string x) := by
            intro j x hj
            obtain ⟨ad, e1, _, e3⟩ := hget j x hj
            cases e1
            rw [add_plain] at e3
            exact e3
          have hbk : bk < C.w.heap.size := by
            have h1 := hcells 0 b0 rfl
            rcases Nat.lt_or_ge bk C.w.heap.size with q | q
            · exact q
            · simp [World.cell?, Array.getElem?_eq_none q] at h1
          exact calls_plain rfl hO Tryd.call43 (Tryd.strings_Join bk o cap (b0 :: bs') sep C.w hcells hbk hb.1 hcap hb.2)
      · cases h
    · cases h
  · cases h
    simp only [VRt] at hv
    obtain ⟨c1, l1, rfl, hc1, c2, l2, rfl, hc2, rfl⟩ := hv
    have e1 := VR_plain hc1
    have e2 := VR_plain hc2
    subst e1; subst e2
    exact calls_plain rfl hO Tryd.call43 ((Tryd.strings_Join_none none 0 _ C.w).mono (by rintro e w' ⟨rfl, rfl⟩; exact ⟨rfl, ⟨rfl, rfl, rfl, Nat.le_refl _, fun _ _ => rfl⟩⟩))
  · cases h
/-- strconv.Atoi -/
def pAtoi (xs : List AV) (st : Store) : Option (AV × Store) :=
  match xs with
  | [.v (.string s)] => if s.size ≤ 281474976710656 then
      match Lib.atoiAll s.data.toList with
      | .ok v => some (.tup [.v (.int .i64 v), .v .nilIface], st)
      | .range => some (.tup [.v (.int .i64 (Lib.atoiSat s.data.toList)), .ifc], st)
      | _ => some (.tup [.v (.int .i64 0), .ifc], st)
    else none
  | _ => none
theorem keep_atoi : PKeep pAtoi := by
  intro xs st r st' h
  unfold pAtoi at h
  split at h
  · split at h
    · split at h <;> (cases h; rfl)
    · cases h
  · cases h
theorem below_bytes (w : World) (e : TypeId) (s : ByteArray) : Below w.heap.size w (Lib.bytesWorld w e s) :=
  ⟨rfl, rfl, rfl, by rw [Lib.bytesWorld_size]; omega, fun k hk => Lib.bytesWorld_at_old w e s k hk⟩
/-- A number and whether there is an error. -/
theorem calls_numErr {P : Program} {C : Ctx} {f : FuncId} {cargs : List Value} {n : Int} {a : AV} (ha : a = .v .nilIface ∨ a = .ifc) (hO : C.OK) (he : ∀ (args : Array Value) (w : World), (callFunc f args).run P w = .ok (.enter f args) w)
    (h : Calls P f cargs.toArray C.w fun e w' => ∃ x, e = .returned (.tuple #[.int .i64 n, x]) ∧ (a = .v .nilIface ∧ x = .nilIface ∨ a = .ifc ∧ ∃ t p, x = .iface t p) ∧ Below C.w.heap.size C.w w') : CallsF P f cargs C.w (Rets C (.tup [.v (.int .i64 n), a]) C.st) := by
  refine ⟨he, Calls.mono h ?_⟩
  rintro e w' ⟨x, rfl, hx, hb⟩
  refine ⟨C.at w', rfl, ext_below hO hb, ok_below hO hb, rfl, ?_⟩
  simp only [VR]
  refine ⟨_, rfl, ?_⟩
  show VRt _ _ [Value.int .i64 n, x]
  simp only [VRt]
  refine ⟨_, _, rfl, VR_v rfl, _, _, rfl, ?_, rfl⟩
  rcases hx with ⟨rfl, rfl⟩ | ⟨rfl, t, p, rfl⟩
  · exact VR_v rfl
  · simp only [VR]
    exact ⟨t, p, rfl⟩
theorem glob_ifc {C : Ctx} {G : Nat → Option (List AV)} (hg : GlobR C G) {g : Nat} (h : G g = some [.ifc]) : ∃ ev, C.w.cell? ⟨g, 0, none⟩ = some ev ∧ ∃ t p, ev = .iface t p := by
  have h1 := (hg g _ h).1
  obtain ⟨c, h2, h3, _⟩ := VRat_get h1 0 .ifc rfl
  simp only [VR] at h3
  obtain ⟨t, p, rfl⟩ := h3
  have h4 := h2.1
  rw [Nat.zero_add, add_plain, Nat.zero_add] at h4
  exact ⟨_, h4, t, p, rfl⟩
theorem ok_atoi {G : Nat → Option (List AV)} (h4 : G 4 = some [.ifc]) (h5 : G 5 = some [.ifc]) : POK Tryd.prog G 53 pAtoi := by
  intro xs C r st' cargs h hO hg hv
  unfold pAtoi at h
  split at h
  · rename_i s
    split at h
    · rename_i hb
      simp only [VRt] at hv
      obtain ⟨c, l, rfl, hc, rfl⟩ := hv
      have := VR_plain hc
      subst this
      cases hx : Lib.atoiAll s.data.toList with
      | ok v =>
        rw [hx] at h
        cases h
        refine calls_numErr (.inl rfl) hO Tryd.call53 ((Tryd.strconv_Atoi_ok s (by omega) v hx C.w).mono ?_)
        rintro e w' ⟨rfl, hw⟩
        refine ⟨_, rfl, .inl ⟨rfl, rfl⟩, ?_⟩
        rcases hw with rfl | ⟨t, rfl⟩
        · exact ⟨rfl, rfl, rfl, Nat.le_refl _, fun _ _ => rfl⟩
        · exact below_bytes _ _ _
      | range =>
        rw [hx] at h
        cases h
        obtain ⟨ev, k1, te, pe, k2⟩ := glob_ifc hg h5
        refine calls_numErr (.inr rfl) hO Tryd.call53 ((Tryd.strconv_Atoi_range s hb hx ev C.w k1 (.inr ⟨te, pe, k2⟩)).mono ?_)
        rintro e w' ⟨N, rfl, _, _, hw⟩
        exact ⟨_, rfl, .inr ⟨rfl, _, _, rfl⟩, hw⟩
      | _ =>
        rw [hx] at h
        cases h
        obtain ⟨ev, k1, te, pe, k2⟩ := glob_ifc hg h4
        refine calls_numErr (.inr rfl) hO Tryd.call53 ((Tryd.strconv_Atoi_none s hb (hx.trans rfl) ev C.w k1 (.inr ⟨te, pe, k2⟩)).mono ?_)
        rintro e w' ⟨N, rfl, _, _, hw⟩
        exact ⟨_, rfl, .inr ⟨rfl, _, _, rfl⟩, hw⟩
    · cases h
  · cases h
end Go.Proofs.YtampinmionpmhaaDoor.Ev
