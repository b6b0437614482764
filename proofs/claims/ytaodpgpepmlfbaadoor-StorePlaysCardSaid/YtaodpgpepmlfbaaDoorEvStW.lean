/-
  (*Store).free walked: a loop over the map, in whatever order.
-/
import Derived.Test.YtaodpgpepmlfbaaDoorEvLib
import Derived.Maps.RangeRun
import Derived.Test.YtaodpgpepmlfbaaDoorProg
import Derived.Test.YtaodpgpepmlfbaaDoorShelf
import Derived.Tactics
import Derived.Tactics2
import Derived.StillTactics
import Derived.Laws.AppendOwn
import Derived.Laws.Runes
import Derived.Laws.CopyRow
import Derived.Laws.Shifts
import Derived.Laws.Rows
import Derived.Laws.BitsLemmas
import Derived.Laws.Tables
import Derived.Laws.NewBlocks
import Derived.Laws.Unary
import Derived.Laws.Strings
import Derived.Laws.NewFold
import Derived.Laws.ShiftsVarLaws
import Derived.Laws.Bits
import Derived.Laws.Alloc2
import Derived.Laws.Bits128
import Derived.Laws.Strings2
import Derived.Laws.Wrap64
import Derived.Laws.ShiftsVar
import Derived.Laws.Closers25
import Derived.Laws.RangeString
import Derived.Laws.Concat
import Derived.Laws.Cells
import Derived.Laws.NewDeep
import Derived.Laws.Pointers
import Derived.Laws.StructEq
import Derived.Laws.Closers25b
import Derived.Laws.StandIn
import Derived.Laws.Bits64b
import Derived.Laws.LoneSync
import Derived.Laws.ByValue
import Derived.Laws.MathBits
import Derived.Laws.Externs
import Derived.Laws.BitsAll
import Derived.Laws.BitsAllLaws
import Derived.Laws.Bits64
import Derived.Laws.OwnMore
import Derived.Laws.Build
import Derived.Laws.ResultCell
import Derived.Laws.Entries
import Derived.Laws.Append
import Derived.Laws.RangeAny
import Derived.Laws.World
import Derived.Laws.Strings3
import Derived.Laws.Sem
import Derived.Laws.Slices
import Derived.Laws.MakeOwn
import Derived.Laws.Small
import Derived.Laws.BytesString
import Derived.Scope
import Derived.FnLit
import Derived.LoopTactic
import Derived.LoopN
import Derived.Laws.IdiomRangeMap
set_option linter.unusedVariables false
set_option linter.unusedSimpArgs false
namespace Go.Proofs.YtaodpgpepmlfbaaDoor.EvStW
open Go.RowKit Go.Proofs Go.Proofs.YtaodpgpepmlfbaaDoor.Ev
open Go.ChangeMaps (setBlock)
/-- How long is a file? -/
def szV : Value → Nat
  | .agg cs => match cs[0]? with | some (Value.string s) => s.size | _ => 0
  | _ => 0
def seenS : List MapEntry → Array Nat → Nat
  | [], _ => 0
  | x :: l, seen => (if seen.contains x.born then szV x.val else 0) + seenS l seen
theorem seenS_other (seen : Array Nat) (b : Nat) : ∀ (es : List MapEntry), b ∉ es.map (·.born) → seenS es (seen.push b) = seenS es seen
  | [], _ => rfl
  | x :: l, h => by
    have hx : (x.born == b) = false := by
      cases hc : x.born == b with
      | false => rfl
      | true => exact absurd (List.mem_cons.2 (Or.inl (beq_iff_eq.1 hc).symm)) h
    have ih := seenS_other seen b l (fun e => h (List.mem_cons.2 (Or.inr e)))
    simp only [seenS, contains_push, hx, Bool.or_false, ih]
theorem seenS_push (seen : Array Nat) (e : MapEntry) (hs : seen.contains e.born = false) : ∀ (es : List MapEntry), (es.map (·.born)).Nodup → e ∈ es → seenS es (seen.push e.born) = seenS es seen + szV e.val
  | x :: l, hn, he => by
    have hn' : x.born ∉ l.map (·.born) ∧ (l.map (·.born)).Nodup := List.nodup_cons.1 hn
    rcases List.mem_cons.1 he with rfl | h
    · simp only [seenS, contains_push, hs, beq_self_eq_true, Bool.or_true, if_true, Bool.false_eq_true, if_false, seenS_other seen e.born l hn'.1]
      omega
    · have hx : (x.born == e.born) = false := by
        cases hc : x.born == e.born with
        | false => rfl
        | true => exact absurd (by rw [beq_iff_eq.1 hc]; exact List.mem_map.2 ⟨e, h, rfl⟩) hn'.1
      simp only [seenS, contains_push, hx, Bool.or_false, seenS_push seen e hs l hn'.2 h]
      omega
theorem seenS_none : ∀ (es : List MapEntry), seenS es #[] = 0
  | [] => rfl
  | x :: l => by
    have : (#[] : Array Nat).contains x.born = false := by simp
    simp only [seenS, this, Bool.false_eq_true, if_false, seenS_none l]
theorem seenS_le (seen : Array Nat) : ∀ (es : List MapEntry), seenS es seen ≤ (es.map fun e => szV e.val).sum
  | [] => Nat.le_refl _
  | x :: l => by
    have := seenS_le seen l
    simp only [seenS, List.map_cons, List.sum_cons]
    split <;> omega
theorem seenS_full (seen : Array Nat) : ∀ (es : List MapEntry), (∀ x ∈ es, seen.contains x.born = true) → seenS es seen = (es.map fun e => szV e.val).sum
  | [], _ => rfl
  | x :: l, h => by
    simp only [seenS, h x (List.mem_cons.2 (Or.inl rfl)), if_true, List.map_cons, List.sum_cons, seenS_full seen l (fun y hy => h y (List.mem_cons.2 (Or.inr hy)))]
theorem iterSeen_of {w : World} {r : Nat} {m : Option Nat} {s c : Nat} {seen : Array Nat} (h : w.heap[r]? = some (.mapIter m s seen c)) : w.iterSeen r = seen := by
  unfold World.iterSeen; rw [h]
set_option maxHeartbeats 4000000 in
set_option maxRecDepth 100000 in
theorem walk_free (b bm : Nat) (cap : Int) (es : Array MapEntry) (clock : Nat) (w : World) (hc : w.cell? ⟨b, 0, none⟩ = some (.int .i64 cap)) (hm : w.cell? ⟨b, 1, none⟩ = some (.map (some bm))) (hb : w.heap[bm]? = some (.map es clock))
    (hst : MapKept.Stamped es clock) (hv : ∀ x ∈ es.toList, ∃ s y z, x.val = .agg #[.string s, .int .i64 y, .bool z]) (h0 : 0 ≤ cap) (h1 : cap ≤ 4611686018427387904) (h2 : ((es.toList.map fun e => szV e.val).sum : Int) ≤ cap) :
    Calls Tryd.prog 24 #[.pointer (some ⟨b, 0, none⟩)] w fun e w' => e = .returned (.int .i64 (cap - ((es.toList.map fun e => szV e.val).sum : Nat))) ∧ Below w.heap.size w w' := by
  have hrg := run_range_map (P := Tryd.prog) w 54 9 58 bm es clock Tryd.underlying54 hb
  go_enter Tryd.func24, Tryd.ntmps24
  go_wp2
  go_loopw [3] (fun s w' => ∃ seen : Array Nat, w'.heap[w.heap.size]? = some (.mapIter (some bm) clock seen clock) ∧ w'.heap[bm]? = some (.map es clock) ∧ Below w.heap.size w w' ∧ s = .int .i64 (cap - (seenS es.toList seen : Nat))) (fun _ w' => (leftOf es (w'.iterSeen w.heap.size)).size)
  case atStart =>
    have hlt : bm < w.heap.size := heap_lt hb
    exact ⟨#[], heap_alloc_new w _, by rw [heap_alloc_old w _ hlt]; exact hb, below_alloc w _, by rw [seenS_none]; simp⟩
  case round =>
    obtain ⟨seen, hr, hb1, hbl, rfl⟩ := hrel
    have law := run_next_at (P := Tryd.prog) wr 0 w.heap.size bm clock clock seen es clock hr hb1 hst.1 (Nat.le_refl _)
    rcases law with ⟨h0, hrun⟩ | ⟨e, he, w2, hal, hrun⟩
    · have hnx : ∀ ty, (Instr.next (.pointer (some ⟨w.heap.size, 0, none⟩)) false ty).run Tryd.prog wr = _ := fun _ => hrun
      go_wp2
      go_ret
      exact ⟨by rw [seenS_full seen es.toList (all_seen es seen h0)]; rfl, hbl⟩
    · obtain ⟨st, y, z, hval⟩ := hv e (mem_left he).1
      have hne : bm ≠ w.heap.size := by have := heap_lt hb; omega
      obtain ⟨W2, hW2⟩ : ∃ W2, W2 = setBlock w2 w.heap.size (.mapIter (some bm) clock (seen.push e.born) clock) := ⟨_, rfl⟩
      rw [← hW2] at hrun
      have hrl : w.heap.size < wr.heap.size := heap_lt hr
      have hw2 : w2.heap = wr.heap := by rcases hal with rfl | rfl <;> rfl
      have hr2 : W2.heap[w.heap.size]? = some (.mapIter (some bm) clock (seen.push e.born) clock) := by
        rw [hW2]; simp [setBlock, hw2, hrl]
      have hb2 : W2.heap[bm]? = some (.map es clock) := by
        rw [hW2]; simp [setBlock, hw2, Ne.symm hne, hb1]
      have hbl2 : Below w.heap.size w W2 := by
        rw [hW2]
        have hsz : ∀ W : World, (W = wr ∨ W = wr.drew) → Below w.heap.size w (setBlock W w.heap.size (.mapIter (some bm) clock (seen.push e.born) clock)) := fun W hW => by
          refine ⟨?_, ?_, ?_, ?_, fun k hk => ?_⟩
          · rcases hW with rfl | rfl <;> exact hbl.os
          · rcases hW with rfl | rfl <;> exact hbl.tape
          · rcases hW with rfl | rfl <;> exact hbl.output
          · have : W.heap.size = wr.heap.size := by rcases hW with rfl | rfl <;> rfl
            simp only [setBlock, Array.size_setIfInBounds]; have := hbl.size; omega
          · have : W.heap = wr.heap := by rcases hW with rfl | rfl <;> rfl
            simp only [setBlock, this]
            rw [Array.getElem?_setIfInBounds_ne (by omega)]
            exact hbl.block k hk
        exact hsz w2 hal
      clear hW2
      have hen := run_entry_at (P := Tryd.prog) W2 w.heap.size bm clock seen es clock e hr2 hb2 (mem_left he).1 hst.2.1
      rw [hval] at hrun hen
      have hnx : ∀ ty, (Instr.next (.pointer (some ⟨w.heap.size, 0, none⟩)) false ty).run Tryd.prog wr = _ := fun _ => hrun
      go_wp2
      have hin := (mem_left he).1
      have hp := seenS_push seen e (mem_left he).2 es.toList hst.2.1 hin
      have hle := seenS_le (seen.push e.born) es.toList
      have hz : szV e.val = st.size := by rw [hval]; rfl
      rw [hz] at hp
      go_roundw
      case rel =>
        refine ⟨seen.push e.born, ?_, ?_, hbl2.trans ((below_alloc W2 _).mono hbl2.size), ?_⟩
        · rw [heap_alloc_old W2 _ (heap_lt hr2)]; exact hr2
        · rw [heap_alloc_old W2 _ (heap_lt hb2)]; exact hb2
        · have e2 : ∀ x : Int, 0 ≤ x → x ≤ 4611686018427387904 → wrap64 x = x := fun x q1 q2 => by
            simp only [wrap64]; omega
          congr 1
          first
          | (rw [e2 _ (by omega) (by omega)]; omega)
          | omega
      case measure =>
        have e1 : (W2.alloc (.cells #[.string st, .int .i64 y, .bool z] 58)).heap[w.heap.size]? = some (.mapIter (some bm) clock (seen.push e.born) clock) := by
          rw [heap_alloc_old W2 _ (heap_lt hr2)]; exact hr2
        rw [iterSeen_of e1, iterSeen_of hr]
        exact left_shrinks es seen e he
open Go.Maps Go.Sort Go.Shelf
set_option maxHeartbeats 4000000 in
set_option maxRecDepth 100000 in
theorem walk_names {H : Type} (b bm nn : Nat) (D0 : DataW H) (R : Value → Option (DataW H × List MemPlace)) (w : World) (hm : w.cell? ⟨b, 1, none⟩ = some (.map (some bm))) (hown : w.ownsMap Tryd.prog 9 R bm nn D0) (hmax : Maps.size D0 ≤ maxLen) (hbytes : Maps.size D0 * 16 ≤ 140737488355328) :
    Calls Tryd.prog 27 #[.pointer (some ⟨b, 0, none⟩)] w fun e w' => ∃ (v : Value) (ss : List (List UInt8)), e = .returned v ∧ ss.Perm (strKeys D0) ∧
      w'.ownsRow w.heap.size 9 1 v ss.length ((ss.mergeSort (fun x y => decide (x ≤ y))).map encStr) ∧ (v = .slice none 0 0 ↔ ss = []) ∧ Below w.heap.size w w' := by
  have sorts : ∀ m, AnyZ.SortsIn Tryd.prog Tryd.laysSorted_ren Fence.wide m := fun m =>
    ⟨fun blk off cap ss W hH hblk hsz => callsIn_wide.2 (AnyM.slices_Sort_string Tryd.laysSort blk off cap ss W hH hblk hsz),
     fun p cap W => callsIn_wide.2 (AnyM.slices_Sort_string_none Tryd.laysSort p cap W)⟩
  have hbl := hown.lt
  have keys : CallsIn Fence.wide 5 Tryd.prog 44 #[.map (some bm)] w fun e w' => e = .returned (.func (.func 48) #[] #[.pointer (some ⟨w.heap.size, 0, none⟩)]) ∧ w' = w.alloc (.cells #[.map (some bm)] 54) :=
    AnyZ.keys_in Tryd.laysKeys Fence.wide 5 trivial rfl (some bm) w
  have sorted : CallsIn Fence.wide 5 Tryd.prog 43 #[.func (.func 48) #[] #[.pointer (some ⟨w.heap.size, 0, none⟩)]] (w.alloc (.cells #[.map (some bm)] 54)) fun e w' => ∃ (v : Value) (ss : List (List UInt8)), e = .returned v ∧ ss.Perm (strKeys D0) ∧
      w'.ownsRow (w.alloc (.cells #[.map (some bm)] 54)).heap.size 9 1 v ss.length ((ss.mergeSort (fun x y => decide (x ≤ y))).map encStr) ∧ (v = .slice none 0 0 ↔ ss = []) ∧ Below (w.alloc (.cells #[.map (some bm)] 54)).heap.size (w.alloc (.cells #[.map (some bm)] 54)) w' := by
    have hseq : SeqGives Fence.wide 2 Tryd.prog 48 #[.pointer (some ⟨w.heap.size, 0, none⟩)] encStr (fun ss => ss.Perm (strKeys D0)) (Maps.size D0) (w.alloc (.cells #[.map (some bm)] 54)) :=
      AnyZ.keys_gives (ρ := Tryd.laysKeys_ren) { Tryd.laysKeys with } Fence.wide _ trivial rfl (by omega) w.heap.size bm nn D0 _ (by simp) (by simp) (by
        obtain ⟨es, clock, hb, Ft, hs, hD⟩ := hown
        exact ⟨es, clock, (Below.heap_alloc _ _ bm hbl).trans hb, Ft, hs, hD⟩)
    exact AnyZ.sorted_in Tryd.laysSorted Fence.wide 5 trivial trivial trivial trivial rfl (by omega) (sorts _) (enters_of Tryd.func47 (by kernel_rfl) rfl) 48 #[.pointer (some ⟨w.heap.size, 0, none⟩)] trivial (enters_of Tryd.func48 (by kernel_rfl) rfl) _ _ hmax hbytes _ hseq
  refine (callsIn_wide (n := 6)).1 ?_
  have hfK : Fence.wide.fn 44 := trivial
  have hfS : Fence.wide.fn 43 := trivial
  refine callsIn_of_wp Tryd.func27 rfl trivial ?_ rfl
  simp only [Tryd.ntmps27, List.size_toArray, List.length_cons, List.length_nil, Nat.reduceAdd, Nat.reduceSub, Array.replicate_succ, Array.replicate_zero, List.push_toArray, List.append_toArray, List.nil_append, List.cons_append]
  gi_wp2_with (first
    | (gi_at_call 44; refine keys.mono ?_; rintro e w' ⟨rfl, rfl⟩)
    | (gi_at_call 43; refine sorted.mono ?_; rintro e w' ⟨v, ss, rfl, hS, hrow, hnil, hb⟩))
  go_ret
  exact ⟨v, ss, rfl, hS, ownsRow_base_a hrow (by simp), hnil, ((Below.refl _ w).alloc (Nat.le_refl _) _).trans (hb.mono (by simp))⟩
end Go.Proofs.YtaodpgpepmlfbaaDoor.EvStW
