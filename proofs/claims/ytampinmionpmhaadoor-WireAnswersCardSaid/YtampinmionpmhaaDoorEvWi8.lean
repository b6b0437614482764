/-
  Lines of commands and replies, in plain words: what is written is read as it was, and what is read has just that line.
-/
import Derived.Test.YtampinmionpmhaaDoorEvWi7
set_option linter.unusedVariables false
set_option linter.unusedSimpArgs false
namespace Go.Proofs.YtampinmionpmhaaDoor.Ev
theorem numK_itoa {n : Int} (h : fitI n = true) : numK (Lib.itoa n) = true ∧ numN (Lib.itoa n) = n := by
  have g := fit_of h
  have e := atoi_itoa g.1 g.2
  unfold numK numN
  rw [e]
  dsimp only
  rw [h, decide_eq_true rfl]
  exact ⟨rfl, rfl⟩
theorem numK_to {w : List UInt8} (h : numK w = true) : fitI (numN w) = true ∧ Lib.itoa (numN w) = w := by
  unfold numK at h
  unfold numN
  cases hx : Lib.atoiAll w with
  | ok v =>
    rw [hx] at h
    simpa using h
  | range => rw [hx] at h; cases h
  | _ => rw [hx] at h; cases h
theorem way_back (u : Bool) : decide (wayL u = wUndo) = u := by cases u <;> decide
theorem way_or (u : Bool) : (!decide (wayL u = wUndo) && !decide (wayL u = wDo)) = false := by cases u <;> decide
theorem good_or (u : Bool) : (!decide ((if u = true then wGood else wBad) = wGood) && !decide ((if u = true then wGood else wBad) = wBad)) = false := by cases u <;> decide
theorem good_back (u : Bool) : decide ((if u = true then wGood else wBad) = wGood) = u := by cases u <;> decide
theorem way_to {w : List UInt8} (h : (!decide (w = wUndo) && !decide (w = wDo)) = false) : wayL (decide (w = wUndo)) = w := by
  by_cases c : w = wUndo
  · rw [decide_eq_true c, c]; rfl
  · by_cases d : w = wDo
    · rw [decide_eq_false c, d]; rfl
    · rw [decide_eq_false c, decide_eq_false d] at h; cases h
theorem good_to {w : List UInt8} (h : (!decide (w = wGood) && !decide (w = wBad)) = false) : (if decide (w = wGood) = true then wGood else wBad) = w := by
  by_cases c : w = wGood
  · rw [decide_eq_true c, c]; rfl
  · by_cases d : w = wBad
    · rw [decide_eq_false c, d]; rfl
    · rw [decide_eq_false c, decide_eq_false d] at h; cases h
theorem lineC_pcs {c : CmdT} (h : goodC c = true) : pcs (lineC c) = [wSend, Lib.itoa c.saga, Lib.itoa c.step, wayL c.undo, Lib.itoa c.tr, c.party.data.toList, c.key.data.toList] := by
  obtain ⟨f1, f2, f3, f4, nm, f5⟩ := goodC_fit h
  have g1 := fit_of f1
  have g2 := fit_of f2
  have g3 := fit_of f3
  unfold lineC
  refine pcs_join _ (by simp) ?_
  intro p hp
  simp only [List.mem_cons, List.not_mem_nil, or_false] at hp
  rcases hp with rfl | rfl | rfl | rfl | rfl | rfl | rfl
  · decide
  · exact itoa_noB g1.1 g1.2
  · exact itoa_noB g2.1 g2.2
  · exact wayL_noB _
  · exact itoa_noB g3.1 g3.2
  · exact good_noB (by rw [ba_of]; exact f4)
  · exact cut_noB f5
theorem lineR_pcs {r : RepT} (h : goodR r = true) : pcs (lineR r) = [wReply, Lib.itoa r.saga, Lib.itoa r.step, wayL r.undo, Lib.itoa r.tr, if r.good = true then wGood else wBad] := by
  unfold goodR at h
  simp only [Bool.and_eq_true] at h
  obtain ⟨f1, f2, f3⟩ := h
  have g1 := fit_of f1
  have g2 := fit_of f2
  have g3 := fit_of f3
  unfold lineR
  refine pcs_join _ (by simp) ?_
  intro p hp
  simp only [List.mem_cons, List.not_mem_nil, or_false] at hp
  rcases hp with rfl | rfl | rfl | rfl | rfl | rfl
  · decide
  · exact itoa_noB g1.1 g1.2
  · exact itoa_noB g2.1 g2.2
  · exact wayL_noB _
  · exact itoa_noB g3.1 g3.2
  · cases r.good <;> decide
theorem cmd_back {c : CmdT} (h : goodC c = true) : badC (pcs (lineC c)) = false ∧ cmdW (pcs (lineC c)) = c := by
  rw [lineC_pcs h]
  obtain ⟨f1, f2, f3, f4, nm, f5⟩ := goodC_fit h
  have n1 := numK_itoa f1
  have n2 := numK_itoa f2
  have n3 := numK_itoa f3
  have e : cmdW [wSend, Lib.itoa c.saga, Lib.itoa c.step, wayL c.undo, Lib.itoa c.tr, c.party.data.toList, c.key.data.toList] = c := by
    show CmdT.mk (numN (Lib.itoa c.saga)) (numN (Lib.itoa c.step)) (decide (wayL c.undo = wUndo)) (numN (Lib.itoa c.tr)) (BA c.party.data.toList) (BA c.key.data.toList) = c
    rw [n1.2, n2.2, n3.2, way_back, ba_of, ba_of]
  refine ⟨?_, e⟩
  unfold badC
  rw [e, h]
  show (((((((!decide (wSend = wSend) || !decide (((7 : Nat) : Int) = ((7 : Nat) : Int))) || !numK (Lib.itoa c.saga)) || !numK (Lib.itoa c.step)) || (!decide (wayL c.undo = wUndo) && !decide (wayL c.undo = wDo))) || !numK (Lib.itoa c.tr))) || !true) = false
  rw [n1.1, n2.1, n3.1, way_or, decide_eq_true rfl, decide_eq_true rfl]
  rfl
theorem rep_back {r : RepT} (h : goodR r = true) : badR (pcs (lineR r)) = false ∧ repW (pcs (lineR r)) = r := by
  rw [lineR_pcs h]
  unfold goodR at h
  simp only [Bool.and_eq_true] at h
  obtain ⟨f1, f2, f3⟩ := h
  have n1 := numK_itoa f1
  have n2 := numK_itoa f2
  have n3 := numK_itoa f3
  refine ⟨?_, ?_⟩
  · show (((((((!decide (wReply = wReply) || !decide (((6 : Nat) : Int) = ((6 : Nat) : Int))) || !numK (Lib.itoa r.saga)) || !numK (Lib.itoa r.step)) || (!decide (wayL r.undo = wUndo) && !decide (wayL r.undo = wDo))) || !numK (Lib.itoa r.tr))) || (!decide ((if r.good = true then wGood else wBad) = wGood) && !decide ((if r.good = true then wGood else wBad) = wBad))) = false
    rw [n1.1, n2.1, n3.1, way_or, good_or, decide_eq_true rfl, decide_eq_true rfl]
    rfl
  · show RepT.mk (numN (Lib.itoa r.saga)) (numN (Lib.itoa r.step)) (decide (wayL r.undo = wUndo)) (numN (Lib.itoa r.tr)) (decide ((if r.good = true then wGood else wBad) = wGood)) = r
    rw [n1.2, n2.2, n3.2, way_back, good_back]
theorem badH_no {w : List UInt8} {n : Nat} {ws : List (List UInt8)} (h : badH w n ws = false) : ws.getD 0 [] = w ∧ ws.length = n ∧ numK (ws.getD 1 []) = true ∧ numK (ws.getD 2 []) = true ∧ (!decide (ws.getD 3 [] = wUndo) && !decide (ws.getD 3 [] = wDo)) = false ∧ numK (ws.getD 4 []) = true := by
  unfold badH at h
  simp only [Bool.or_eq_false_iff, Bool.not_eq_false'] at h
  obtain ⟨⟨⟨⟨⟨h1, h2⟩, h3⟩, h4⟩, h5⟩, h6⟩ := h
  refine ⟨of_decide_eq_true h1, ?_, h3, h4, h5, h6⟩
  have := of_decide_eq_true h2
  omega
theorem ws7 {ws : List (List UInt8)} (h : ws.length = 7) : ws = [ws.getD 0 [], ws.getD 1 [], ws.getD 2 [], ws.getD 3 [], ws.getD 4 [], ws.getD 5 [], ws.getD 6 []] := by
  match ws, h with
  | [a, b, c, d, e, f, g], _ => rfl
theorem ws6 {ws : List (List UInt8)} (h : ws.length = 6) : ws = [ws.getD 0 [], ws.getD 1 [], ws.getD 2 [], ws.getD 3 [], ws.getD 4 [], ws.getD 5 []] := by
  match ws, h with
  | [a, b, c, d, e, f], _ => rfl
theorem cmd_to {s : List UInt8} (h : badC (pcs s) = false) : goodC (cmdW (pcs s)) = true ∧ lineC (cmdW (pcs s)) = s := by
  unfold badC at h
  simp only [Bool.or_eq_false_iff, Bool.not_eq_false'] at h
  obtain ⟨h0, hg⟩ := h
  refine ⟨hg, ?_⟩
  obtain ⟨h1, h2, h3, h4, h5, h6⟩ := badH_no h0
  have e := join_pcs s
  rw [ws7 h2] at e
  show joinB [wSend, Lib.itoa (numN ((pcs s).getD 1 [])), Lib.itoa (numN ((pcs s).getD 2 [])), wayL (decide ((pcs s).getD 3 [] = wUndo)), Lib.itoa (numN ((pcs s).getD 4 [])), (BA ((pcs s).getD 5 [])).data.toList, (BA ((pcs s).getD 6 [])).data.toList] = s
  rw [(numK_to h3).2, (numK_to h4).2, (numK_to h6).2, way_to h5, ba_data, ba_data, ← h1]
  exact e
theorem rep_to {s : List UInt8} (h : badR (pcs s) = false) : goodR (repW (pcs s)) = true ∧ lineR (repW (pcs s)) = s := by
  unfold badR at h
  rw [Bool.or_eq_false_iff] at h
  obtain ⟨h0, h7⟩ := h
  obtain ⟨h1, h2, h3, h4, h5, h6⟩ := badH_no h0
  refine ⟨?_, ?_⟩
  · show (fitI (numN ((pcs s).getD 1 [])) && (fitI (numN ((pcs s).getD 2 [])) && fitI (numN ((pcs s).getD 4 [])))) = true
    rw [(numK_to h3).1, (numK_to h4).1, (numK_to h6).1]; rfl
  · have e := join_pcs s
    rw [ws6 h2] at e
    show joinB [wReply, Lib.itoa (numN ((pcs s).getD 1 [])), Lib.itoa (numN ((pcs s).getD 2 [])), wayL (decide ((pcs s).getD 3 [] = wUndo)), Lib.itoa (numN ((pcs s).getD 4 [])), if decide ((pcs s).getD 5 [] = wGood) = true then wGood else wBad] = s
    rw [(numK_to h3).2, (numK_to h4).2, (numK_to h6).2, way_to h5, good_to h7, ← h1]
    exact e
theorem cmd_noR {c : CmdT} (h : goodC c = true) : badR (pcs (lineC c)) = true := by
  cases hb : badR (pcs (lineC c))
  · unfold badR at hb
    rw [Bool.or_eq_false_iff] at hb
    have := (badH_no hb.1).2.1
    rw [lineC_pcs h] at this
    cases this
  · rfl
theorem rep_noC {r : RepT} (h : goodR r = true) : badC (pcs (lineR r)) = true := by
  cases hb : badC (pcs (lineR r))
  · unfold badC at hb
    rw [Bool.or_eq_false_iff] at hb
    have := (badH_no hb.1).2.1
    rw [lineR_pcs h] at this
    cases this
  · rfl
theorem lineC_len {c : CmdT} (h : goodC c = true) (hp : c.party.size ≤ 1000) (hk : c.key.size ≤ 1000) : (lineC c).length ≤ 3000 := by
  obtain ⟨f1, f2, f3, -⟩ := goodC_fit h
  have l1 := itoa_len (fit_of f1).1 (by have := (fit_of f1).2; omega)
  have l2 := itoa_len (fit_of f2).1 (by have := (fit_of f2).2; omega)
  have l3 := itoa_len (fit_of f3).1 (by have := (fit_of f3).2; omega)
  have l4 := way_len c.undo
  have hp' : c.party.data.toList.length ≤ 1000 := hp
  have hk' : c.key.data.toList.length ≤ 1000 := hk
  have l5 : wSend.length = 4 := rfl
  have e : lineC c = wSend ++ 32 :: (Lib.itoa c.saga ++ 32 :: (Lib.itoa c.step ++ 32 :: (wayL c.undo ++ 32 :: (Lib.itoa c.tr ++ 32 :: (c.party.data.toList ++ 32 :: c.key.data.toList))))) := rfl
  rw [e]
  simp only [List.length_append, List.length_cons]
  omega
theorem lineR_len {c : RepT} (h : goodR c = true) : (lineR c).length ≤ 3000 := by
  unfold goodR at h
  simp only [Bool.and_eq_true] at h
  obtain ⟨f1, f2, f3⟩ := h
  have l1 := itoa_len (fit_of f1).1 (by have := (fit_of f1).2; omega)
  have l2 := itoa_len (fit_of f2).1 (by have := (fit_of f2).2; omega)
  have l3 := itoa_len (fit_of f3).1 (by have := (fit_of f3).2; omega)
  have l4 := way_len c.undo
  have l5 : wReply.length = 5 := rfl
  have l6 : (if c.good = true then wGood else wBad).length ≤ 4 := by cases c.good <;> decide
  have e : lineR c = wReply ++ 32 :: (Lib.itoa c.saga ++ 32 :: (Lib.itoa c.step ++ 32 :: (wayL c.undo ++ 32 :: (Lib.itoa c.tr ++ 32 :: (if c.good = true then wGood else wBad))))) := rfl
  rw [e]
  simp only [List.length_append, List.length_cons]
  omega
end Go.Proofs.YtampinmionpmhaaDoor.Ev
