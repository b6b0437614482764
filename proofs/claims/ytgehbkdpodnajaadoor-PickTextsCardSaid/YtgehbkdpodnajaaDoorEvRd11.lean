/-
  Picks as texts: the document's Read.
-/
import Derived.Test.YtgehbkdpodnajaaDoorEvRd10
import Derived.Test.YtgehbkdpodnajaaDoorEvRd13
set_option linter.unusedVariables false
set_option linter.unusedSimpArgs false
namespace Go.Proofs.YtgehbkdpodnajaaDoor.Ev
attribute [local congr] bind_congr_head
attribute [local go_sem] opd_t opd_c opd_g opd_f opds_nil opds_cons get_cons put_some put_none keep_nil keepC_s keepC_n keep_cons runs_nil runs_cons run_op run_opr run_call run_gand run_gor run_gif seqK_norm seqK_exit seqK_ret blkK_norm blkK_exit blkK_ret runL_skip runL_exit runL_ret runL_items runL_seq runL_cond runL_block runL_loop fin_bind finK_norm finK_ret rvs_nil rvs_cons rv_tmp rv_cell tupOf_one tupOf_nil tupOf_two ev_mov ev_pick ev_alloc ev_box ev_build parts_nil parts_cons fills_nil fills_cons ev_bsl ev_bslo ev_load ev_store ev_nilck ev_bin ev_binb ev_aeq ev_un ev_i2i ev_i2t ev_s2b ev_ext ev_fld ev_idxs ev_fa ev_ias ev_len ev_lens ev_s2s ev_mkf ev_rng ev_nxt ev_app bOf_s pvOf_s agOf_s tpOf_s iOf_s sOf_s ite_bind Option.bind_some Option.bind_none if_true if_false ite_true ite_false argEnv_nil argEnv_cons len_av elems_av ias_av cells_av tuple_av AV.tuple AV.cells faF ldAt liveRef aggOf nilckF binV binI binS binB unV Bool.not_true Bool.not_false List.length_nil List.length_cons List.nil_append List.cons_append List.append_nil List.getElem?_cons_zero List.getElem?_cons_succ List.drop_zero List.drop_succ_cons List.drop_nil List.take_zero List.take_succ_cons List.take_nil List.set_cons_zero List.set_cons_succ compact_same compact_new closedB nodupB envIds ids0 upto visit pos sel AV.ids idss idsss Ob.ids AV.ren rens renss Ob.ren renEnv AV.snap snaps stAt okSt putCells List.all_nil List.all_cons List.contains_nil List.contains_cons Bool.and_true Bool.true_and Bool.and_false Bool.false_and Bool.or_true Bool.true_or Bool.or_false Bool.false_or decide_eq_true_eq decide_true decide_false beq_iff_eq bne_iff_ne beq_self_eq_true Bool.not_eq_true' Bool.false_eq_true eq_self and_self and_true true_and and_false false_and or_true true_or or_false false_or not_true_eq_false not_false_eq_true ne_eq Nat.zero_add Nat.add_zero Nat.le_refl Nat.not_lt_zero Nat.lt_irrefl Nat.zero_le Int.toNat_natCast gt_iff_lt ge_iff_le Int.lt_irrefl Int.natCast_nonneg txt_eq get_nil appF elems belows AV.under AV.flat flats List.length_map List.map_append List.map_cons List.map_nil List.length_append take_map_all List.flatten_cons List.flatten_nil bld_nil imp_false false_imp_iff false_implies true_implies implies_true decide_eq_false_iff_not Nat.one_mul Nat.mul_one idsss_app renss_app belowss_app ev_mn ev_mx ev_isnils ev_sls ev_slx evo_none evo_some vals minV maxV minF maxF backId List.getElem?_nil putAll Option.all_none Option.all_some Option.isSome_some intOf aszI compactV_same compactV_new callP_any callQ_eq callN_any boxQ AV.id? ids_avR ren_av under_av snap_av renss_mapf belowss_mapf idsss_mapf isnilsF List.length_eq_zero_iff int_beq int_bne decide_not slx_av Int.toNat_zero
theorem one_end {E : Prog} (hE : Std E fns) : callP E f_usufructref36_One [vs (BA [33])] = some (.tup [.agg t0.cells, vi 14]) := by
  have z1 : (BA [33] = ⟨#[]⟩) = False := by rw [ba_nil]; simp
  have z2 : byteAt (BA [33]) 0 = some 33 := rfl
  have z4 : (BA [33]).extract 1 (BA [33]).size = ⟨#[]⟩ := rfl
  have z5 : ((1 : Int) ≤ ((BA [33]).size : Int)) = True := by decide
  have z6 : ((0 : Int) ≤ ((BA [33]).size : Int)) = True := by decide
  rw [hE.run rfl rfl]
  simp only [go_sem, reduceIte, reduceCtorEq, Nat.reduceEqDiff, Nat.reduceAdd, Nat.reduceSub, Nat.reduceLT, Nat.reduceLeDiff, Nat.reduceBEq, Nat.reduceMul, Nat.reduceBNe, Int.reduceEq, Int.reduceLT, Int.reduceLE, Int.reduceNe, Int.reduceToNat, ir_usufructref36_One, z1, z2, z4, z5, z6, Int.le_refl, t0, TermT.cells]
theorem one_nil {E : Prog} (hE : Std E fns) : callP E f_usufructref36_One [vs (BA [])] = some (.tup [.agg (restS false []).1.cells, vi (restS false []).2]) := by
  have hsg := sgn_loop [] (by simp) false (loopL_eq (IR.runL E.glob (callL E) [] ir_usufructref36_One_L1) (compact [] 2 [0, 2, 4, 5])) [] 0 rfl (by simp)
  simp only [stOne, e0, Int.natCast_zero, Nat.zero_add, List.takeWhile_nil, List.length_nil] at hsg
  have hkd : callP E f_usufructref36_kind [vs ⟨#[]⟩] = some (vi 0) := fn_kind hE (BA [])
  have ex1 : (⟨#[]⟩ : ByteArray).extract 0 0 = ⟨#[]⟩ := rfl
  have hs0 : ((⟨#[]⟩ : ByteArray).size : Int) = 0 := rfl
  rw [hE.run rfl rfl]
  simp only [go_sem, reduceIte, reduceCtorEq, Nat.reduceEqDiff, Nat.reduceAdd, Nat.reduceSub, Nat.reduceLT, Nat.reduceLeDiff, Nat.reduceBEq, Nat.reduceMul, Nat.reduceBNe, Int.reduceEq, Int.reduceLT, Int.reduceLE, Int.reduceNe, Int.reduceToNat, ir_usufructref36_One, e0, hsg, hkd, ex1, hs0, Int.le_refl]
  rfl
theorem fn_one {E : Prog} (hE : Std E fns) (w : List UInt8) (hl : w.length < 1000000000) : callP E f_usufructref36_One [vs (BA w)] = some (.tup [.agg [vb (termS w).1.not, vs (termS w).1.field, vi (termS w).1.sign, vi (termS w).1.n, vs (termS w).1.s], vi (termS w).2]) := by
  cases w with
  | nil =>
    exact one_nil hE
  | cons x r =>
    by_cases hx : x = 33
    · subst hx
      by_cases hr : r = []
      · subst hr
        have h := one_end hE
        exact h
      · have h := one_yes hE r (by simp at hl; omega) hr
        have e : termS (33 :: r) = restS true r := by simp only [termS]; rw [if_neg hr]
        rw [e]
        exact h
    · have e : termS (x :: r) = restS false (x :: r) := by
        unfold termS
        split
        · rename_i r' q
          simp only [List.cons.injEq] at q
          exact absurd q.1 hx
        · rfl
      have h := one_no hE (x :: r) hl ⟨by rw [ba_nil]; simp, x, byteAt_ba (l := x :: r) (i := 0) (by simp), fun q => hx (UInt8.toNat_inj.1 (by show x.toNat = 33; omega))⟩
      rw [e]
      exact h
set_option maxHeartbeats 8000000 in
theorem rread_loop {E : Prog} (hE : Std E fns) {L : Env × Store → Option (Sig × Env × Store)} (s : List UInt8) (hs : s.length ≤ 1000000)
    (hL : ∀ e st, L (e, st) = (IR.runL E.glob (callL E) [] ir_usufructref36_Read_L0 e st).bind (seqK fun e st => L (compact [] 0 [0, 5, 6, 7, 8] e st))) :
    ∀ (rest : List UInt8) (i n : Nat) (cur : List UInt8) (acc : List TermT) (g : Nat), s.drop i = rest → i ≤ s.length → acc.length = n → n ≤ 32 → cur.length ≤ i →
    ((readP ((cur ++ (pcs rest).headD []) :: (pcs rest).tail) n acc).2.2 = 0 ∧ ∃ g', L ([(0, vs (BA s)), (5, (bld 5 TermT.cells g [] acc).1), (6, vs (BA cur)), (7, vi n), (8, vi i)], (bld 5 TermT.cells g [] acc).2) =
      some (.exit 0, [(5, (bld 5 TermT.cells g' [] (readP ((cur ++ (pcs rest).headD []) :: (pcs rest).tail) n acc).1).1)], (bld 5 TermT.cells g' [] (readP ((cur ++ (pcs rest).headD []) :: (pcs rest).tail) n acc).1).2)) ∨
    ((readP ((cur ++ (pcs rest).headD []) :: (pcs rest).tail) n acc).2.2 ≠ 0 ∧ (readP ((cur ++ (pcs rest).headD []) :: (pcs rest).tail) n acc).1 = [] ∧ ∃ st', L ([(0, vs (BA s)), (5, (bld 5 TermT.cells g [] acc).1), (6, vs (BA cur)), (7, vi n), (8, vi i)], (bld 5 TermT.cells g [] acc).2) =
      some (.ret, [(2, .v (.slice none 0 0)), (3, vi (readP ((cur ++ (pcs rest).headD []) :: (pcs rest).tail) n acc).2.1), (4, vi (readP ((cur ++ (pcs rest).headD []) :: (pcs rest).tail) n acc).2.2)], st')) := by
  -- a word's end
  have word : ∀ (ps : List (List UInt8)) (i n : Nat) (cur : List UInt8) (acc : List TermT) (g : Nat), i ≤ s.length → (i < s.length → s.getD i 0 = 32) → acc.length = n → n ≤ 32 → cur.length ≤ i →
      (∀ (acc' : List TermT) (g' : Nat), acc'.length = n + 1 → n + 1 ≤ 32 →
        ((readP ps (n + 1) acc').2.2 = 0 ∧ ∃ g'', L ([(0, vs (BA s)), (5, (bld 5 TermT.cells g' [] acc').1), (6, vs (BA [])), (7, vi ((n + 1 : Nat) : Int)), (8, vi ((i + 1 : Nat) : Int))], (bld 5 TermT.cells g' [] acc').2) =
          some (.exit 0, [(5, (bld 5 TermT.cells g'' [] (readP ps (n + 1) acc').1).1)], (bld 5 TermT.cells g'' [] (readP ps (n + 1) acc').1).2)) ∨
        ((readP ps (n + 1) acc').2.2 ≠ 0 ∧ (readP ps (n + 1) acc').1 = [] ∧ ∃ st', L ([(0, vs (BA s)), (5, (bld 5 TermT.cells g' [] acc').1), (6, vs (BA [])), (7, vi ((n + 1 : Nat) : Int)), (8, vi ((i + 1 : Nat) : Int))], (bld 5 TermT.cells g' [] acc').2) =
          some (.ret, [(2, .v (.slice none 0 0)), (3, vi (readP ps (n + 1) acc').2.1), (4, vi (readP ps (n + 1) acc').2.2)], st'))) →
      ((readP (cur :: ps) n acc).2.2 = 0 ∧ ∃ g', L ([(0, vs (BA s)), (5, (bld 5 TermT.cells g [] acc).1), (6, vs (BA cur)), (7, vi n), (8, vi i)], (bld 5 TermT.cells g [] acc).2) =
        some (.exit 0, [(5, (bld 5 TermT.cells g' [] (readP (cur :: ps) n acc).1).1)], (bld 5 TermT.cells g' [] (readP (cur :: ps) n acc).1).2)) ∨
      ((readP (cur :: ps) n acc).2.2 ≠ 0 ∧ (readP (cur :: ps) n acc).1 = [] ∧ ∃ st', L ([(0, vs (BA s)), (5, (bld 5 TermT.cells g [] acc).1), (6, vs (BA cur)), (7, vi n), (8, vi i)], (bld 5 TermT.cells g [] acc).2) =
        some (.ret, [(2, .v (.slice none 0 0)), (3, vi (readP (cur :: ps) n acc).2.1), (4, vi (readP (cur :: ps) n acc).2.2)], st')) := by
    intro ps i n cur acc g hi hc ha h32 hcl next
    have hle : ((i : Int) ≤ ((BA s).size : Int)) = True := by rw [ba_size]; exact eq_true (by omega)
    have ht := fn_one hE cur (by omega)
    have w1 := wrap_succ (i := i) (by omega)
    have w2 := wrap_succ (i := n) (by omega)
    have hbl : (i < s.length ∧ byteAt (BA s) (i : Int) = some 32) ∨ (¬ i < s.length ∧ True) := by
      by_cases h : i < s.length
      · refine .inl ⟨h, ?_⟩
        rw [byteAt_ba h, hc h]; rfl
      · exact .inr ⟨h, trivial⟩
    have hlt : ((i : Int) < ((BA s).size : Int)) = (i < s.length) := by rw [ba_size]; exact propext (by omega)
    by_cases c32 : n = 32
    · have e : readP (cur :: ps) n acc = ([], 32, 4) := by simp only [readP]; rw [if_pos c32]
      rw [e]
      refine .inr ⟨by decide, rfl, (bld 5 TermT.cells g [] acc).2, ?_⟩
      have c32' : ((n : Int) = 32) = True := eq_true (by omega)
      have hne : ¬ acc = [] := fun q => by rw [q] at ha; simp at ha; omega
      rw [hL]
      rcases hbl with ⟨hlt1, hb⟩ | ⟨hlt1, hb⟩ <;>
        (simp only [go_sem, reduceIte, reduceCtorEq, Nat.reduceEqDiff, Nat.reduceAdd, Nat.reduceSub, Nat.reduceLT, Nat.reduceLeDiff, Nat.reduceBEq, Nat.reduceMul, Nat.reduceBNe, Int.reduceEq, Int.reduceLT, Int.reduceLE, Int.reduceNe, Int.reduceToNat, ir_usufructref36_Read_L0, hle, hlt, hlt1, hb, c32', bld_ne hne, ro_term]; rfl)
    · have c32' : ((n : Int) = 32) = False := eq_false (by omega)
      by_cases h0 : (termS cur).2 = 0
      · have e : readP (cur :: ps) n acc = readP ps (n + 1) (acc ++ [(termS cur).1]) := by simp only [readP]; rw [if_neg c32, if_pos h0]
        rw [e]
        have hb5 : (acc.length + 1) * 56 ≤ 140737488355328 := by omega
        by_cases hne : acc = []
        · subst hne
          have ih := next [(termS cur).1] 0 (by simp at ha ⊢; omega) (by omega)
          rw [List.nil_append]
          have key : L ([(0, vs (BA s)), (5, (bld 5 TermT.cells g [] []).1), (6, vs (BA cur)), (7, vi n), (8, vi i)], (bld 5 TermT.cells g [] []).2) = L ([(0, vs (BA s)), (5, (bld 5 TermT.cells 0 [] [(termS cur).1]).1), (6, vs (BA [])), (7, vi ((n + 1 : Nat) : Int)), (8, vi ((i + 1 : Nat) : Int))], (bld 5 TermT.cells 0 [] [(termS cur).1]).2) := by
            rw [hL]
            rcases hbl with ⟨hlt1, hb⟩ | ⟨hlt1, hb⟩ <;>
              (simp only [go_sem, reduceIte, reduceCtorEq, Nat.reduceEqDiff, Nat.reduceAdd, Nat.reduceSub, Nat.reduceLT, Nat.reduceLeDiff, Nat.reduceBEq, Nat.reduceMul, Nat.reduceBNe, Int.reduceEq, Int.reduceLT, Int.reduceLE, Int.reduceNe, Int.reduceToNat, ir_usufructref36_Read_L0, hle, hlt, hlt1, hb, c32', ht, h0, w1, w2, TermT.cells, bld_ne (List.cons_ne_nil (termS cur).1 []), ro_term, e0])
          rw [key]
          exact ih
        · have ih := next (acc ++ [(termS cur).1]) (g + 1) (by simp; omega) (by omega)
          have key : L ([(0, vs (BA s)), (5, (bld 5 TermT.cells g [] acc).1), (6, vs (BA cur)), (7, vi n), (8, vi i)], (bld 5 TermT.cells g [] acc).2) = L ([(0, vs (BA s)), (5, (bld 5 TermT.cells (g + 1) [] (acc ++ [(termS cur).1])).1), (6, vs (BA [])), (7, vi ((n + 1 : Nat) : Int)), (8, vi ((i + 1 : Nat) : Int))], (bld 5 TermT.cells (g + 1) [] (acc ++ [(termS cur).1])).2) := by
            rw [hL]
            rcases hbl with ⟨hlt1, hb⟩ | ⟨hlt1, hb⟩ <;>
              (simp only [go_sem, reduceIte, reduceCtorEq, Nat.reduceEqDiff, Nat.reduceAdd, Nat.reduceSub, Nat.reduceLT, Nat.reduceLeDiff, Nat.reduceBEq, Nat.reduceMul, Nat.reduceBNe, Int.reduceEq, Int.reduceLT, Int.reduceLE, Int.reduceNe, Int.reduceToNat, ir_usufructref36_Read_L0, hle, hlt, hlt1, hb, hb5, c32', ht, h0, w1, w2, TermT.cells, bld_ne hne, bld_ne (ne_app acc (termS cur).1), ro_term, e0])
          rw [key]
          exact ih
      · have e : readP (cur :: ps) n acc = ([], n, (termS cur).2) := by simp only [readP]; rw [if_neg c32, if_neg h0]
        rw [e]
        refine .inr ⟨h0, rfl, ?_⟩
        by_cases hne : acc = []
        · subst hne
          refine ⟨[.box (termS cur).1.cells], ?_⟩
          rw [hL]
          rcases hbl with ⟨hlt1, hb⟩ | ⟨hlt1, hb⟩ <;>
            (simp only [go_sem, reduceIte, reduceCtorEq, Nat.reduceEqDiff, Nat.reduceAdd, Nat.reduceSub, Nat.reduceLT, Nat.reduceLeDiff, Nat.reduceBEq, Nat.reduceMul, Nat.reduceBNe, Int.reduceEq, Int.reduceLT, Int.reduceLE, Int.reduceNe, Int.reduceToNat, ir_usufructref36_Read_L0, hle, hlt, hlt1, hb, c32', ht, h0, TermT.cells, ro_term])
        · refine ⟨[.row 5 g (acc.map TermT.cells) false, .box (termS cur).1.cells], ?_⟩
          rw [hL]
          rcases hbl with ⟨hlt1, hb⟩ | ⟨hlt1, hb⟩ <;>
            (simp only [go_sem, reduceIte, reduceCtorEq, Nat.reduceEqDiff, Nat.reduceAdd, Nat.reduceSub, Nat.reduceLT, Nat.reduceLeDiff, Nat.reduceBEq, Nat.reduceMul, Nat.reduceBNe, Int.reduceEq, Int.reduceLT, Int.reduceLE, Int.reduceNe, Int.reduceToNat, ir_usufructref36_Read_L0, hle, hlt, hlt1, hb, c32', ht, h0, TermT.cells, bld_ne hne, ro_term])
  intro rest
  induction rest with
  | nil =>
    intro i n cur acc g h hi ha h32 hcl
    have h1 := drop_nil' h hi
    have e : ((cur ++ (pcs []).headD []) :: (pcs []).tail) = [cur] := by simp [pcs]
    rw [e]
    refine word [] i n cur acc g hi (fun q => by omega) ha h32 hcl ?_
    intro acc' g' ha' h32'
    refine .inl ⟨rfl, g', ?_⟩
    have hle : (((i + 1 : Nat) : Int) ≤ ((BA s).size : Int)) = False := by rw [ba_size]; exact eq_false (by omega)
    have hne : ¬ acc' = [] := fun q => by rw [q] at ha'; simp at ha'
    rw [hL]
    simp only [go_sem, reduceIte, reduceCtorEq, Nat.reduceEqDiff, Nat.reduceAdd, Nat.reduceSub, Nat.reduceLT, Nat.reduceLeDiff, Nat.reduceBEq, Nat.reduceMul, Nat.reduceBNe, Int.reduceEq, Int.reduceLT, Int.reduceLE, Int.reduceNe, Int.reduceToNat, ir_usufructref36_Read_L0, hle, bld_ne hne, ro_term, readP]
  | cons c rest ih =>
    intro i n cur acc g h hi ha h32 hcl
    obtain ⟨h1, h2, h3, h4, h5⟩ := drop_cons h
    have hx : s.getD i 0 = c := by rw [List.getD_eq_getElem?_getD, h1]; rfl
    have hne := pcs_ne rest
    by_cases c32 : c = 32
    · have e : ((cur ++ (pcs (c :: rest)).headD []) :: (pcs (c :: rest)).tail) = cur :: pcs rest := by
        rw [pcs, if_pos c32]; simp
      rw [e]
      refine word (pcs rest) i n cur acc g hi (fun q => by rw [hx, c32]) ha h32 hcl ?_
      intro acc' g' ha' h32'
      have e2 : (([] ++ (pcs rest).headD []) :: (pcs rest).tail) = pcs rest := by
        cases hp : pcs rest with
        | nil => exact absurd hp hne
        | cons a b => simp
      have := ih (i + 1) (n + 1) [] acc' g' h2 h4 ha' h32' (by simp)
      rw [e2] at this
      exact this
    · have e : ((cur ++ (pcs (c :: rest)).headD []) :: (pcs (c :: rest)).tail) = ((cur ++ [c]) ++ (pcs rest).headD []) :: (pcs rest).tail := by
        rw [pcs, if_neg c32]; simp
      rw [e]
      have key : L ([(0, vs (BA s)), (5, (bld 5 TermT.cells g [] acc).1), (6, vs (BA cur)), (7, vi n), (8, vi i)], (bld 5 TermT.cells g [] acc).2) = L ([(0, vs (BA s)), (5, (bld 5 TermT.cells g [] acc).1), (6, vs (BA (cur ++ [c]))), (7, vi n), (8, vi ((i + 1 : Nat) : Int))], (bld 5 TermT.cells g [] acc).2) := by
        have hle : ((i : Int) ≤ ((BA s).size : Int)) = True := by rw [ba_size]; exact eq_true (by omega)
        have hlt : ((i : Int) < ((BA s).size : Int)) = True := by rw [ba_size]; exact eq_true h3
        have hb := byteAt_ba (l := s) (i := i) (by omega)
        rw [hx] at hb
        have hq : ((c.toNat : Int) = 32) = False := eq_false fun q => c32 (UInt8.toNat_inj.1 (by show c.toNat = 32; omega))
        have w1 := wrap_succ (i := i) (by omega)
        have ex : (BA s).extract i (i + 1) = BA [c] := by
          rw [extract_ba, ba_inj, h, show i + 1 - i = 1 by omega]; rfl
        have s1 : ((0 : Int) ≤ ((i + 1 : Nat) : Int)) = True := eq_true (by omega)
        have s2 : (((i + 1 : Nat) : Int) ≤ ((BA s).size : Int)) = True := by rw [ba_size]; exact eq_true (by omega)
        have s3 : ((0 : Int) ≤ (i : Int)) = True := eq_true (by omega)
        have s4 : ((i : Int) ≤ ((i + 1 : Nat) : Int)) = True := eq_true (by omega)
        have q5 : ¬ (9223372036854775807 : Int) < (((BA cur).size + (BA [c]).size : Nat) : Int) := sz (by simp; omega)
        rw [hL]
        by_cases h0 : acc = []
        · subst h0
          simp only [go_sem, reduceIte, reduceCtorEq, Nat.reduceEqDiff, Nat.reduceAdd, Nat.reduceSub, Nat.reduceLT, Nat.reduceLeDiff, Nat.reduceBEq, Nat.reduceMul, Nat.reduceBNe, Int.reduceEq, Int.reduceLT, Int.reduceLE, Int.reduceNe, Int.reduceToNat, ir_usufructref36_Read_L0, hle, hlt, hb, hq, w1, ex, s1, s2, s3, s4, q5, ba_app, ro_term]
        · simp only [go_sem, reduceIte, reduceCtorEq, Nat.reduceEqDiff, Nat.reduceAdd, Nat.reduceSub, Nat.reduceLT, Nat.reduceLeDiff, Nat.reduceBEq, Nat.reduceMul, Nat.reduceBNe, Int.reduceEq, Int.reduceLT, Int.reduceLE, Int.reduceNe, Int.reduceToNat, ir_usufructref36_Read_L0, hle, hlt, hb, hq, w1, ex, s1, s2, s3, s4, q5, ba_app, bld_ne h0, ro_term]
      rw [key]
      exact ih (i + 1) n (cur ++ [c]) acc g h2 h4 ha h32 (by simp; omega)
set_option maxHeartbeats 8000000 in
theorem fn_refRead {E : Prog} (hE : Std E fns) (w : List UInt8) (hl : w.length ≤ 1000000) : callP E f_usufructref36_Read [vs (BA w)] = some (readR w) := by
  have hnil : (BA w = ⟨#[]⟩) = (w = []) := propext ba_nil
  have hn := rread_loop hE w hl (loopL_eq (IR.runL E.glob (callL E) [] ir_usufructref36_Read_L0) (compact [] 0 [0, 5, 6, 7, 8])) w 0 0 [] [] 0 rfl (by omega) rfl (by omega) (by simp)
  have e2 : (([] ++ (pcs w).headD []) :: (pcs w).tail) = pcs w := by
    cases hp : pcs w with
    | nil => exact absurd hp (pcs_ne w)
    | cons a b => simp
  rw [e2] at hn
  rw [hE.run rfl rfl]
  unfold readR readS
  by_cases hw : w = []
  · rw [if_pos hw]
    simp only [go_sem, reduceIte, reduceCtorEq, Nat.reduceEqDiff, Nat.reduceAdd, Nat.reduceSub, Nat.reduceLT, Nat.reduceLeDiff, Nat.reduceBEq, Nat.reduceMul, Nat.reduceBNe, Int.reduceEq, Int.reduceLT, Int.reduceLE, Int.reduceNe, Int.reduceToNat, ir_usufructref36_Read, hnil, hw, slOf, ro_term]
    rfl
  · rw [if_neg hw]
    have hz := readP_at (pcs w) 0 []
    generalize readP (pcs w) 0 [] = r at *
    obtain ⟨l, at_, e⟩ := r
    simp only [Int.natCast_zero, bld_nil, e0] at hn
    rcases hn with ⟨h0, g', h⟩ | ⟨h0, h1, st', h⟩
    · subst h0
      have hz' : at_ = 0 := hz rfl
      subst hz'
      by_cases hne : l = []
      · subst hne
        simp only [bld_nil] at h
        simp only [go_sem, reduceIte, reduceCtorEq, Nat.reduceEqDiff, Nat.reduceAdd, Nat.reduceSub, Nat.reduceLT, Nat.reduceLeDiff, Nat.reduceBEq, Nat.reduceMul, Nat.reduceBNe, Int.reduceEq, Int.reduceLT, Int.reduceLE, Int.reduceNe, Int.reduceToNat, ir_usufructref36_Read, hnil, hw, h, ro_term]
        rfl
      · simp only [bld_ne hne] at h
        simp only [go_sem, reduceIte, reduceCtorEq, Nat.reduceEqDiff, Nat.reduceAdd, Nat.reduceSub, Nat.reduceLT, Nat.reduceLeDiff, Nat.reduceBEq, Nat.reduceMul, Nat.reduceBNe, Int.reduceEq, Int.reduceLT, Int.reduceLE, Int.reduceNe, Int.reduceToNat, ir_usufructref36_Read, hnil, hw, h, ro_term]
        rw [slOf_ne hne]; rfl
    · subst h1
      simp only [go_sem, reduceIte, reduceCtorEq, Nat.reduceEqDiff, Nat.reduceAdd, Nat.reduceSub, Nat.reduceLT, Nat.reduceLeDiff, Nat.reduceBEq, Nat.reduceMul, Nat.reduceBNe, Int.reduceEq, Int.reduceLT, Int.reduceLE, Int.reduceNe, Int.reduceToNat, ir_usufructref36_Read, hnil, hw, h, ro_term]
      exact snapC rfl
end Go.Proofs.YtgehbkdpodnajaaDoor.Ev
