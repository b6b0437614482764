/-
  A world: the switch of WorldPlays.
-/
import Derived.Test.YtbpndomfipdhdaaDoorEvWo24
set_option linter.unusedVariables false
set_option linter.unusedSimpArgs false
namespace Go.Proofs.YtbpndomfipdhdaaDoor.Ev
attribute [local congr] bind_congr_head
attribute [local go_sem] opd_t opd_c opd_g opd_f opds_nil opds_cons get_cons put_some put_none keep_nil keepC_s keepC_n keep_cons runs_nil runs_cons run_op run_opr run_call run_gand run_gor run_gif seqK_norm seqK_exit seqK_ret blkK_norm blkK_exit blkK_ret runL_skip runL_exit runL_ret runL_items runL_seq runL_cond runL_block runL_loop fin_bind finK_norm finK_ret rvs_nil rvs_cons rv_tmp rv_cell tupOf_one tupOf_nil tupOf_two ev_mov ev_pick ev_alloc ev_box ev_build parts_nil parts_cons fills_nil fills_cons ev_bsl ev_bslo ev_load ev_store ev_nilck ev_bin ev_binb ev_aeq ev_un ev_i2i ev_i2t ev_isnilI nilIF ev_s2b ev_ext ev_fld ev_idxs ev_fa ev_ias ev_len ev_lens ev_s2s ev_mkf ev_rng ev_nxt ev_app bOf_s pvOf_s agOf_s tpOf_s iOf_s sOf_s ite_bind Option.bind_some Option.bind_none if_true if_false ite_true ite_false argEnv_nil argEnv_cons len_av elems_av ias_av cells_av tuple_av AV.tuple AV.cells faF ldAt liveRef aggOf nilckF binV binI binS binB unV Bool.not_true Bool.not_false List.length_nil List.length_cons List.nil_append List.cons_append List.append_nil List.getElem?_cons_zero List.getElem?_cons_succ List.drop_zero List.drop_succ_cons List.drop_nil List.take_zero List.take_succ_cons List.take_nil List.set_cons_zero List.set_cons_succ compact_same compact_new closedB nodupB envIds ids0 upto visit pos sel AV.ids idss idsss Ob.ids AV.ren rens renss Ob.ren renEnv AV.snap snaps stAt okSt putCells List.all_nil List.all_cons List.contains_nil List.contains_cons Bool.and_true Bool.true_and Bool.and_false Bool.false_and Bool.or_true Bool.true_or Bool.or_false Bool.false_or decide_eq_true_eq decide_true decide_false beq_iff_eq bne_iff_ne beq_self_eq_true Bool.not_eq_true' Bool.false_eq_true eq_self and_self and_true true_and and_false false_and or_true true_or or_false false_or not_true_eq_false not_false_eq_true ne_eq Nat.zero_add Nat.add_zero Nat.le_refl Nat.not_lt_zero Nat.lt_irrefl Nat.zero_le Int.toNat_natCast gt_iff_lt ge_iff_le Int.lt_irrefl Int.natCast_nonneg txt_eq get_nil appF elems belows AV.under AV.flat flats List.length_map List.map_append List.map_cons List.map_nil List.length_append take_map_all List.flatten_cons List.flatten_nil bld_nil imp_false false_imp_iff false_implies true_implies implies_true decide_eq_false_iff_not Nat.one_mul Nat.mul_one idsss_app renss_app belowss_app ev_mn ev_mx ev_isnils ev_sls ev_slx evo_none evo_some vals minV maxV minF maxF backId List.getElem?_nil putAll Option.all_none Option.all_some Option.isSome_some intOf aszI compactV_same compactV_new callP_any callQ_eq callN_any boxQ AV.id? ids_avR ren_av under_av snap_av renss_mapf belowss_mapf idsss_mapf isnilsF List.length_eq_zero_iff int_beq int_bne decide_not slx_av Int.toNat_zero ev_mkm ev_lk ev_mup ev_mdl ev_lenm ev_isnilm mpOf_s mapAt_s mapOf_nil mapOf_mp isnilm_nil isnilm_mp lkR Option.getD_some Option.getD_none Option.isSome_none Prim.rdo ev_snp snp_own snp_v exQ_nil exQ_cons exA_ref same_nil same_box same_row same_map sameL_nil sameL_cons sameA_int sameA_bool sameA_str sameA_slice sameA_map sameA_ptr sameA_own sameA_ref sameA_mp callB_eq
variable {E : Prog}
theorem j00 : ((0 : Int) = 0) = True := by simp
theorem j01 : ((0 : Int) = 1) = False := by simp
theorem j02 : ((0 : Int) = 2) = False := by simp
theorem j03 : ((0 : Int) = 3) = False := by simp
theorem j04 : ((0 : Int) = 4) = False := by simp
theorem j05 : ((0 : Int) = 5) = False := by simp
theorem j06 : ((0 : Int) = 6) = False := by simp
theorem j07 : ((0 : Int) = 7) = False := by simp
theorem j10 : ((1 : Int) = 0) = False := by simp
theorem j11 : ((1 : Int) = 1) = True := by simp
theorem j12 : ((1 : Int) = 2) = False := by simp
theorem j13 : ((1 : Int) = 3) = False := by simp
theorem j14 : ((1 : Int) = 4) = False := by simp
theorem j15 : ((1 : Int) = 5) = False := by simp
theorem j16 : ((1 : Int) = 6) = False := by simp
theorem j17 : ((1 : Int) = 7) = False := by simp
theorem j20 : ((2 : Int) = 0) = False := by simp
theorem j21 : ((2 : Int) = 1) = False := by simp
theorem j22 : ((2 : Int) = 2) = True := by simp
theorem j23 : ((2 : Int) = 3) = False := by simp
theorem j24 : ((2 : Int) = 4) = False := by simp
theorem j25 : ((2 : Int) = 5) = False := by simp
theorem j26 : ((2 : Int) = 6) = False := by simp
theorem j27 : ((2 : Int) = 7) = False := by simp
theorem j30 : ((3 : Int) = 0) = False := by simp
theorem j31 : ((3 : Int) = 1) = False := by simp
theorem j32 : ((3 : Int) = 2) = False := by simp
theorem j33 : ((3 : Int) = 3) = True := by simp
theorem j34 : ((3 : Int) = 4) = False := by simp
theorem j35 : ((3 : Int) = 5) = False := by simp
theorem j36 : ((3 : Int) = 6) = False := by simp
theorem j37 : ((3 : Int) = 7) = False := by simp
theorem j40 : ((4 : Int) = 0) = False := by simp
theorem j41 : ((4 : Int) = 1) = False := by simp
theorem j42 : ((4 : Int) = 2) = False := by simp
theorem j43 : ((4 : Int) = 3) = False := by simp
theorem j44 : ((4 : Int) = 4) = True := by simp
theorem j45 : ((4 : Int) = 5) = False := by simp
theorem j46 : ((4 : Int) = 6) = False := by simp
theorem j47 : ((4 : Int) = 7) = False := by simp
theorem j50 : ((5 : Int) = 0) = False := by simp
theorem j51 : ((5 : Int) = 1) = False := by simp
theorem j52 : ((5 : Int) = 2) = False := by simp
theorem j53 : ((5 : Int) = 3) = False := by simp
theorem j54 : ((5 : Int) = 4) = False := by simp
theorem j55 : ((5 : Int) = 5) = True := by simp
theorem j56 : ((5 : Int) = 6) = False := by simp
theorem j57 : ((5 : Int) = 7) = False := by simp
theorem j60 : ((6 : Int) = 0) = False := by simp
theorem j61 : ((6 : Int) = 1) = False := by simp
theorem j62 : ((6 : Int) = 2) = False := by simp
theorem j63 : ((6 : Int) = 3) = False := by simp
theorem j64 : ((6 : Int) = 4) = False := by simp
theorem j65 : ((6 : Int) = 5) = False := by simp
theorem j66 : ((6 : Int) = 6) = True := by simp
theorem j67 : ((6 : Int) = 7) = False := by simp
theorem j70 : ((7 : Int) = 0) = False := by simp
theorem j71 : ((7 : Int) = 1) = False := by simp
theorem j72 : ((7 : Int) = 2) = False := by simp
theorem j73 : ((7 : Int) = 3) = False := by simp
theorem j74 : ((7 : Int) = 4) = False := by simp
theorem j75 : ((7 : Int) = 5) = False := by simp
theorem j76 : ((7 : Int) = 6) = False := by simp
theorem j77 : ((7 : Int) = 7) = True := by simp
/-- Both worlds. -/
def pst : Wd → Ob → Store
  | .w0, x => [.box [.v (.slice none 0 0), .v (.slice none 0 0), .v (.map none), .v (.slice none 0 0)], x]
  | .w1 g c, x => [.box [.own 2 g 0 c.length, .v (.slice none 0 0), .v (.map none), .v (.slice none 0 0)], x, rowC g c]
  | .w2 g h c r, x => [.box [.own 2 g 0 c.length, .own 3 h 0 r.length, .v (.map none), .v (.slice none 0 0)], x, rowC g c, rowR h r]
  | .w3 g h j c r k, x => [.box [.own 2 g 0 c.length, .own 3 h 0 r.length, .mp 4, .own 5 j 0 k.length], x, rowC g c, rowR h r, .map (kmap k 0), rowK j k]
  | .wm _ _ _ _, x => []
theorem pst0 (x : Ob) : pst .w0 x = [.box [.v (.slice none 0 0), .v (.slice none 0 0), .v (.map none), .v (.slice none 0 0)], x] := rfl
theorem pst1 (g : Nat) (c : List CmdT) (x : Ob) : pst (.w1 g c) x = [.box [.own 2 g 0 c.length, .v (.slice none 0 0), .v (.map none), .v (.slice none 0 0)], x, rowC g c] := rfl
theorem pst2 (g h : Nat) (c : List CmdT) (r : List RepT) (x : Ob) : pst (.w2 g h c r) x = [.box [.own 2 g 0 c.length, .own 3 h 0 r.length, .v (.map none), .v (.slice none 0 0)], x, rowC g c, rowR h r] := rfl
theorem pst3 (g h j : Nat) (c : List CmdT) (r : List RepT) (k : List ByteArray) (x : Ob) : pst (.w3 g h j c r k) x = [.box [.own 2 g 0 c.length, .own 3 h 0 r.length, .mp 4, .own 5 j 0 k.length], x, rowC g c, rowR h r, .map (kmap k 0), rowK j k] := rfl
/-- Both worlds behind a call, and what lay beside them. -/
def mrgP (w w' : Wd) (x b : Ob) : Store := match w, w' with
  | .w0, .w1 g c => [.box [.own 3 g 0 c.length, .v (.slice none 0 0), .v (.map none), .v (.slice none 0 0)], x, b, rowC g c]
  | .w1 _ _, .w2 g h c r => [.box [.own 2 g 0 c.length, .own 4 h 0 r.length, .v (.map none), .v (.slice none 0 0)], x, rowC g c, b, rowR h r]
  | .w1 _ _, .w3 g h j c r k => [.box [.own 2 g 0 c.length, .own 4 h 0 r.length, .mp 5, .own 6 j 0 k.length], x, rowC g c, b, rowR h r, .map (kmap k 0), rowK j k]
  | .w2 _ _ _ _, .w3 g h j c r k => [.box [.own 2 g 0 c.length, .own 3 h 0 r.length, .mp 5, .own 6 j 0 k.length], x, rowC g c, rowR h r, b, .map (kmap k 0), rowK j k]
  | _, w' => pst w' x ++ [b]
theorem mp00 (x b : Ob) : mrgP .w0 .w0 x b = pst .w0 x ++ [b] := rfl
theorem mp01 (g : Nat) (c : List CmdT) (x b : Ob) : mrgP .w0 (.w1 g c) x b = [.box [.own 3 g 0 c.length, .v (.slice none 0 0), .v (.map none), .v (.slice none 0 0)], x, b, rowC g c] := rfl
theorem mp11 (g0 : Nat) (c0 : List CmdT) (g : Nat) (c : List CmdT) (x b : Ob) : mrgP (.w1 g0 c0) (.w1 g c) x b = pst (.w1 g c) x ++ [b] := rfl
theorem mp12 (g0 : Nat) (c0 : List CmdT) (g h : Nat) (c : List CmdT) (r : List RepT) (x b : Ob) : mrgP (.w1 g0 c0) (.w2 g h c r) x b = [.box [.own 2 g 0 c.length, .own 4 h 0 r.length, .v (.map none), .v (.slice none 0 0)], x, rowC g c, b, rowR h r] := rfl
theorem mp13 (g0 : Nat) (c0 : List CmdT) (g h j : Nat) (c : List CmdT) (r : List RepT) (k : List ByteArray) (x b : Ob) : mrgP (.w1 g0 c0) (.w3 g h j c r k) x b = [.box [.own 2 g 0 c.length, .own 4 h 0 r.length, .mp 5, .own 6 j 0 k.length], x, rowC g c, b, rowR h r, .map (kmap k 0), rowK j k] := rfl
theorem mp22 (g0 h0 : Nat) (c0 : List CmdT) (r0 : List RepT) (g h : Nat) (c : List CmdT) (r : List RepT) (x b : Ob) : mrgP (.w2 g0 h0 c0 r0) (.w2 g h c r) x b = pst (.w2 g h c r) x ++ [b] := rfl
theorem mp23 (g0 h0 : Nat) (c0 : List CmdT) (r0 : List RepT) (g h j : Nat) (c : List CmdT) (r : List RepT) (k : List ByteArray) (x b : Ob) : mrgP (.w2 g0 h0 c0 r0) (.w3 g h j c r k) x b = [.box [.own 2 g 0 c.length, .own 3 h 0 r.length, .mp 5, .own 6 j 0 k.length], x, rowC g c, rowR h r, b, .map (kmap k 0), rowK j k] := rfl
theorem mp33 (g0 h0 j0 : Nat) (c0 : List CmdT) (r0 : List RepT) (k0 : List ByteArray) (g h j : Nat) (c : List CmdT) (r : List RepT) (k : List ByteArray) (x b : Ob) : mrgP (.w3 g0 h0 j0 c0 r0 k0) (.w3 g h j c r k) x b = pst (.w3 g h j c r k) x ++ [b] := rfl
abbrev playsE (l : Sl ActT) (i : Nat) (sg : Int) (stp : ByteArray) (e : Int) (ok : Bool) : Env := [(0, acv l), (1, vi sg), (2, vs stp), (7, .ref 0 0 0 0), (8, .ref 1 0 0 0), (9, vi i), (11, vi e), (12, vb ok)]
abbrev plays42 (l : Sl ActT) (i : Nat) (sg : Int) (stp : ByteArray) (a : ActT) (id : Nat) : Env := [(42, vi a.k), (41, .ref id 0 0 0), (12, vb true), (11, vi 0), (10, .ref id 0 0 0), (40, .agg [vi a.k, vi a.n, cmv a.l, vb a.good, vb a.more]), (39, .rop [vi a.k, vi a.n, cmv a.l, vb a.good, vb a.more]), (38, vi i), (37, acv l), (34, vb true), (33, vi l.list.length), (32, acv l), (31, vi i), (0, acv l), (1, vi sg), (2, vs stp), (7, .ref 0 0 0 0), (8, .ref 1 0 0 0), (9, vi i)]
set_option maxHeartbeats 2000000 in
theorem plays_send (l : Sl ActT) (i : Nat) (sg : Int) (stp : ByteArray) (a : ActT) {w w' : Wd} (hn : Nx w w') (xc yc : Sl CmdT) (xr yr : Sl RepT) (xk yk : Sl ByteArray) (hc : callL E f_world_World_Send [.ref 0 0 0 0, cmv a.l] [] w.sto = some (.tup [], w'.sto)) (hr : callP E f_usufructref21_Send [.agg [xc.av 6 CmdT.cells, xr.av 5 RepT.cells, xk.av 1 nmC], cmv a.l] = some (.agg [yc.av 6 CmdT.cells, yr.av 5 RepT.cells, yk.av 1 nmC])) (hk : a.k = 0 ∨ a.k = 1) :
    IR.runL E.glob (callL E) [] ir_usufructlaw21_WorldPlays_B2 (plays42 l i sg stp a (pst w (.box [xc.av 6 CmdT.cells, xr.av 5 RepT.cells, xk.av 1 nmC])).length) (pst w (.box [xc.av 6 CmdT.cells, xr.av 5 RepT.cells, xk.av 1 nmC]) ++ [.box [vi a.k, vi a.n, cmv a.l, vb a.good, vb a.more]]) = some (.norm, playsE l i sg stp 0 true, mrgP w w' (.box [yc.av 6 CmdT.cells, yr.av 5 RepT.cells, yk.av 1 nmC]) (.box [vi a.k, vi a.n, cmv a.l, vb a.good, vb a.more])) := by
  rcases hk with hk | hk
  · cases w with
    | w0 =>
      rcases hn with rfl | ⟨g', c', rfl⟩
      · simp only [sto0, sto1, sto2, sto3, stom, rowC, rowR, rowK, List.cons_append, List.nil_append, List.append_nil, List.length_cons, List.length_nil, Nat.zero_add, Nat.reduceAdd, mp00, mp01, mp11, mp12, mp13, mp22, mp23, mp33, pst0, pst1, pst2, pst3, RepT.cells, plays42, hk] at hc hr ⊢
        simp -implicitDefEqProofs only [go_sem, reduceIte, reduceCtorEq, Nat.reduceEqDiff, Nat.reduceAdd, Nat.reduceSub, Nat.reduceLT, Nat.reduceLeDiff, Nat.reduceBEq, Nat.reduceMul, Nat.reduceBNe, Int.reduceEq, Int.reduceLT, Int.reduceLE, Int.reduceNe, Int.reduceToNat, ir_usufructlaw21_WorldPlays_B2, playsE, hc, hr, kmap_ids, kmap_ren, ro_cmd, ro_rep, ro_nm, ro_act, j00, j01, j02, j03, j04, j05, j06, j07]
      · simp only [sto0, sto1, sto2, sto3, stom, rowC, rowR, rowK, List.cons_append, List.nil_append, List.append_nil, List.length_cons, List.length_nil, Nat.zero_add, Nat.reduceAdd, mp00, mp01, mp11, mp12, mp13, mp22, mp23, mp33, pst0, pst1, pst2, pst3, RepT.cells, plays42, hk] at hc hr ⊢
        simp -implicitDefEqProofs only [go_sem, reduceIte, reduceCtorEq, Nat.reduceEqDiff, Nat.reduceAdd, Nat.reduceSub, Nat.reduceLT, Nat.reduceLeDiff, Nat.reduceBEq, Nat.reduceMul, Nat.reduceBNe, Int.reduceEq, Int.reduceLT, Int.reduceLE, Int.reduceNe, Int.reduceToNat, ir_usufructlaw21_WorldPlays_B2, playsE, hc, hr, kmap_ids, kmap_ren, ro_cmd, ro_rep, ro_nm, ro_act, j00, j01, j02, j03, j04, j05, j06, j07]
    | w1 gc c =>
      rcases hn with ⟨g', c', rfl⟩ | ⟨g', h', c', r', rfl⟩ | ⟨g', h', j', c', r', k', rfl⟩
      · simp only [sto0, sto1, sto2, sto3, stom, rowC, rowR, rowK, List.cons_append, List.nil_append, List.append_nil, List.length_cons, List.length_nil, Nat.zero_add, Nat.reduceAdd, mp00, mp01, mp11, mp12, mp13, mp22, mp23, mp33, pst0, pst1, pst2, pst3, RepT.cells, plays42, hk] at hc hr ⊢
        simp -implicitDefEqProofs only [go_sem, reduceIte, reduceCtorEq, Nat.reduceEqDiff, Nat.reduceAdd, Nat.reduceSub, Nat.reduceLT, Nat.reduceLeDiff, Nat.reduceBEq, Nat.reduceMul, Nat.reduceBNe, Int.reduceEq, Int.reduceLT, Int.reduceLE, Int.reduceNe, Int.reduceToNat, ir_usufructlaw21_WorldPlays_B2, playsE, hc, hr, kmap_ids, kmap_ren, ro_cmd, ro_rep, ro_nm, ro_act, j00, j01, j02, j03, j04, j05, j06, j07]
      · simp only [sto0, sto1, sto2, sto3, stom, rowC, rowR, rowK, List.cons_append, List.nil_append, List.append_nil, List.length_cons, List.length_nil, Nat.zero_add, Nat.reduceAdd, mp00, mp01, mp11, mp12, mp13, mp22, mp23, mp33, pst0, pst1, pst2, pst3, RepT.cells, plays42, hk] at hc hr ⊢
        simp -implicitDefEqProofs only [go_sem, reduceIte, reduceCtorEq, Nat.reduceEqDiff, Nat.reduceAdd, Nat.reduceSub, Nat.reduceLT, Nat.reduceLeDiff, Nat.reduceBEq, Nat.reduceMul, Nat.reduceBNe, Int.reduceEq, Int.reduceLT, Int.reduceLE, Int.reduceNe, Int.reduceToNat, ir_usufructlaw21_WorldPlays_B2, playsE, hc, hr, kmap_ids, kmap_ren, ro_cmd, ro_rep, ro_nm, ro_act, j00, j01, j02, j03, j04, j05, j06, j07]
      · simp only [sto0, sto1, sto2, sto3, stom, rowC, rowR, rowK, List.cons_append, List.nil_append, List.append_nil, List.length_cons, List.length_nil, Nat.zero_add, Nat.reduceAdd, mp00, mp01, mp11, mp12, mp13, mp22, mp23, mp33, pst0, pst1, pst2, pst3, RepT.cells, plays42, hk] at hc hr ⊢
        simp -implicitDefEqProofs only [go_sem, reduceIte, reduceCtorEq, Nat.reduceEqDiff, Nat.reduceAdd, Nat.reduceSub, Nat.reduceLT, Nat.reduceLeDiff, Nat.reduceBEq, Nat.reduceMul, Nat.reduceBNe, Int.reduceEq, Int.reduceLT, Int.reduceLE, Int.reduceNe, Int.reduceToNat, ir_usufructlaw21_WorldPlays_B2, playsE, hc, hr, kmap_ids, kmap_ren, ro_cmd, ro_rep, ro_nm, ro_act, j00, j01, j02, j03, j04, j05, j06, j07]
    | w2 gc gr c r2 =>
      rcases hn with ⟨g', h', c', r', rfl⟩ | ⟨g', h', j', c', r', k', rfl⟩
      · simp only [sto0, sto1, sto2, sto3, stom, rowC, rowR, rowK, List.cons_append, List.nil_append, List.append_nil, List.length_cons, List.length_nil, Nat.zero_add, Nat.reduceAdd, mp00, mp01, mp11, mp12, mp13, mp22, mp23, mp33, pst0, pst1, pst2, pst3, RepT.cells, plays42, hk] at hc hr ⊢
        simp -implicitDefEqProofs only [go_sem, reduceIte, reduceCtorEq, Nat.reduceEqDiff, Nat.reduceAdd, Nat.reduceSub, Nat.reduceLT, Nat.reduceLeDiff, Nat.reduceBEq, Nat.reduceMul, Nat.reduceBNe, Int.reduceEq, Int.reduceLT, Int.reduceLE, Int.reduceNe, Int.reduceToNat, ir_usufructlaw21_WorldPlays_B2, playsE, hc, hr, kmap_ids, kmap_ren, ro_cmd, ro_rep, ro_nm, ro_act, j00, j01, j02, j03, j04, j05, j06, j07]
      · simp only [sto0, sto1, sto2, sto3, stom, rowC, rowR, rowK, List.cons_append, List.nil_append, List.append_nil, List.length_cons, List.length_nil, Nat.zero_add, Nat.reduceAdd, mp00, mp01, mp11, mp12, mp13, mp22, mp23, mp33, pst0, pst1, pst2, pst3, RepT.cells, plays42, hk] at hc hr ⊢
        simp -implicitDefEqProofs only [go_sem, reduceIte, reduceCtorEq, Nat.reduceEqDiff, Nat.reduceAdd, Nat.reduceSub, Nat.reduceLT, Nat.reduceLeDiff, Nat.reduceBEq, Nat.reduceMul, Nat.reduceBNe, Int.reduceEq, Int.reduceLT, Int.reduceLE, Int.reduceNe, Int.reduceToNat, ir_usufructlaw21_WorldPlays_B2, playsE, hc, hr, kmap_ids, kmap_ren, ro_cmd, ro_rep, ro_nm, ro_act, j00, j01, j02, j03, j04, j05, j06, j07]
    | w3 gc gr gk c r2 k =>
      obtain ⟨g', h', j', c', r', k', rfl⟩ := hn
      simp only [sto0, sto1, sto2, sto3, stom, rowC, rowR, rowK, List.cons_append, List.nil_append, List.append_nil, List.length_cons, List.length_nil, Nat.zero_add, Nat.reduceAdd, mp00, mp01, mp11, mp12, mp13, mp22, mp23, mp33, pst0, pst1, pst2, pst3, RepT.cells, plays42, hk] at hc hr ⊢
      simp -implicitDefEqProofs only [go_sem, reduceIte, reduceCtorEq, Nat.reduceEqDiff, Nat.reduceAdd, Nat.reduceSub, Nat.reduceLT, Nat.reduceLeDiff, Nat.reduceBEq, Nat.reduceMul, Nat.reduceBNe, Int.reduceEq, Int.reduceLT, Int.reduceLE, Int.reduceNe, Int.reduceToNat, ir_usufructlaw21_WorldPlays_B2, playsE, hc, hr, kmap_ids, kmap_ren, ro_cmd, ro_rep, ro_nm, ro_act, j00, j01, j02, j03, j04, j05, j06, j07]
    | wm gc gk c k => exact hn.elim
  · cases w with
    | w0 =>
      rcases hn with rfl | ⟨g', c', rfl⟩
      · simp only [sto0, sto1, sto2, sto3, stom, rowC, rowR, rowK, List.cons_append, List.nil_append, List.append_nil, List.length_cons, List.length_nil, Nat.zero_add, Nat.reduceAdd, mp00, mp01, mp11, mp12, mp13, mp22, mp23, mp33, pst0, pst1, pst2, pst3, RepT.cells, plays42, hk] at hc hr ⊢
        simp -implicitDefEqProofs only [go_sem, reduceIte, reduceCtorEq, Nat.reduceEqDiff, Nat.reduceAdd, Nat.reduceSub, Nat.reduceLT, Nat.reduceLeDiff, Nat.reduceBEq, Nat.reduceMul, Nat.reduceBNe, Int.reduceEq, Int.reduceLT, Int.reduceLE, Int.reduceNe, Int.reduceToNat, ir_usufructlaw21_WorldPlays_B2, playsE, hc, hr, kmap_ids, kmap_ren, ro_cmd, ro_rep, ro_nm, ro_act, j10, j11, j12, j13, j14, j15, j16, j17]
      · simp only [sto0, sto1, sto2, sto3, stom, rowC, rowR, rowK, List.cons_append, List.nil_append, List.append_nil, List.length_cons, List.length_nil, Nat.zero_add, Nat.reduceAdd, mp00, mp01, mp11, mp12, mp13, mp22, mp23, mp33, pst0, pst1, pst2, pst3, RepT.cells, plays42, hk] at hc hr ⊢
        simp -implicitDefEqProofs only [go_sem, reduceIte, reduceCtorEq, Nat.reduceEqDiff, Nat.reduceAdd, Nat.reduceSub, Nat.reduceLT, Nat.reduceLeDiff, Nat.reduceBEq, Nat.reduceMul, Nat.reduceBNe, Int.reduceEq, Int.reduceLT, Int.reduceLE, Int.reduceNe, Int.reduceToNat, ir_usufructlaw21_WorldPlays_B2, playsE, hc, hr, kmap_ids, kmap_ren, ro_cmd, ro_rep, ro_nm, ro_act, j10, j11, j12, j13, j14, j15, j16, j17]
    | w1 gc c =>
      rcases hn with ⟨g', c', rfl⟩ | ⟨g', h', c', r', rfl⟩ | ⟨g', h', j', c', r', k', rfl⟩
      · simp only [sto0, sto1, sto2, sto3, stom, rowC, rowR, rowK, List.cons_append, List.nil_append, List.append_nil, List.length_cons, List.length_nil, Nat.zero_add, Nat.reduceAdd, mp00, mp01, mp11, mp12, mp13, mp22, mp23, mp33, pst0, pst1, pst2, pst3, RepT.cells, plays42, hk] at hc hr ⊢
        simp -implicitDefEqProofs only [go_sem, reduceIte, reduceCtorEq, Nat.reduceEqDiff, Nat.reduceAdd, Nat.reduceSub, Nat.reduceLT, Nat.reduceLeDiff, Nat.reduceBEq, Nat.reduceMul, Nat.reduceBNe, Int.reduceEq, Int.reduceLT, Int.reduceLE, Int.reduceNe, Int.reduceToNat, ir_usufructlaw21_WorldPlays_B2, playsE, hc, hr, kmap_ids, kmap_ren, ro_cmd, ro_rep, ro_nm, ro_act, j10, j11, j12, j13, j14, j15, j16, j17]
      · simp only [sto0, sto1, sto2, sto3, stom, rowC, rowR, rowK, List.cons_append, List.nil_append, List.append_nil, List.length_cons, List.length_nil, Nat.zero_add, Nat.reduceAdd, mp00, mp01, mp11, mp12, mp13, mp22, mp23, mp33, pst0, pst1, pst2, pst3, RepT.cells, plays42, hk] at hc hr ⊢
        simp -implicitDefEqProofs only [go_sem, reduceIte, reduceCtorEq, Nat.reduceEqDiff, Nat.reduceAdd, Nat.reduceSub, Nat.reduceLT, Nat.reduceLeDiff, Nat.reduceBEq, Nat.reduceMul, Nat.reduceBNe, Int.reduceEq, Int.reduceLT, Int.reduceLE, Int.reduceNe, Int.reduceToNat, ir_usufructlaw21_WorldPlays_B2, playsE, hc, hr, kmap_ids, kmap_ren, ro_cmd, ro_rep, ro_nm, ro_act, j10, j11, j12, j13, j14, j15, j16, j17]
      · simp only [sto0, sto1, sto2, sto3, stom, rowC, rowR, rowK, List.cons_append, List.nil_append, List.append_nil, List.length_cons, List.length_nil, Nat.zero_add, Nat.reduceAdd, mp00, mp01, mp11, mp12, mp13, mp22, mp23, mp33, pst0, pst1, pst2, pst3, RepT.cells, plays42, hk] at hc hr ⊢
        simp -implicitDefEqProofs only [go_sem, reduceIte, reduceCtorEq, Nat.reduceEqDiff, Nat.reduceAdd, Nat.reduceSub, Nat.reduceLT, Nat.reduceLeDiff, Nat.reduceBEq, Nat.reduceMul, Nat.reduceBNe, Int.reduceEq, Int.reduceLT, Int.reduceLE, Int.reduceNe, Int.reduceToNat, ir_usufructlaw21_WorldPlays_B2, playsE, hc, hr, kmap_ids, kmap_ren, ro_cmd, ro_rep, ro_nm, ro_act, j10, j11, j12, j13, j14, j15, j16, j17]
    | w2 gc gr c r2 =>
      rcases hn with ⟨g', h', c', r', rfl⟩ | ⟨g', h', j', c', r', k', rfl⟩
      · simp only [sto0, sto1, sto2, sto3, stom, rowC, rowR, rowK, List.cons_append, List.nil_append, List.append_nil, List.length_cons, List.length_nil, Nat.zero_add, Nat.reduceAdd, mp00, mp01, mp11, mp12, mp13, mp22, mp23, mp33, pst0, pst1, pst2, pst3, RepT.cells, plays42, hk] at hc hr ⊢
        simp -implicitDefEqProofs only [go_sem, reduceIte, reduceCtorEq, Nat.reduceEqDiff, Nat.reduceAdd, Nat.reduceSub, Nat.reduceLT, Nat.reduceLeDiff, Nat.reduceBEq, Nat.reduceMul, Nat.reduceBNe, Int.reduceEq, Int.reduceLT, Int.reduceLE, Int.reduceNe, Int.reduceToNat, ir_usufructlaw21_WorldPlays_B2, playsE, hc, hr, kmap_ids, kmap_ren, ro_cmd, ro_rep, ro_nm, ro_act, j10, j11, j12, j13, j14, j15, j16, j17]
      · simp only [sto0, sto1, sto2, sto3, stom, rowC, rowR, rowK, List.cons_append, List.nil_append, List.append_nil, List.length_cons, List.length_nil, Nat.zero_add, Nat.reduceAdd, mp00, mp01, mp11, mp12, mp13, mp22, mp23, mp33, pst0, pst1, pst2, pst3, RepT.cells, plays42, hk] at hc hr ⊢
        simp -implicitDefEqProofs only [go_sem, reduceIte, reduceCtorEq, Nat.reduceEqDiff, Nat.reduceAdd, Nat.reduceSub, Nat.reduceLT, Nat.reduceLeDiff, Nat.reduceBEq, Nat.reduceMul, Nat.reduceBNe, Int.reduceEq, Int.reduceLT, Int.reduceLE, Int.reduceNe, Int.reduceToNat, ir_usufructlaw21_WorldPlays_B2, playsE, hc, hr, kmap_ids, kmap_ren, ro_cmd, ro_rep, ro_nm, ro_act, j10, j11, j12, j13, j14, j15, j16, j17]
    | w3 gc gr gk c r2 k =>
      obtain ⟨g', h', j', c', r', k', rfl⟩ := hn
      simp only [sto0, sto1, sto2, sto3, stom, rowC, rowR, rowK, List.cons_append, List.nil_append, List.append_nil, List.length_cons, List.length_nil, Nat.zero_add, Nat.reduceAdd, mp00, mp01, mp11, mp12, mp13, mp22, mp23, mp33, pst0, pst1, pst2, pst3, RepT.cells, plays42, hk] at hc hr ⊢
      simp -implicitDefEqProofs only [go_sem, reduceIte, reduceCtorEq, Nat.reduceEqDiff, Nat.reduceAdd, Nat.reduceSub, Nat.reduceLT, Nat.reduceLeDiff, Nat.reduceBEq, Nat.reduceMul, Nat.reduceBNe, Int.reduceEq, Int.reduceLT, Int.reduceLE, Int.reduceNe, Int.reduceToNat, ir_usufructlaw21_WorldPlays_B2, playsE, hc, hr, kmap_ids, kmap_ren, ro_cmd, ro_rep, ro_nm, ro_act, j10, j11, j12, j13, j14, j15, j16, j17]
    | wm gc gk c k => exact hn.elim
set_option maxHeartbeats 2000000 in
theorem plays_lose (l : Sl ActT) (i : Nat) (sg : Int) (stp : ByteArray) (a : ActT) {w w' : Wd} (hn : Nx w w') (xc yc : Sl CmdT) (xr yr : Sl RepT) (xk yk : Sl ByteArray) (e : Int) (ok : Bool) (hc : callL E f_world_World_Lose [.ref 0 0 0 0, vi a.n] [] w.sto = some (vi e, w'.sto)) (hr : callP E f_usufructref21_Lose [.agg [xc.av 6 CmdT.cells, xr.av 5 RepT.cells, xk.av 1 nmC], vi a.n] = some (.tup [.agg [yc.av 6 CmdT.cells, yr.av 5 RepT.cells, yk.av 1 nmC], vb ok])) (hk : a.k = 4) :
    IR.runL E.glob (callL E) [] ir_usufructlaw21_WorldPlays_B2 (plays42 l i sg stp a (pst w (.box [xc.av 6 CmdT.cells, xr.av 5 RepT.cells, xk.av 1 nmC])).length) (pst w (.box [xc.av 6 CmdT.cells, xr.av 5 RepT.cells, xk.av 1 nmC]) ++ [.box [vi a.k, vi a.n, cmv a.l, vb a.good, vb a.more]]) = some (.norm, playsE l i sg stp e ok, mrgP w w' (.box [yc.av 6 CmdT.cells, yr.av 5 RepT.cells, yk.av 1 nmC]) (.box [vi a.k, vi a.n, cmv a.l, vb a.good, vb a.more])) := by
  cases w with
  | w0 =>
    rcases hn with rfl | ⟨g', c', rfl⟩
    · simp only [sto0, sto1, sto2, sto3, stom, rowC, rowR, rowK, List.cons_append, List.nil_append, List.append_nil, List.length_cons, List.length_nil, Nat.zero_add, Nat.reduceAdd, mp00, mp01, mp11, mp12, mp13, mp22, mp23, mp33, pst0, pst1, pst2, pst3, RepT.cells, plays42, hk] at hc hr ⊢
      simp -implicitDefEqProofs only [go_sem, reduceIte, reduceCtorEq, Nat.reduceEqDiff, Nat.reduceAdd, Nat.reduceSub, Nat.reduceLT, Nat.reduceLeDiff, Nat.reduceBEq, Nat.reduceMul, Nat.reduceBNe, Int.reduceEq, Int.reduceLT, Int.reduceLE, Int.reduceNe, Int.reduceToNat, ir_usufructlaw21_WorldPlays_B2, playsE, hc, hr, kmap_ids, kmap_ren, ro_cmd, ro_rep, ro_nm, ro_act, j40, j41, j42, j43, j44, j45, j46, j47]
    · simp only [sto0, sto1, sto2, sto3, stom, rowC, rowR, rowK, List.cons_append, List.nil_append, List.append_nil, List.length_cons, List.length_nil, Nat.zero_add, Nat.reduceAdd, mp00, mp01, mp11, mp12, mp13, mp22, mp23, mp33, pst0, pst1, pst2, pst3, RepT.cells, plays42, hk] at hc hr ⊢
      simp -implicitDefEqProofs only [go_sem, reduceIte, reduceCtorEq, Nat.reduceEqDiff, Nat.reduceAdd, Nat.reduceSub, Nat.reduceLT, Nat.reduceLeDiff, Nat.reduceBEq, Nat.reduceMul, Nat.reduceBNe, Int.reduceEq, Int.reduceLT, Int.reduceLE, Int.reduceNe, Int.reduceToNat, ir_usufructlaw21_WorldPlays_B2, playsE, hc, hr, kmap_ids, kmap_ren, ro_cmd, ro_rep, ro_nm, ro_act, j40, j41, j42, j43, j44, j45, j46, j47]
  | w1 gc c =>
    rcases hn with ⟨g', c', rfl⟩ | ⟨g', h', c', r', rfl⟩ | ⟨g', h', j', c', r', k', rfl⟩
    · simp only [sto0, sto1, sto2, sto3, stom, rowC, rowR, rowK, List.cons_append, List.nil_append, List.append_nil, List.length_cons, List.length_nil, Nat.zero_add, Nat.reduceAdd, mp00, mp01, mp11, mp12, mp13, mp22, mp23, mp33, pst0, pst1, pst2, pst3, RepT.cells, plays42, hk] at hc hr ⊢
      simp -implicitDefEqProofs only [go_sem, reduceIte, reduceCtorEq, Nat.reduceEqDiff, Nat.reduceAdd, Nat.reduceSub, Nat.reduceLT, Nat.reduceLeDiff, Nat.reduceBEq, Nat.reduceMul, Nat.reduceBNe, Int.reduceEq, Int.reduceLT, Int.reduceLE, Int.reduceNe, Int.reduceToNat, ir_usufructlaw21_WorldPlays_B2, playsE, hc, hr, kmap_ids, kmap_ren, ro_cmd, ro_rep, ro_nm, ro_act, j40, j41, j42, j43, j44, j45, j46, j47]
    · simp only [sto0, sto1, sto2, sto3, stom, rowC, rowR, rowK, List.cons_append, List.nil_append, List.append_nil, List.length_cons, List.length_nil, Nat.zero_add, Nat.reduceAdd, mp00, mp01, mp11, mp12, mp13, mp22, mp23, mp33, pst0, pst1, pst2, pst3, RepT.cells, plays42, hk] at hc hr ⊢
      simp -implicitDefEqProofs only [go_sem, reduceIte, reduceCtorEq, Nat.reduceEqDiff, Nat.reduceAdd, Nat.reduceSub, Nat.reduceLT, Nat.reduceLeDiff, Nat.reduceBEq, Nat.reduceMul, Nat.reduceBNe, Int.reduceEq, Int.reduceLT, Int.reduceLE, Int.reduceNe, Int.reduceToNat, ir_usufructlaw21_WorldPlays_B2, playsE, hc, hr, kmap_ids, kmap_ren, ro_cmd, ro_rep, ro_nm, ro_act, j40, j41, j42, j43, j44, j45, j46, j47]
    · simp only [sto0, sto1, sto2, sto3, stom, rowC, rowR, rowK, List.cons_append, List.nil_append, List.append_nil, List.length_cons, List.length_nil, Nat.zero_add, Nat.reduceAdd, mp00, mp01, mp11, mp12, mp13, mp22, mp23, mp33, pst0, pst1, pst2, pst3, RepT.cells, plays42, hk] at hc hr ⊢
      simp -implicitDefEqProofs only [go_sem, reduceIte, reduceCtorEq, Nat.reduceEqDiff, Nat.reduceAdd, Nat.reduceSub, Nat.reduceLT, Nat.reduceLeDiff, Nat.reduceBEq, Nat.reduceMul, Nat.reduceBNe, Int.reduceEq, Int.reduceLT, Int.reduceLE, Int.reduceNe, Int.reduceToNat, ir_usufructlaw21_WorldPlays_B2, playsE, hc, hr, kmap_ids, kmap_ren, ro_cmd, ro_rep, ro_nm, ro_act, j40, j41, j42, j43, j44, j45, j46, j47]
  | w2 gc gr c r2 =>
    rcases hn with ⟨g', h', c', r', rfl⟩ | ⟨g', h', j', c', r', k', rfl⟩
    · simp only [sto0, sto1, sto2, sto3, stom, rowC, rowR, rowK, List.cons_append, List.nil_append, List.append_nil, List.length_cons, List.length_nil, Nat.zero_add, Nat.reduceAdd, mp00, mp01, mp11, mp12, mp13, mp22, mp23, mp33, pst0, pst1, pst2, pst3, RepT.cells, plays42, hk] at hc hr ⊢
      simp -implicitDefEqProofs only [go_sem, reduceIte, reduceCtorEq, Nat.reduceEqDiff, Nat.reduceAdd, Nat.reduceSub, Nat.reduceLT, Nat.reduceLeDiff, Nat.reduceBEq, Nat.reduceMul, Nat.reduceBNe, Int.reduceEq, Int.reduceLT, Int.reduceLE, Int.reduceNe, Int.reduceToNat, ir_usufructlaw21_WorldPlays_B2, playsE, hc, hr, kmap_ids, kmap_ren, ro_cmd, ro_rep, ro_nm, ro_act, j40, j41, j42, j43, j44, j45, j46, j47]
    · simp only [sto0, sto1, sto2, sto3, stom, rowC, rowR, rowK, List.cons_append, List.nil_append, List.append_nil, List.length_cons, List.length_nil, Nat.zero_add, Nat.reduceAdd, mp00, mp01, mp11, mp12, mp13, mp22, mp23, mp33, pst0, pst1, pst2, pst3, RepT.cells, plays42, hk] at hc hr ⊢
      simp -implicitDefEqProofs only [go_sem, reduceIte, reduceCtorEq, Nat.reduceEqDiff, Nat.reduceAdd, Nat.reduceSub, Nat.reduceLT, Nat.reduceLeDiff, Nat.reduceBEq, Nat.reduceMul, Nat.reduceBNe, Int.reduceEq, Int.reduceLT, Int.reduceLE, Int.reduceNe, Int.reduceToNat, ir_usufructlaw21_WorldPlays_B2, playsE, hc, hr, kmap_ids, kmap_ren, ro_cmd, ro_rep, ro_nm, ro_act, j40, j41, j42, j43, j44, j45, j46, j47]
  | w3 gc gr gk c r2 k =>
    obtain ⟨g', h', j', c', r', k', rfl⟩ := hn
    simp only [sto0, sto1, sto2, sto3, stom, rowC, rowR, rowK, List.cons_append, List.nil_append, List.append_nil, List.length_cons, List.length_nil, Nat.zero_add, Nat.reduceAdd, mp00, mp01, mp11, mp12, mp13, mp22, mp23, mp33, pst0, pst1, pst2, pst3, RepT.cells, plays42, hk] at hc hr ⊢
    simp -implicitDefEqProofs only [go_sem, reduceIte, reduceCtorEq, Nat.reduceEqDiff, Nat.reduceAdd, Nat.reduceSub, Nat.reduceLT, Nat.reduceLeDiff, Nat.reduceBEq, Nat.reduceMul, Nat.reduceBNe, Int.reduceEq, Int.reduceLT, Int.reduceLE, Int.reduceNe, Int.reduceToNat, ir_usufructlaw21_WorldPlays_B2, playsE, hc, hr, kmap_ids, kmap_ren, ro_cmd, ro_rep, ro_nm, ro_act, j40, j41, j42, j43, j44, j45, j46, j47]
  | wm gc gk c k => exact hn.elim
theorem plays_other (l : Sl ActT) (i : Nat) (sg : Int) (stp : ByteArray) (a : ActT) {w w' : Wd} (hn : Nx w w') (xc yc : Sl CmdT) (xr yr : Sl RepT) (xk yk : Sl ByteArray) (he : w' = w) (hk : a.k < 0 ∨ 7 < a.k) :
    IR.runL E.glob (callL E) [] ir_usufructlaw21_WorldPlays_B2 (plays42 l i sg stp a (pst w (.box [xc.av 6 CmdT.cells, xr.av 5 RepT.cells, xk.av 1 nmC])).length) (pst w (.box [xc.av 6 CmdT.cells, xr.av 5 RepT.cells, xk.av 1 nmC]) ++ [.box [vi a.k, vi a.n, cmv a.l, vb a.good, vb a.more]]) = some (.norm, playsE l i sg stp 0 true, mrgP w w' (.box [xc.av 6 CmdT.cells, xr.av 5 RepT.cells, xk.av 1 nmC]) (.box [vi a.k, vi a.n, cmv a.l, vb a.good, vb a.more])) := by
  subst he
  have n0 : ¬ a.k = 0 := by omega
  have n1 : ¬ a.k = 1 := by omega
  have n2 : ¬ a.k = 2 := by omega
  have n3 : ¬ a.k = 3 := by omega
  have n4 : ¬ a.k = 4 := by omega
  have n5 : ¬ a.k = 5 := by omega
  have n6 : ¬ a.k = 6 := by omega
  have n7 : ¬ a.k = 7 := by omega
  cases w' with
  | wm gc gk c k => exact hn.elim
  | w0 =>
    simp only [sto0, sto1, sto2, sto3, stom, rowC, rowR, rowK, List.cons_append, List.nil_append, List.append_nil, List.length_cons, List.length_nil, Nat.zero_add, Nat.reduceAdd, mp00, mp01, mp11, mp12, mp13, mp22, mp23, mp33, pst0, pst1, pst2, pst3, plays42]
    simp -implicitDefEqProofs only [go_sem, reduceIte, reduceCtorEq, Nat.reduceEqDiff, Nat.reduceAdd, Nat.reduceSub, Nat.reduceLT, Nat.reduceLeDiff, Nat.reduceBEq, Nat.reduceMul, Nat.reduceBNe, Int.reduceEq, Int.reduceLT, Int.reduceLE, Int.reduceNe, Int.reduceToNat, ir_usufructlaw21_WorldPlays_B2, playsE, kmap_ids, kmap_ren, ro_cmd, ro_rep, ro_nm, ro_act, n0, n1, n2, n3, n4, n5, n6, n7]
  | w1 gc c =>
    simp only [sto0, sto1, sto2, sto3, stom, rowC, rowR, rowK, List.cons_append, List.nil_append, List.append_nil, List.length_cons, List.length_nil, Nat.zero_add, Nat.reduceAdd, mp00, mp01, mp11, mp12, mp13, mp22, mp23, mp33, pst0, pst1, pst2, pst3, plays42]
    simp -implicitDefEqProofs only [go_sem, reduceIte, reduceCtorEq, Nat.reduceEqDiff, Nat.reduceAdd, Nat.reduceSub, Nat.reduceLT, Nat.reduceLeDiff, Nat.reduceBEq, Nat.reduceMul, Nat.reduceBNe, Int.reduceEq, Int.reduceLT, Int.reduceLE, Int.reduceNe, Int.reduceToNat, ir_usufructlaw21_WorldPlays_B2, playsE, kmap_ids, kmap_ren, ro_cmd, ro_rep, ro_nm, ro_act, n0, n1, n2, n3, n4, n5, n6, n7]
  | w2 gc gr c r2 =>
    simp only [sto0, sto1, sto2, sto3, stom, rowC, rowR, rowK, List.cons_append, List.nil_append, List.append_nil, List.length_cons, List.length_nil, Nat.zero_add, Nat.reduceAdd, mp00, mp01, mp11, mp12, mp13, mp22, mp23, mp33, pst0, pst1, pst2, pst3, plays42]
    simp -implicitDefEqProofs only [go_sem, reduceIte, reduceCtorEq, Nat.reduceEqDiff, Nat.reduceAdd, Nat.reduceSub, Nat.reduceLT, Nat.reduceLeDiff, Nat.reduceBEq, Nat.reduceMul, Nat.reduceBNe, Int.reduceEq, Int.reduceLT, Int.reduceLE, Int.reduceNe, Int.reduceToNat, ir_usufructlaw21_WorldPlays_B2, playsE, kmap_ids, kmap_ren, ro_cmd, ro_rep, ro_nm, ro_act, n0, n1, n2, n3, n4, n5, n6, n7]
  | w3 gc gr gk c r2 k =>
    simp only [sto0, sto1, sto2, sto3, stom, rowC, rowR, rowK, List.cons_append, List.nil_append, List.append_nil, List.length_cons, List.length_nil, Nat.zero_add, Nat.reduceAdd, mp00, mp01, mp11, mp12, mp13, mp22, mp23, mp33, pst0, pst1, pst2, pst3, plays42]
    simp -implicitDefEqProofs only [go_sem, reduceIte, reduceCtorEq, Nat.reduceEqDiff, Nat.reduceAdd, Nat.reduceSub, Nat.reduceLT, Nat.reduceLeDiff, Nat.reduceBEq, Nat.reduceMul, Nat.reduceBNe, Int.reduceEq, Int.reduceLT, Int.reduceLE, Int.reduceNe, Int.reduceToNat, ir_usufructlaw21_WorldPlays_B2, playsE, kmap_ids, kmap_ren, ro_cmd, ro_rep, ro_nm, ro_act, n0, n1, n2, n3, n4, n5, n6, n7]
end Go.Proofs.YtbpndomfipdhdaaDoor.Ev
