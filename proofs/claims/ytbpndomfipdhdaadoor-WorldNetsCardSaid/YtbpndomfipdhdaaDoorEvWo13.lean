/-
  A world: the switch of WorldNets.
-/
import Derived.Test.YtbpndomfipdhdaaDoorEvWo12
set_option linter.unusedVariables false
set_option linter.unusedSimpArgs false
namespace Go.Proofs.YtbpndomfipdhdaaDoor.Ev
attribute [local congr] bind_congr_head
attribute [local go_sem] opd_t opd_c opd_g opd_f opds_nil opds_cons get_cons put_some put_none keep_nil keepC_s keepC_n keep_cons runs_nil runs_cons run_op run_opr run_call run_gand run_gor run_gif seqK_norm seqK_exit seqK_ret blkK_norm blkK_exit blkK_ret runL_skip runL_exit runL_ret runL_items runL_seq runL_cond runL_block runL_loop fin_bind finK_norm finK_ret rvs_nil rvs_cons rv_tmp rv_cell tupOf_one tupOf_nil tupOf_two ev_mov ev_pick ev_alloc ev_box ev_build parts_nil parts_cons fills_nil fills_cons ev_bsl ev_bslo ev_load ev_store ev_nilck ev_bin ev_binb ev_aeq ev_un ev_i2i ev_i2t ev_isnilI nilIF ev_s2b ev_ext ev_fld ev_idxs ev_fa ev_ias ev_len ev_lens ev_s2s ev_mkf ev_rng ev_nxt ev_app bOf_s pvOf_s agOf_s tpOf_s iOf_s sOf_s ite_bind Option.bind_some Option.bind_none if_true if_false ite_true ite_false argEnv_nil argEnv_cons len_av elems_av ias_av cells_av tuple_av AV.tuple AV.cells faF ldAt liveRef aggOf nilckF binV binI binS binB unV Bool.not_true Bool.not_false List.length_nil List.length_cons List.nil_append List.cons_append List.append_nil List.getElem?_cons_zero List.getElem?_cons_succ List.drop_zero List.drop_succ_cons List.drop_nil List.take_zero List.take_succ_cons List.take_nil List.set_cons_zero List.set_cons_succ compact_same compact_new closedB nodupB envIds ids0 upto visit pos sel AV.ids idss idsss Ob.ids AV.ren rens renss Ob.ren renEnv AV.snap snaps stAt okSt putCells List.all_nil List.all_cons List.contains_nil List.contains_cons Bool.and_true Bool.true_and Bool.and_false Bool.false_and Bool.or_true Bool.true_or Bool.or_false Bool.false_or decide_eq_true_eq decide_true decide_false beq_iff_eq bne_iff_ne beq_self_eq_true Bool.not_eq_true' Bool.false_eq_true eq_self and_self and_true true_and and_false false_and or_true true_or or_false false_or not_true_eq_false not_false_eq_true ne_eq Nat.zero_add Nat.add_zero Nat.le_refl Nat.not_lt_zero Nat.lt_irrefl Nat.zero_le Int.toNat_natCast gt_iff_lt ge_iff_le Int.lt_irrefl Int.natCast_nonneg txt_eq get_nil appF elems belows AV.under AV.flat flats List.length_map List.map_append List.map_cons List.map_nil List.length_append take_map_all List.flatten_cons List.flatten_nil bld_nil imp_false false_imp_iff false_implies true_implies implies_true decide_eq_false_iff_not Nat.one_mul Nat.mul_one idsss_app renss_app belowss_app ev_mn ev_mx ev_isnils ev_sls ev_slx evo_none evo_some vals minV maxV minF maxF backId List.getElem?_nil putAll Option.all_none Option.all_some Option.isSome_some intOf aszI compactV_same compactV_new callP_any callQ_eq callN_any boxQ AV.id? ids_avR ren_av under_av snap_av renss_mapf belowss_mapf idsss_mapf isnilsF List.length_eq_zero_iff int_beq int_bne decide_not slx_av Int.toNat_zero ev_mkm ev_lk ev_mup ev_mdl ev_lenm ev_isnilm mpOf_s mapAt_s mapOf_nil mapOf_mp isnilm_nil isnilm_mp lkR Option.getD_some Option.getD_none Option.isSome_none Prim.rdo ev_snp snp_own snp_v exQ_nil exQ_cons exA_ref same_nil same_box same_row same_map sameL_nil sameL_cons sameA_int sameA_bool sameA_str sameA_slice sameA_map sameA_ptr sameA_own sameA_ref sameA_mp callB_eq
variable {E : Prog}
theorem i00 : ((0 : Int) = 0) = True := by simp
theorem i01 : ((0 : Int) = 1) = False := by simp
theorem i02 : ((0 : Int) = 2) = False := by simp
theorem i03 : ((0 : Int) = 3) = False := by simp
theorem i04 : ((0 : Int) = 4) = False := by simp
theorem i05 : ((0 : Int) = 5) = False := by simp
theorem i06 : ((0 : Int) = 6) = False := by simp
theorem i07 : ((0 : Int) = 7) = False := by simp
theorem i10 : ((1 : Int) = 0) = False := by simp
theorem i11 : ((1 : Int) = 1) = True := by simp
theorem i12 : ((1 : Int) = 2) = False := by simp
theorem i13 : ((1 : Int) = 3) = False := by simp
theorem i14 : ((1 : Int) = 4) = False := by simp
theorem i15 : ((1 : Int) = 5) = False := by simp
theorem i16 : ((1 : Int) = 6) = False := by simp
theorem i17 : ((1 : Int) = 7) = False := by simp
theorem i20 : ((2 : Int) = 0) = False := by simp
theorem i21 : ((2 : Int) = 1) = False := by simp
theorem i22 : ((2 : Int) = 2) = True := by simp
theorem i23 : ((2 : Int) = 3) = False := by simp
theorem i24 : ((2 : Int) = 4) = False := by simp
theorem i25 : ((2 : Int) = 5) = False := by simp
theorem i26 : ((2 : Int) = 6) = False := by simp
theorem i27 : ((2 : Int) = 7) = False := by simp
theorem i30 : ((3 : Int) = 0) = False := by simp
theorem i31 : ((3 : Int) = 1) = False := by simp
theorem i32 : ((3 : Int) = 2) = False := by simp
theorem i33 : ((3 : Int) = 3) = True := by simp
theorem i34 : ((3 : Int) = 4) = False := by simp
theorem i35 : ((3 : Int) = 5) = False := by simp
theorem i36 : ((3 : Int) = 6) = False := by simp
theorem i37 : ((3 : Int) = 7) = False := by simp
theorem i40 : ((4 : Int) = 0) = False := by simp
theorem i41 : ((4 : Int) = 1) = False := by simp
theorem i42 : ((4 : Int) = 2) = False := by simp
theorem i43 : ((4 : Int) = 3) = False := by simp
theorem i44 : ((4 : Int) = 4) = True := by simp
theorem i45 : ((4 : Int) = 5) = False := by simp
theorem i46 : ((4 : Int) = 6) = False := by simp
theorem i47 : ((4 : Int) = 7) = False := by simp
theorem i50 : ((5 : Int) = 0) = False := by simp
theorem i51 : ((5 : Int) = 1) = False := by simp
theorem i52 : ((5 : Int) = 2) = False := by simp
theorem i53 : ((5 : Int) = 3) = False := by simp
theorem i54 : ((5 : Int) = 4) = False := by simp
theorem i55 : ((5 : Int) = 5) = True := by simp
theorem i56 : ((5 : Int) = 6) = False := by simp
theorem i57 : ((5 : Int) = 7) = False := by simp
theorem i60 : ((6 : Int) = 0) = False := by simp
theorem i61 : ((6 : Int) = 1) = False := by simp
theorem i62 : ((6 : Int) = 2) = False := by simp
theorem i63 : ((6 : Int) = 3) = False := by simp
theorem i64 : ((6 : Int) = 4) = False := by simp
theorem i65 : ((6 : Int) = 5) = False := by simp
theorem i66 : ((6 : Int) = 6) = True := by simp
theorem i67 : ((6 : Int) = 7) = False := by simp
theorem i70 : ((7 : Int) = 0) = False := by simp
theorem i71 : ((7 : Int) = 1) = False := by simp
theorem i72 : ((7 : Int) = 2) = False := by simp
theorem i73 : ((7 : Int) = 3) = False := by simp
theorem i74 : ((7 : Int) = 4) = False := by simp
theorem i75 : ((7 : Int) = 5) = False := by simp
theorem i76 : ((7 : Int) = 6) = False := by simp
theorem i77 : ((7 : Int) = 7) = True := by simp
/-- A world's objects behind a call, and what lay beside them. -/
def mrg (w w' : Wd) (b : Ob) : Store := match w, w' with
  | .w0, .w1 g c => [.box [.own 2 g 0 c.length, .v (.slice none 0 0), .v (.map none), .v (.slice none 0 0)], b, rowC g c]
  | .w1 _ _, .w2 g h c r => [.box [.own 1 g 0 c.length, .own 3 h 0 r.length, .v (.map none), .v (.slice none 0 0)], rowC g c, b, rowR h r]
  | .w1 _ _, .w3 g h j c r k => [.box [.own 1 g 0 c.length, .own 3 h 0 r.length, .mp 4, .own 5 j 0 k.length], rowC g c, b, rowR h r, .map (kmap k 0), rowK j k]
  | .w2 _ _ _ _, .w3 g h j c r k => [.box [.own 1 g 0 c.length, .own 2 h 0 r.length, .mp 4, .own 5 j 0 k.length], rowC g c, rowR h r, b, .map (kmap k 0), rowK j k]
  | _, w' => w'.sto ++ [b]
theorem mrg00 (b : Ob) : mrg .w0 .w0 b = Wd.w0.sto ++ [b] := rfl
theorem mrg01 (g : Nat) (c : List CmdT) (b : Ob) : mrg .w0 (.w1 g c) b = [.box [.own 2 g 0 c.length, .v (.slice none 0 0), .v (.map none), .v (.slice none 0 0)], b, rowC g c] := rfl
theorem mrg11 (g0 : Nat) (c0 : List CmdT) (g : Nat) (c : List CmdT) (b : Ob) : mrg (.w1 g0 c0) (.w1 g c) b = (Wd.w1 g c).sto ++ [b] := rfl
theorem mrg12 (g0 : Nat) (c0 : List CmdT) (g h : Nat) (c : List CmdT) (r : List RepT) (b : Ob) : mrg (.w1 g0 c0) (.w2 g h c r) b = [.box [.own 1 g 0 c.length, .own 3 h 0 r.length, .v (.map none), .v (.slice none 0 0)], rowC g c, b, rowR h r] := rfl
theorem mrg13 (g0 : Nat) (c0 : List CmdT) (g h j : Nat) (c : List CmdT) (r : List RepT) (k : List ByteArray) (b : Ob) : mrg (.w1 g0 c0) (.w3 g h j c r k) b = [.box [.own 1 g 0 c.length, .own 3 h 0 r.length, .mp 4, .own 5 j 0 k.length], rowC g c, b, rowR h r, .map (kmap k 0), rowK j k] := rfl
theorem mrg22 (g0 h0 : Nat) (c0 : List CmdT) (r0 : List RepT) (g h : Nat) (c : List CmdT) (r : List RepT) (b : Ob) : mrg (.w2 g0 h0 c0 r0) (.w2 g h c r) b = (Wd.w2 g h c r).sto ++ [b] := rfl
theorem mrg23 (g0 h0 : Nat) (c0 : List CmdT) (r0 : List RepT) (g h j : Nat) (c : List CmdT) (r : List RepT) (k : List ByteArray) (b : Ob) : mrg (.w2 g0 h0 c0 r0) (.w3 g h j c r k) b = [.box [.own 1 g 0 c.length, .own 2 h 0 r.length, .mp 4, .own 5 j 0 k.length], rowC g c, rowR h r, b, .map (kmap k 0), rowK j k] := rfl
theorem mrg33 (g0 h0 j0 : Nat) (c0 : List CmdT) (r0 : List RepT) (k0 : List ByteArray) (g h j : Nat) (c : List CmdT) (r : List RepT) (k : List ByteArray) (b : Ob) : mrg (.w3 g0 h0 j0 c0 r0 k0) (.w3 g h j c r k) b = (Wd.w3 g h j c r k).sto ++ [b] := rfl
abbrev netsE (x : Sl ActT) (i : Nat) (n sg : Int) (stp : ByteArray) : Env := [(0, acv x), (1, .v (.int .u8 sg)), (2, vs stp), (7, .ref 0 0 0 0), (8, vi n), (9, vi i)]
abbrev nets38 (x : Sl ActT) (i : Nat) (n sg : Int) (stp : ByteArray) (a : ActT) (id : Nat) : Env := [(38, vi a.k), (37, .ref id 0 0 0), (10, .ref id 0 0 0), (36, .agg [vi a.k, vi a.n, cmv a.l, vb a.good, vb a.more]), (35, .rop [vi a.k, vi a.n, cmv a.l, vb a.good, vb a.more]), (34, vi i), (33, acv x), (30, vb true), (29, vi x.list.length), (28, acv x), (27, vi i), (0, acv x), (1, .v (.int .u8 sg)), (2, vs stp), (7, .ref 0 0 0 0), (8, vi n), (9, vi i)]
set_option maxHeartbeats 1000000 in
theorem nets_send (x : Sl ActT) (i : Nat) (n sg : Int) (stp : ByteArray) (a : ActT) {w w' : Wd} (hn : Nx w w') (hc : callL E f_world_World_Send [.ref 0 0 0 0, cmv a.l] [] w.sto = some (.tup [], w'.sto)) (hk : a.k = 0 ∨ a.k = 1) :
    IR.runL E.glob (callL E) [] ir_usufructlaw21_WorldNets_B2 (nets38 x i n sg stp a w.sto.length) (w.sto ++ [.box [vi a.k, vi a.n, cmv a.l, vb a.good, vb a.more]]) = some (.norm, netsE x i n sg stp, mrg w w' (.box [vi a.k, vi a.n, cmv a.l, vb a.good, vb a.more])) := by
  rcases hk with hk | hk
  · cases w with
    | w0 =>
      rcases hn with rfl | ⟨g', c', rfl⟩
      · simp only [sto0, sto1, sto2, sto3, stom, rowC, rowR, rowK, List.cons_append, List.nil_append, List.append_nil, List.length_cons, List.length_nil, Nat.zero_add, Nat.reduceAdd, mrg00, mrg01, mrg11, mrg12, mrg13, mrg22, mrg23, mrg33, RepT.cells, nets38, hk] at hc ⊢
        simp -implicitDefEqProofs only [go_sem, reduceIte, reduceCtorEq, Nat.reduceEqDiff, Nat.reduceAdd, Nat.reduceSub, Nat.reduceLT, Nat.reduceLeDiff, Nat.reduceBEq, Nat.reduceMul, Nat.reduceBNe, Int.reduceEq, Int.reduceLT, Int.reduceLE, Int.reduceNe, Int.reduceToNat, ir_usufructlaw21_WorldNets_B2, netsE, hc, kmap_ids, kmap_ren, ro_cmd, ro_rep, ro_nm, ro_act, i00, i01, i02, i03, i04, i05, i06, i07]
      · simp only [sto0, sto1, sto2, sto3, stom, rowC, rowR, rowK, List.cons_append, List.nil_append, List.append_nil, List.length_cons, List.length_nil, Nat.zero_add, Nat.reduceAdd, mrg00, mrg01, mrg11, mrg12, mrg13, mrg22, mrg23, mrg33, RepT.cells, nets38, hk] at hc ⊢
        simp -implicitDefEqProofs only [go_sem, reduceIte, reduceCtorEq, Nat.reduceEqDiff, Nat.reduceAdd, Nat.reduceSub, Nat.reduceLT, Nat.reduceLeDiff, Nat.reduceBEq, Nat.reduceMul, Nat.reduceBNe, Int.reduceEq, Int.reduceLT, Int.reduceLE, Int.reduceNe, Int.reduceToNat, ir_usufructlaw21_WorldNets_B2, netsE, hc, kmap_ids, kmap_ren, ro_cmd, ro_rep, ro_nm, ro_act, i00, i01, i02, i03, i04, i05, i06, i07]
    | w1 gc c =>
      rcases hn with ⟨g', c', rfl⟩ | ⟨g', h', c', r', rfl⟩ | ⟨g', h', j', c', r', k', rfl⟩
      · simp only [sto0, sto1, sto2, sto3, stom, rowC, rowR, rowK, List.cons_append, List.nil_append, List.append_nil, List.length_cons, List.length_nil, Nat.zero_add, Nat.reduceAdd, mrg00, mrg01, mrg11, mrg12, mrg13, mrg22, mrg23, mrg33, RepT.cells, nets38, hk] at hc ⊢
        simp -implicitDefEqProofs only [go_sem, reduceIte, reduceCtorEq, Nat.reduceEqDiff, Nat.reduceAdd, Nat.reduceSub, Nat.reduceLT, Nat.reduceLeDiff, Nat.reduceBEq, Nat.reduceMul, Nat.reduceBNe, Int.reduceEq, Int.reduceLT, Int.reduceLE, Int.reduceNe, Int.reduceToNat, ir_usufructlaw21_WorldNets_B2, netsE, hc, kmap_ids, kmap_ren, ro_cmd, ro_rep, ro_nm, ro_act, i00, i01, i02, i03, i04, i05, i06, i07]
      · simp only [sto0, sto1, sto2, sto3, stom, rowC, rowR, rowK, List.cons_append, List.nil_append, List.append_nil, List.length_cons, List.length_nil, Nat.zero_add, Nat.reduceAdd, mrg00, mrg01, mrg11, mrg12, mrg13, mrg22, mrg23, mrg33, RepT.cells, nets38, hk] at hc ⊢
        simp -implicitDefEqProofs only [go_sem, reduceIte, reduceCtorEq, Nat.reduceEqDiff, Nat.reduceAdd, Nat.reduceSub, Nat.reduceLT, Nat.reduceLeDiff, Nat.reduceBEq, Nat.reduceMul, Nat.reduceBNe, Int.reduceEq, Int.reduceLT, Int.reduceLE, Int.reduceNe, Int.reduceToNat, ir_usufructlaw21_WorldNets_B2, netsE, hc, kmap_ids, kmap_ren, ro_cmd, ro_rep, ro_nm, ro_act, i00, i01, i02, i03, i04, i05, i06, i07]
      · simp only [sto0, sto1, sto2, sto3, stom, rowC, rowR, rowK, List.cons_append, List.nil_append, List.append_nil, List.length_cons, List.length_nil, Nat.zero_add, Nat.reduceAdd, mrg00, mrg01, mrg11, mrg12, mrg13, mrg22, mrg23, mrg33, RepT.cells, nets38, hk] at hc ⊢
        simp -implicitDefEqProofs only [go_sem, reduceIte, reduceCtorEq, Nat.reduceEqDiff, Nat.reduceAdd, Nat.reduceSub, Nat.reduceLT, Nat.reduceLeDiff, Nat.reduceBEq, Nat.reduceMul, Nat.reduceBNe, Int.reduceEq, Int.reduceLT, Int.reduceLE, Int.reduceNe, Int.reduceToNat, ir_usufructlaw21_WorldNets_B2, netsE, hc, kmap_ids, kmap_ren, ro_cmd, ro_rep, ro_nm, ro_act, i00, i01, i02, i03, i04, i05, i06, i07]
    | w2 gc gr c r2 =>
      rcases hn with ⟨g', h', c', r', rfl⟩ | ⟨g', h', j', c', r', k', rfl⟩
      · simp only [sto0, sto1, sto2, sto3, stom, rowC, rowR, rowK, List.cons_append, List.nil_append, List.append_nil, List.length_cons, List.length_nil, Nat.zero_add, Nat.reduceAdd, mrg00, mrg01, mrg11, mrg12, mrg13, mrg22, mrg23, mrg33, RepT.cells, nets38, hk] at hc ⊢
        simp -implicitDefEqProofs only [go_sem, reduceIte, reduceCtorEq, Nat.reduceEqDiff, Nat.reduceAdd, Nat.reduceSub, Nat.reduceLT, Nat.reduceLeDiff, Nat.reduceBEq, Nat.reduceMul, Nat.reduceBNe, Int.reduceEq, Int.reduceLT, Int.reduceLE, Int.reduceNe, Int.reduceToNat, ir_usufructlaw21_WorldNets_B2, netsE, hc, kmap_ids, kmap_ren, ro_cmd, ro_rep, ro_nm, ro_act, i00, i01, i02, i03, i04, i05, i06, i07]
      · simp only [sto0, sto1, sto2, sto3, stom, rowC, rowR, rowK, List.cons_append, List.nil_append, List.append_nil, List.length_cons, List.length_nil, Nat.zero_add, Nat.reduceAdd, mrg00, mrg01, mrg11, mrg12, mrg13, mrg22, mrg23, mrg33, RepT.cells, nets38, hk] at hc ⊢
        simp -implicitDefEqProofs only [go_sem, reduceIte, reduceCtorEq, Nat.reduceEqDiff, Nat.reduceAdd, Nat.reduceSub, Nat.reduceLT, Nat.reduceLeDiff, Nat.reduceBEq, Nat.reduceMul, Nat.reduceBNe, Int.reduceEq, Int.reduceLT, Int.reduceLE, Int.reduceNe, Int.reduceToNat, ir_usufructlaw21_WorldNets_B2, netsE, hc, kmap_ids, kmap_ren, ro_cmd, ro_rep, ro_nm, ro_act, i00, i01, i02, i03, i04, i05, i06, i07]
    | w3 gc gr gk c r2 k =>
      obtain ⟨g', h', j', c', r', k', rfl⟩ := hn
      simp only [sto0, sto1, sto2, sto3, stom, rowC, rowR, rowK, List.cons_append, List.nil_append, List.append_nil, List.length_cons, List.length_nil, Nat.zero_add, Nat.reduceAdd, mrg00, mrg01, mrg11, mrg12, mrg13, mrg22, mrg23, mrg33, RepT.cells, nets38, hk] at hc ⊢
      simp -implicitDefEqProofs only [go_sem, reduceIte, reduceCtorEq, Nat.reduceEqDiff, Nat.reduceAdd, Nat.reduceSub, Nat.reduceLT, Nat.reduceLeDiff, Nat.reduceBEq, Nat.reduceMul, Nat.reduceBNe, Int.reduceEq, Int.reduceLT, Int.reduceLE, Int.reduceNe, Int.reduceToNat, ir_usufructlaw21_WorldNets_B2, netsE, hc, kmap_ids, kmap_ren, ro_cmd, ro_rep, ro_nm, ro_act, i00, i01, i02, i03, i04, i05, i06, i07]
    | wm gc gk c k => exact hn.elim
  · cases w with
    | w0 =>
      rcases hn with rfl | ⟨g', c', rfl⟩
      · simp only [sto0, sto1, sto2, sto3, stom, rowC, rowR, rowK, List.cons_append, List.nil_append, List.append_nil, List.length_cons, List.length_nil, Nat.zero_add, Nat.reduceAdd, mrg00, mrg01, mrg11, mrg12, mrg13, mrg22, mrg23, mrg33, RepT.cells, nets38, hk] at hc ⊢
        simp -implicitDefEqProofs only [go_sem, reduceIte, reduceCtorEq, Nat.reduceEqDiff, Nat.reduceAdd, Nat.reduceSub, Nat.reduceLT, Nat.reduceLeDiff, Nat.reduceBEq, Nat.reduceMul, Nat.reduceBNe, Int.reduceEq, Int.reduceLT, Int.reduceLE, Int.reduceNe, Int.reduceToNat, ir_usufructlaw21_WorldNets_B2, netsE, hc, kmap_ids, kmap_ren, ro_cmd, ro_rep, ro_nm, ro_act, i10, i11, i12, i13, i14, i15, i16, i17]
      · simp only [sto0, sto1, sto2, sto3, stom, rowC, rowR, rowK, List.cons_append, List.nil_append, List.append_nil, List.length_cons, List.length_nil, Nat.zero_add, Nat.reduceAdd, mrg00, mrg01, mrg11, mrg12, mrg13, mrg22, mrg23, mrg33, RepT.cells, nets38, hk] at hc ⊢
        simp -implicitDefEqProofs only [go_sem, reduceIte, reduceCtorEq, Nat.reduceEqDiff, Nat.reduceAdd, Nat.reduceSub, Nat.reduceLT, Nat.reduceLeDiff, Nat.reduceBEq, Nat.reduceMul, Nat.reduceBNe, Int.reduceEq, Int.reduceLT, Int.reduceLE, Int.reduceNe, Int.reduceToNat, ir_usufructlaw21_WorldNets_B2, netsE, hc, kmap_ids, kmap_ren, ro_cmd, ro_rep, ro_nm, ro_act, i10, i11, i12, i13, i14, i15, i16, i17]
    | w1 gc c =>
      rcases hn with ⟨g', c', rfl⟩ | ⟨g', h', c', r', rfl⟩ | ⟨g', h', j', c', r', k', rfl⟩
      · simp only [sto0, sto1, sto2, sto3, stom, rowC, rowR, rowK, List.cons_append, List.nil_append, List.append_nil, List.length_cons, List.length_nil, Nat.zero_add, Nat.reduceAdd, mrg00, mrg01, mrg11, mrg12, mrg13, mrg22, mrg23, mrg33, RepT.cells, nets38, hk] at hc ⊢
        simp -implicitDefEqProofs only [go_sem, reduceIte, reduceCtorEq, Nat.reduceEqDiff, Nat.reduceAdd, Nat.reduceSub, Nat.reduceLT, Nat.reduceLeDiff, Nat.reduceBEq, Nat.reduceMul, Nat.reduceBNe, Int.reduceEq, Int.reduceLT, Int.reduceLE, Int.reduceNe, Int.reduceToNat, ir_usufructlaw21_WorldNets_B2, netsE, hc, kmap_ids, kmap_ren, ro_cmd, ro_rep, ro_nm, ro_act, i10, i11, i12, i13, i14, i15, i16, i17]
      · simp only [sto0, sto1, sto2, sto3, stom, rowC, rowR, rowK, List.cons_append, List.nil_append, List.append_nil, List.length_cons, List.length_nil, Nat.zero_add, Nat.reduceAdd, mrg00, mrg01, mrg11, mrg12, mrg13, mrg22, mrg23, mrg33, RepT.cells, nets38, hk] at hc ⊢
        simp -implicitDefEqProofs only [go_sem, reduceIte, reduceCtorEq, Nat.reduceEqDiff, Nat.reduceAdd, Nat.reduceSub, Nat.reduceLT, Nat.reduceLeDiff, Nat.reduceBEq, Nat.reduceMul, Nat.reduceBNe, Int.reduceEq, Int.reduceLT, Int.reduceLE, Int.reduceNe, Int.reduceToNat, ir_usufructlaw21_WorldNets_B2, netsE, hc, kmap_ids, kmap_ren, ro_cmd, ro_rep, ro_nm, ro_act, i10, i11, i12, i13, i14, i15, i16, i17]
      · simp only [sto0, sto1, sto2, sto3, stom, rowC, rowR, rowK, List.cons_append, List.nil_append, List.append_nil, List.length_cons, List.length_nil, Nat.zero_add, Nat.reduceAdd, mrg00, mrg01, mrg11, mrg12, mrg13, mrg22, mrg23, mrg33, RepT.cells, nets38, hk] at hc ⊢
        simp -implicitDefEqProofs only [go_sem, reduceIte, reduceCtorEq, Nat.reduceEqDiff, Nat.reduceAdd, Nat.reduceSub, Nat.reduceLT, Nat.reduceLeDiff, Nat.reduceBEq, Nat.reduceMul, Nat.reduceBNe, Int.reduceEq, Int.reduceLT, Int.reduceLE, Int.reduceNe, Int.reduceToNat, ir_usufructlaw21_WorldNets_B2, netsE, hc, kmap_ids, kmap_ren, ro_cmd, ro_rep, ro_nm, ro_act, i10, i11, i12, i13, i14, i15, i16, i17]
    | w2 gc gr c r2 =>
      rcases hn with ⟨g', h', c', r', rfl⟩ | ⟨g', h', j', c', r', k', rfl⟩
      · simp only [sto0, sto1, sto2, sto3, stom, rowC, rowR, rowK, List.cons_append, List.nil_append, List.append_nil, List.length_cons, List.length_nil, Nat.zero_add, Nat.reduceAdd, mrg00, mrg01, mrg11, mrg12, mrg13, mrg22, mrg23, mrg33, RepT.cells, nets38, hk] at hc ⊢
        simp -implicitDefEqProofs only [go_sem, reduceIte, reduceCtorEq, Nat.reduceEqDiff, Nat.reduceAdd, Nat.reduceSub, Nat.reduceLT, Nat.reduceLeDiff, Nat.reduceBEq, Nat.reduceMul, Nat.reduceBNe, Int.reduceEq, Int.reduceLT, Int.reduceLE, Int.reduceNe, Int.reduceToNat, ir_usufructlaw21_WorldNets_B2, netsE, hc, kmap_ids, kmap_ren, ro_cmd, ro_rep, ro_nm, ro_act, i10, i11, i12, i13, i14, i15, i16, i17]
      · simp only [sto0, sto1, sto2, sto3, stom, rowC, rowR, rowK, List.cons_append, List.nil_append, List.append_nil, List.length_cons, List.length_nil, Nat.zero_add, Nat.reduceAdd, mrg00, mrg01, mrg11, mrg12, mrg13, mrg22, mrg23, mrg33, RepT.cells, nets38, hk] at hc ⊢
        simp -implicitDefEqProofs only [go_sem, reduceIte, reduceCtorEq, Nat.reduceEqDiff, Nat.reduceAdd, Nat.reduceSub, Nat.reduceLT, Nat.reduceLeDiff, Nat.reduceBEq, Nat.reduceMul, Nat.reduceBNe, Int.reduceEq, Int.reduceLT, Int.reduceLE, Int.reduceNe, Int.reduceToNat, ir_usufructlaw21_WorldNets_B2, netsE, hc, kmap_ids, kmap_ren, ro_cmd, ro_rep, ro_nm, ro_act, i10, i11, i12, i13, i14, i15, i16, i17]
    | w3 gc gr gk c r2 k =>
      obtain ⟨g', h', j', c', r', k', rfl⟩ := hn
      simp only [sto0, sto1, sto2, sto3, stom, rowC, rowR, rowK, List.cons_append, List.nil_append, List.append_nil, List.length_cons, List.length_nil, Nat.zero_add, Nat.reduceAdd, mrg00, mrg01, mrg11, mrg12, mrg13, mrg22, mrg23, mrg33, RepT.cells, nets38, hk] at hc ⊢
      simp -implicitDefEqProofs only [go_sem, reduceIte, reduceCtorEq, Nat.reduceEqDiff, Nat.reduceAdd, Nat.reduceSub, Nat.reduceLT, Nat.reduceLeDiff, Nat.reduceBEq, Nat.reduceMul, Nat.reduceBNe, Int.reduceEq, Int.reduceLT, Int.reduceLE, Int.reduceNe, Int.reduceToNat, ir_usufructlaw21_WorldNets_B2, netsE, hc, kmap_ids, kmap_ren, ro_cmd, ro_rep, ro_nm, ro_act, i10, i11, i12, i13, i14, i15, i16, i17]
    | wm gc gk c k => exact hn.elim
set_option maxHeartbeats 1000000 in
theorem nets_lose (x : Sl ActT) (i : Nat) (n sg : Int) (stp : ByteArray) (a : ActT) {w w' : Wd} (hn : Nx w w') (e : Int) (hc : callL E f_world_World_Lose [.ref 0 0 0 0, vi a.n] [] w.sto = some (vi e, w'.sto)) (hk : a.k = 4) :
    IR.runL E.glob (callL E) [] ir_usufructlaw21_WorldNets_B2 (nets38 x i n sg stp a w.sto.length) (w.sto ++ [.box [vi a.k, vi a.n, cmv a.l, vb a.good, vb a.more]]) = some (.norm, netsE x i n sg stp, mrg w w' (.box [vi a.k, vi a.n, cmv a.l, vb a.good, vb a.more])) := by
  cases w with
  | w0 =>
    rcases hn with rfl | ⟨g', c', rfl⟩
    · simp only [sto0, sto1, sto2, sto3, stom, rowC, rowR, rowK, List.cons_append, List.nil_append, List.append_nil, List.length_cons, List.length_nil, Nat.zero_add, Nat.reduceAdd, mrg00, mrg01, mrg11, mrg12, mrg13, mrg22, mrg23, mrg33, RepT.cells, nets38, hk] at hc ⊢
      simp -implicitDefEqProofs only [go_sem, reduceIte, reduceCtorEq, Nat.reduceEqDiff, Nat.reduceAdd, Nat.reduceSub, Nat.reduceLT, Nat.reduceLeDiff, Nat.reduceBEq, Nat.reduceMul, Nat.reduceBNe, Int.reduceEq, Int.reduceLT, Int.reduceLE, Int.reduceNe, Int.reduceToNat, ir_usufructlaw21_WorldNets_B2, netsE, hc, kmap_ids, kmap_ren, ro_cmd, ro_rep, ro_nm, ro_act, i40, i41, i42, i43, i44, i45, i46, i47]
    · simp only [sto0, sto1, sto2, sto3, stom, rowC, rowR, rowK, List.cons_append, List.nil_append, List.append_nil, List.length_cons, List.length_nil, Nat.zero_add, Nat.reduceAdd, mrg00, mrg01, mrg11, mrg12, mrg13, mrg22, mrg23, mrg33, RepT.cells, nets38, hk] at hc ⊢
      simp -implicitDefEqProofs only [go_sem, reduceIte, reduceCtorEq, Nat.reduceEqDiff, Nat.reduceAdd, Nat.reduceSub, Nat.reduceLT, Nat.reduceLeDiff, Nat.reduceBEq, Nat.reduceMul, Nat.reduceBNe, Int.reduceEq, Int.reduceLT, Int.reduceLE, Int.reduceNe, Int.reduceToNat, ir_usufructlaw21_WorldNets_B2, netsE, hc, kmap_ids, kmap_ren, ro_cmd, ro_rep, ro_nm, ro_act, i40, i41, i42, i43, i44, i45, i46, i47]
  | w1 gc c =>
    rcases hn with ⟨g', c', rfl⟩ | ⟨g', h', c', r', rfl⟩ | ⟨g', h', j', c', r', k', rfl⟩
    · simp only [sto0, sto1, sto2, sto3, stom, rowC, rowR, rowK, List.cons_append, List.nil_append, List.append_nil, List.length_cons, List.length_nil, Nat.zero_add, Nat.reduceAdd, mrg00, mrg01, mrg11, mrg12, mrg13, mrg22, mrg23, mrg33, RepT.cells, nets38, hk] at hc ⊢
      simp -implicitDefEqProofs only [go_sem, reduceIte, reduceCtorEq, Nat.reduceEqDiff, Nat.reduceAdd, Nat.reduceSub, Nat.reduceLT, Nat.reduceLeDiff, Nat.reduceBEq, Nat.reduceMul, Nat.reduceBNe, Int.reduceEq, Int.reduceLT, Int.reduceLE, Int.reduceNe, Int.reduceToNat, ir_usufructlaw21_WorldNets_B2, netsE, hc, kmap_ids, kmap_ren, ro_cmd, ro_rep, ro_nm, ro_act, i40, i41, i42, i43, i44, i45, i46, i47]
    · simp only [sto0, sto1, sto2, sto3, stom, rowC, rowR, rowK, List.cons_append, List.nil_append, List.append_nil, List.length_cons, List.length_nil, Nat.zero_add, Nat.reduceAdd, mrg00, mrg01, mrg11, mrg12, mrg13, mrg22, mrg23, mrg33, RepT.cells, nets38, hk] at hc ⊢
      simp -implicitDefEqProofs only [go_sem, reduceIte, reduceCtorEq, Nat.reduceEqDiff, Nat.reduceAdd, Nat.reduceSub, Nat.reduceLT, Nat.reduceLeDiff, Nat.reduceBEq, Nat.reduceMul, Nat.reduceBNe, Int.reduceEq, Int.reduceLT, Int.reduceLE, Int.reduceNe, Int.reduceToNat, ir_usufructlaw21_WorldNets_B2, netsE, hc, kmap_ids, kmap_ren, ro_cmd, ro_rep, ro_nm, ro_act, i40, i41, i42, i43, i44, i45, i46, i47]
    · simp only [sto0, sto1, sto2, sto3, stom, rowC, rowR, rowK, List.cons_append, List.nil_append, List.append_nil, List.length_cons, List.length_nil, Nat.zero_add, Nat.reduceAdd, mrg00, mrg01, mrg11, mrg12, mrg13, mrg22, mrg23, mrg33, RepT.cells, nets38, hk] at hc ⊢
      simp -implicitDefEqProofs only [go_sem, reduceIte, reduceCtorEq, Nat.reduceEqDiff, Nat.reduceAdd, Nat.reduceSub, Nat.reduceLT, Nat.reduceLeDiff, Nat.reduceBEq, Nat.reduceMul, Nat.reduceBNe, Int.reduceEq, Int.reduceLT, Int.reduceLE, Int.reduceNe, Int.reduceToNat, ir_usufructlaw21_WorldNets_B2, netsE, hc, kmap_ids, kmap_ren, ro_cmd, ro_rep, ro_nm, ro_act, i40, i41, i42, i43, i44, i45, i46, i47]
  | w2 gc gr c r2 =>
    rcases hn with ⟨g', h', c', r', rfl⟩ | ⟨g', h', j', c', r', k', rfl⟩
    · simp only [sto0, sto1, sto2, sto3, stom, rowC, rowR, rowK, List.cons_append, List.nil_append, List.append_nil, List.length_cons, List.length_nil, Nat.zero_add, Nat.reduceAdd, mrg00, mrg01, mrg11, mrg12, mrg13, mrg22, mrg23, mrg33, RepT.cells, nets38, hk] at hc ⊢
      simp -implicitDefEqProofs only [go_sem, reduceIte, reduceCtorEq, Nat.reduceEqDiff, Nat.reduceAdd, Nat.reduceSub, Nat.reduceLT, Nat.reduceLeDiff, Nat.reduceBEq, Nat.reduceMul, Nat.reduceBNe, Int.reduceEq, Int.reduceLT, Int.reduceLE, Int.reduceNe, Int.reduceToNat, ir_usufructlaw21_WorldNets_B2, netsE, hc, kmap_ids, kmap_ren, ro_cmd, ro_rep, ro_nm, ro_act, i40, i41, i42, i43, i44, i45, i46, i47]
    · simp only [sto0, sto1, sto2, sto3, stom, rowC, rowR, rowK, List.cons_append, List.nil_append, List.append_nil, List.length_cons, List.length_nil, Nat.zero_add, Nat.reduceAdd, mrg00, mrg01, mrg11, mrg12, mrg13, mrg22, mrg23, mrg33, RepT.cells, nets38, hk] at hc ⊢
      simp -implicitDefEqProofs only [go_sem, reduceIte, reduceCtorEq, Nat.reduceEqDiff, Nat.reduceAdd, Nat.reduceSub, Nat.reduceLT, Nat.reduceLeDiff, Nat.reduceBEq, Nat.reduceMul, Nat.reduceBNe, Int.reduceEq, Int.reduceLT, Int.reduceLE, Int.reduceNe, Int.reduceToNat, ir_usufructlaw21_WorldNets_B2, netsE, hc, kmap_ids, kmap_ren, ro_cmd, ro_rep, ro_nm, ro_act, i40, i41, i42, i43, i44, i45, i46, i47]
  | w3 gc gr gk c r2 k =>
    obtain ⟨g', h', j', c', r', k', rfl⟩ := hn
    simp only [sto0, sto1, sto2, sto3, stom, rowC, rowR, rowK, List.cons_append, List.nil_append, List.append_nil, List.length_cons, List.length_nil, Nat.zero_add, Nat.reduceAdd, mrg00, mrg01, mrg11, mrg12, mrg13, mrg22, mrg23, mrg33, RepT.cells, nets38, hk] at hc ⊢
    simp -implicitDefEqProofs only [go_sem, reduceIte, reduceCtorEq, Nat.reduceEqDiff, Nat.reduceAdd, Nat.reduceSub, Nat.reduceLT, Nat.reduceLeDiff, Nat.reduceBEq, Nat.reduceMul, Nat.reduceBNe, Int.reduceEq, Int.reduceLT, Int.reduceLE, Int.reduceNe, Int.reduceToNat, ir_usufructlaw21_WorldNets_B2, netsE, hc, kmap_ids, kmap_ren, ro_cmd, ro_rep, ro_nm, ro_act, i40, i41, i42, i43, i44, i45, i46, i47]
  | wm gc gk c k => exact hn.elim
set_option maxHeartbeats 1000000 in
theorem nets_loseR (x : Sl ActT) (i : Nat) (n sg : Int) (stp : ByteArray) (a : ActT) {w w' : Wd} (hn : Nx w w') (n' : Int) (hw : IntKind.i64.wrap (n - 1) = n') (hc : callL E f_world_World_LoseReply [.ref 0 0 0 0, vi a.n] [] w.sto = some (vi 0, w'.sto)) (hk : a.k = 7) :
    IR.runL E.glob (callL E) [] ir_usufructlaw21_WorldNets_B2 (nets38 x i n sg stp a w.sto.length) (w.sto ++ [.box [vi a.k, vi a.n, cmv a.l, vb a.good, vb a.more]]) = some (.norm, netsE x i n' sg stp, mrg w w' (.box [vi a.k, vi a.n, cmv a.l, vb a.good, vb a.more])) := by
  cases w with
  | w0 =>
    rcases hn with rfl | ⟨g', c', rfl⟩
    · simp only [sto0, sto1, sto2, sto3, stom, rowC, rowR, rowK, List.cons_append, List.nil_append, List.append_nil, List.length_cons, List.length_nil, Nat.zero_add, Nat.reduceAdd, mrg00, mrg01, mrg11, mrg12, mrg13, mrg22, mrg23, mrg33, RepT.cells, nets38, hk] at hc ⊢
      simp -implicitDefEqProofs only [go_sem, reduceIte, reduceCtorEq, Nat.reduceEqDiff, Nat.reduceAdd, Nat.reduceSub, Nat.reduceLT, Nat.reduceLeDiff, Nat.reduceBEq, Nat.reduceMul, Nat.reduceBNe, Int.reduceEq, Int.reduceLT, Int.reduceLE, Int.reduceNe, Int.reduceToNat, ir_usufructlaw21_WorldNets_B2, netsE, hc, kmap_ids, kmap_ren, ro_cmd, ro_rep, ro_nm, ro_act, hw, i70, i71, i72, i73, i74, i75, i76, i77]
    · simp only [sto0, sto1, sto2, sto3, stom, rowC, rowR, rowK, List.cons_append, List.nil_append, List.append_nil, List.length_cons, List.length_nil, Nat.zero_add, Nat.reduceAdd, mrg00, mrg01, mrg11, mrg12, mrg13, mrg22, mrg23, mrg33, RepT.cells, nets38, hk] at hc ⊢
      simp -implicitDefEqProofs only [go_sem, reduceIte, reduceCtorEq, Nat.reduceEqDiff, Nat.reduceAdd, Nat.reduceSub, Nat.reduceLT, Nat.reduceLeDiff, Nat.reduceBEq, Nat.reduceMul, Nat.reduceBNe, Int.reduceEq, Int.reduceLT, Int.reduceLE, Int.reduceNe, Int.reduceToNat, ir_usufructlaw21_WorldNets_B2, netsE, hc, kmap_ids, kmap_ren, ro_cmd, ro_rep, ro_nm, ro_act, hw, i70, i71, i72, i73, i74, i75, i76, i77]
  | w1 gc c =>
    rcases hn with ⟨g', c', rfl⟩ | ⟨g', h', c', r', rfl⟩ | ⟨g', h', j', c', r', k', rfl⟩
    · simp only [sto0, sto1, sto2, sto3, stom, rowC, rowR, rowK, List.cons_append, List.nil_append, List.append_nil, List.length_cons, List.length_nil, Nat.zero_add, Nat.reduceAdd, mrg00, mrg01, mrg11, mrg12, mrg13, mrg22, mrg23, mrg33, RepT.cells, nets38, hk] at hc ⊢
      simp -implicitDefEqProofs only [go_sem, reduceIte, reduceCtorEq, Nat.reduceEqDiff, Nat.reduceAdd, Nat.reduceSub, Nat.reduceLT, Nat.reduceLeDiff, Nat.reduceBEq, Nat.reduceMul, Nat.reduceBNe, Int.reduceEq, Int.reduceLT, Int.reduceLE, Int.reduceNe, Int.reduceToNat, ir_usufructlaw21_WorldNets_B2, netsE, hc, kmap_ids, kmap_ren, ro_cmd, ro_rep, ro_nm, ro_act, hw, i70, i71, i72, i73, i74, i75, i76, i77]
    · simp only [sto0, sto1, sto2, sto3, stom, rowC, rowR, rowK, List.cons_append, List.nil_append, List.append_nil, List.length_cons, List.length_nil, Nat.zero_add, Nat.reduceAdd, mrg00, mrg01, mrg11, mrg12, mrg13, mrg22, mrg23, mrg33, RepT.cells, nets38, hk] at hc ⊢
      simp -implicitDefEqProofs only [go_sem, reduceIte, reduceCtorEq, Nat.reduceEqDiff, Nat.reduceAdd, Nat.reduceSub, Nat.reduceLT, Nat.reduceLeDiff, Nat.reduceBEq, Nat.reduceMul, Nat.reduceBNe, Int.reduceEq, Int.reduceLT, Int.reduceLE, Int.reduceNe, Int.reduceToNat, ir_usufructlaw21_WorldNets_B2, netsE, hc, kmap_ids, kmap_ren, ro_cmd, ro_rep, ro_nm, ro_act, hw, i70, i71, i72, i73, i74, i75, i76, i77]
    · simp only [sto0, sto1, sto2, sto3, stom, rowC, rowR, rowK, List.cons_append, List.nil_append, List.append_nil, List.length_cons, List.length_nil, Nat.zero_add, Nat.reduceAdd, mrg00, mrg01, mrg11, mrg12, mrg13, mrg22, mrg23, mrg33, RepT.cells, nets38, hk] at hc ⊢
      simp -implicitDefEqProofs only [go_sem, reduceIte, reduceCtorEq, Nat.reduceEqDiff, Nat.reduceAdd, Nat.reduceSub, Nat.reduceLT, Nat.reduceLeDiff, Nat.reduceBEq, Nat.reduceMul, Nat.reduceBNe, Int.reduceEq, Int.reduceLT, Int.reduceLE, Int.reduceNe, Int.reduceToNat, ir_usufructlaw21_WorldNets_B2, netsE, hc, kmap_ids, kmap_ren, ro_cmd, ro_rep, ro_nm, ro_act, hw, i70, i71, i72, i73, i74, i75, i76, i77]
  | w2 gc gr c r2 =>
    rcases hn with ⟨g', h', c', r', rfl⟩ | ⟨g', h', j', c', r', k', rfl⟩
    · simp only [sto0, sto1, sto2, sto3, stom, rowC, rowR, rowK, List.cons_append, List.nil_append, List.append_nil, List.length_cons, List.length_nil, Nat.zero_add, Nat.reduceAdd, mrg00, mrg01, mrg11, mrg12, mrg13, mrg22, mrg23, mrg33, RepT.cells, nets38, hk] at hc ⊢
      simp -implicitDefEqProofs only [go_sem, reduceIte, reduceCtorEq, Nat.reduceEqDiff, Nat.reduceAdd, Nat.reduceSub, Nat.reduceLT, Nat.reduceLeDiff, Nat.reduceBEq, Nat.reduceMul, Nat.reduceBNe, Int.reduceEq, Int.reduceLT, Int.reduceLE, Int.reduceNe, Int.reduceToNat, ir_usufructlaw21_WorldNets_B2, netsE, hc, kmap_ids, kmap_ren, ro_cmd, ro_rep, ro_nm, ro_act, hw, i70, i71, i72, i73, i74, i75, i76, i77]
    · simp only [sto0, sto1, sto2, sto3, stom, rowC, rowR, rowK, List.cons_append, List.nil_append, List.append_nil, List.length_cons, List.length_nil, Nat.zero_add, Nat.reduceAdd, mrg00, mrg01, mrg11, mrg12, mrg13, mrg22, mrg23, mrg33, RepT.cells, nets38, hk] at hc ⊢
      simp -implicitDefEqProofs only [go_sem, reduceIte, reduceCtorEq, Nat.reduceEqDiff, Nat.reduceAdd, Nat.reduceSub, Nat.reduceLT, Nat.reduceLeDiff, Nat.reduceBEq, Nat.reduceMul, Nat.reduceBNe, Int.reduceEq, Int.reduceLT, Int.reduceLE, Int.reduceNe, Int.reduceToNat, ir_usufructlaw21_WorldNets_B2, netsE, hc, kmap_ids, kmap_ren, ro_cmd, ro_rep, ro_nm, ro_act, hw, i70, i71, i72, i73, i74, i75, i76, i77]
  | w3 gc gr gk c r2 k =>
    obtain ⟨g', h', j', c', r', k', rfl⟩ := hn
    simp only [sto0, sto1, sto2, sto3, stom, rowC, rowR, rowK, List.cons_append, List.nil_append, List.append_nil, List.length_cons, List.length_nil, Nat.zero_add, Nat.reduceAdd, mrg00, mrg01, mrg11, mrg12, mrg13, mrg22, mrg23, mrg33, RepT.cells, nets38, hk] at hc ⊢
    simp -implicitDefEqProofs only [go_sem, reduceIte, reduceCtorEq, Nat.reduceEqDiff, Nat.reduceAdd, Nat.reduceSub, Nat.reduceLT, Nat.reduceLeDiff, Nat.reduceBEq, Nat.reduceMul, Nat.reduceBNe, Int.reduceEq, Int.reduceLT, Int.reduceLE, Int.reduceNe, Int.reduceToNat, ir_usufructlaw21_WorldNets_B2, netsE, hc, kmap_ids, kmap_ren, ro_cmd, ro_rep, ro_nm, ro_act, hw, i70, i71, i72, i73, i74, i75, i76, i77]
  | wm gc gk c k => exact hn.elim
set_option maxHeartbeats 1000000 in
theorem nets_loseRNo (x : Sl ActT) (i : Nat) (n sg : Int) (stp : ByteArray) (a : ActT) {w w' : Wd} (hn : Nx w w') (hc : callL E f_world_World_LoseReply [.ref 0 0 0 0, vi a.n] [] w.sto = some (vi 7, w'.sto)) (hk : a.k = 7) :
    IR.runL E.glob (callL E) [] ir_usufructlaw21_WorldNets_B2 (nets38 x i n sg stp a w.sto.length) (w.sto ++ [.box [vi a.k, vi a.n, cmv a.l, vb a.good, vb a.more]]) = some (.norm, netsE x i n sg stp, mrg w w' (.box [vi a.k, vi a.n, cmv a.l, vb a.good, vb a.more])) := by
  cases w with
  | w0 =>
    rcases hn with rfl | ⟨g', c', rfl⟩
    · simp only [sto0, sto1, sto2, sto3, stom, rowC, rowR, rowK, List.cons_append, List.nil_append, List.append_nil, List.length_cons, List.length_nil, Nat.zero_add, Nat.reduceAdd, mrg00, mrg01, mrg11, mrg12, mrg13, mrg22, mrg23, mrg33, RepT.cells, nets38, hk] at hc ⊢
      simp -implicitDefEqProofs only [go_sem, reduceIte, reduceCtorEq, Nat.reduceEqDiff, Nat.reduceAdd, Nat.reduceSub, Nat.reduceLT, Nat.reduceLeDiff, Nat.reduceBEq, Nat.reduceMul, Nat.reduceBNe, Int.reduceEq, Int.reduceLT, Int.reduceLE, Int.reduceNe, Int.reduceToNat, ir_usufructlaw21_WorldNets_B2, netsE, hc, kmap_ids, kmap_ren, ro_cmd, ro_rep, ro_nm, ro_act, i70, i70, i71, i72, i73, i74, i75, i76, i77]
    · simp only [sto0, sto1, sto2, sto3, stom, rowC, rowR, rowK, List.cons_append, List.nil_append, List.append_nil, List.length_cons, List.length_nil, Nat.zero_add, Nat.reduceAdd, mrg00, mrg01, mrg11, mrg12, mrg13, mrg22, mrg23, mrg33, RepT.cells, nets38, hk] at hc ⊢
      simp -implicitDefEqProofs only [go_sem, reduceIte, reduceCtorEq, Nat.reduceEqDiff, Nat.reduceAdd, Nat.reduceSub, Nat.reduceLT, Nat.reduceLeDiff, Nat.reduceBEq, Nat.reduceMul, Nat.reduceBNe, Int.reduceEq, Int.reduceLT, Int.reduceLE, Int.reduceNe, Int.reduceToNat, ir_usufructlaw21_WorldNets_B2, netsE, hc, kmap_ids, kmap_ren, ro_cmd, ro_rep, ro_nm, ro_act, i70, i70, i71, i72, i73, i74, i75, i76, i77]
  | w1 gc c =>
    rcases hn with ⟨g', c', rfl⟩ | ⟨g', h', c', r', rfl⟩ | ⟨g', h', j', c', r', k', rfl⟩
    · simp only [sto0, sto1, sto2, sto3, stom, rowC, rowR, rowK, List.cons_append, List.nil_append, List.append_nil, List.length_cons, List.length_nil, Nat.zero_add, Nat.reduceAdd, mrg00, mrg01, mrg11, mrg12, mrg13, mrg22, mrg23, mrg33, RepT.cells, nets38, hk] at hc ⊢
      simp -implicitDefEqProofs only [go_sem, reduceIte, reduceCtorEq, Nat.reduceEqDiff, Nat.reduceAdd, Nat.reduceSub, Nat.reduceLT, Nat.reduceLeDiff, Nat.reduceBEq, Nat.reduceMul, Nat.reduceBNe, Int.reduceEq, Int.reduceLT, Int.reduceLE, Int.reduceNe, Int.reduceToNat, ir_usufructlaw21_WorldNets_B2, netsE, hc, kmap_ids, kmap_ren, ro_cmd, ro_rep, ro_nm, ro_act, i70, i70, i71, i72, i73, i74, i75, i76, i77]
    · simp only [sto0, sto1, sto2, sto3, stom, rowC, rowR, rowK, List.cons_append, List.nil_append, List.append_nil, List.length_cons, List.length_nil, Nat.zero_add, Nat.reduceAdd, mrg00, mrg01, mrg11, mrg12, mrg13, mrg22, mrg23, mrg33, RepT.cells, nets38, hk] at hc ⊢
      simp -implicitDefEqProofs only [go_sem, reduceIte, reduceCtorEq, Nat.reduceEqDiff, Nat.reduceAdd, Nat.reduceSub, Nat.reduceLT, Nat.reduceLeDiff, Nat.reduceBEq, Nat.reduceMul, Nat.reduceBNe, Int.reduceEq, Int.reduceLT, Int.reduceLE, Int.reduceNe, Int.reduceToNat, ir_usufructlaw21_WorldNets_B2, netsE, hc, kmap_ids, kmap_ren, ro_cmd, ro_rep, ro_nm, ro_act, i70, i70, i71, i72, i73, i74, i75, i76, i77]
    · simp only [sto0, sto1, sto2, sto3, stom, rowC, rowR, rowK, List.cons_append, List.nil_append, List.append_nil, List.length_cons, List.length_nil, Nat.zero_add, Nat.reduceAdd, mrg00, mrg01, mrg11, mrg12, mrg13, mrg22, mrg23, mrg33, RepT.cells, nets38, hk] at hc ⊢
      simp -implicitDefEqProofs only [go_sem, reduceIte, reduceCtorEq, Nat.reduceEqDiff, Nat.reduceAdd, Nat.reduceSub, Nat.reduceLT, Nat.reduceLeDiff, Nat.reduceBEq, Nat.reduceMul, Nat.reduceBNe, Int.reduceEq, Int.reduceLT, Int.reduceLE, Int.reduceNe, Int.reduceToNat, ir_usufructlaw21_WorldNets_B2, netsE, hc, kmap_ids, kmap_ren, ro_cmd, ro_rep, ro_nm, ro_act, i70, i70, i71, i72, i73, i74, i75, i76, i77]
  | w2 gc gr c r2 =>
    rcases hn with ⟨g', h', c', r', rfl⟩ | ⟨g', h', j', c', r', k', rfl⟩
    · simp only [sto0, sto1, sto2, sto3, stom, rowC, rowR, rowK, List.cons_append, List.nil_append, List.append_nil, List.length_cons, List.length_nil, Nat.zero_add, Nat.reduceAdd, mrg00, mrg01, mrg11, mrg12, mrg13, mrg22, mrg23, mrg33, RepT.cells, nets38, hk] at hc ⊢
      simp -implicitDefEqProofs only [go_sem, reduceIte, reduceCtorEq, Nat.reduceEqDiff, Nat.reduceAdd, Nat.reduceSub, Nat.reduceLT, Nat.reduceLeDiff, Nat.reduceBEq, Nat.reduceMul, Nat.reduceBNe, Int.reduceEq, Int.reduceLT, Int.reduceLE, Int.reduceNe, Int.reduceToNat, ir_usufructlaw21_WorldNets_B2, netsE, hc, kmap_ids, kmap_ren, ro_cmd, ro_rep, ro_nm, ro_act, i70, i70, i71, i72, i73, i74, i75, i76, i77]
    · simp only [sto0, sto1, sto2, sto3, stom, rowC, rowR, rowK, List.cons_append, List.nil_append, List.append_nil, List.length_cons, List.length_nil, Nat.zero_add, Nat.reduceAdd, mrg00, mrg01, mrg11, mrg12, mrg13, mrg22, mrg23, mrg33, RepT.cells, nets38, hk] at hc ⊢
      simp -implicitDefEqProofs only [go_sem, reduceIte, reduceCtorEq, Nat.reduceEqDiff, Nat.reduceAdd, Nat.reduceSub, Nat.reduceLT, Nat.reduceLeDiff, Nat.reduceBEq, Nat.reduceMul, Nat.reduceBNe, Int.reduceEq, Int.reduceLT, Int.reduceLE, Int.reduceNe, Int.reduceToNat, ir_usufructlaw21_WorldNets_B2, netsE, hc, kmap_ids, kmap_ren, ro_cmd, ro_rep, ro_nm, ro_act, i70, i70, i71, i72, i73, i74, i75, i76, i77]
  | w3 gc gr gk c r2 k =>
    obtain ⟨g', h', j', c', r', k', rfl⟩ := hn
    simp only [sto0, sto1, sto2, sto3, stom, rowC, rowR, rowK, List.cons_append, List.nil_append, List.append_nil, List.length_cons, List.length_nil, Nat.zero_add, Nat.reduceAdd, mrg00, mrg01, mrg11, mrg12, mrg13, mrg22, mrg23, mrg33, RepT.cells, nets38, hk] at hc ⊢
    simp -implicitDefEqProofs only [go_sem, reduceIte, reduceCtorEq, Nat.reduceEqDiff, Nat.reduceAdd, Nat.reduceSub, Nat.reduceLT, Nat.reduceLeDiff, Nat.reduceBEq, Nat.reduceMul, Nat.reduceBNe, Int.reduceEq, Int.reduceLT, Int.reduceLE, Int.reduceNe, Int.reduceToNat, ir_usufructlaw21_WorldNets_B2, netsE, hc, kmap_ids, kmap_ren, ro_cmd, ro_rep, ro_nm, ro_act, i70, i70, i71, i72, i73, i74, i75, i76, i77]
  | wm gc gk c k => exact hn.elim
end Go.Proofs.YtbpndomfipdhdaaDoor.Ev
