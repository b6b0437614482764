/-
  A world's ways: leaving, marking, asking.
-/
import Derived.Test.YtbpndomfipdhdaaDoorEvWk1
import Derived.Test.YtbpndomfipdhdaaDoorEvCopy
set_option linter.unusedVariables false
set_option linter.unusedSimpArgs false
namespace Go.Proofs.YtbpndomfipdhdaaDoor.Ev
attribute [local congr] bind_congr_head
attribute [local go_sem] opd_t opd_c opd_g opd_f opds_nil opds_cons get_cons put_some put_none keep_nil keepC_s keepC_n keep_cons runs_nil runs_cons run_op run_opr run_call run_gand run_gor run_gif seqK_norm seqK_exit seqK_ret blkK_norm blkK_exit blkK_ret runL_skip runL_exit runL_ret runL_items runL_seq runL_cond runL_block runL_loop fin_bind finK_norm finK_ret rvs_nil rvs_cons rv_tmp rv_cell tupOf_one tupOf_nil tupOf_two ev_mov ev_pick ev_alloc ev_box ev_build parts_nil parts_cons fills_nil fills_cons ev_bsl ev_bslo ev_load ev_store ev_nilck ev_bin ev_binb ev_aeq ev_un ev_i2i ev_i2t ev_isnilI nilIF ev_s2b ev_ext ev_fld ev_idxs ev_fa ev_ias ev_len ev_lens ev_s2s ev_mkf ev_rng ev_nxt ev_app bOf_s pvOf_s agOf_s tpOf_s iOf_s sOf_s ite_bind Option.bind_some Option.bind_none if_true if_false ite_true ite_false argEnv_nil argEnv_cons len_av elems_av ias_av cells_av tuple_av AV.tuple AV.cells faF ldAt liveRef aggOf nilckF binV binI binS binB unV Bool.not_true Bool.not_false List.length_nil List.length_cons List.nil_append List.cons_append List.append_nil List.getElem?_cons_zero List.getElem?_cons_succ List.drop_zero List.drop_succ_cons List.drop_nil List.take_zero List.take_succ_cons List.take_nil List.set_cons_zero List.set_cons_succ compact_same compact_new closedB nodupB envIds ids0 upto visit pos sel AV.ids idss idsss Ob.ids AV.ren rens renss Ob.ren renEnv AV.snap snaps stAt okSt putCells List.all_nil List.all_cons List.contains_nil List.contains_cons Bool.and_true Bool.true_and Bool.and_false Bool.false_and Bool.or_true Bool.true_or Bool.or_false Bool.false_or decide_eq_true_eq decide_true decide_false beq_iff_eq bne_iff_ne beq_self_eq_true Bool.not_eq_true' Bool.false_eq_true eq_self and_self and_true true_and and_false false_and or_true true_or or_false false_or not_true_eq_false not_false_eq_true ne_eq Nat.zero_add Nat.add_zero Nat.le_refl Nat.not_lt_zero Nat.lt_irrefl Nat.zero_le Int.toNat_natCast gt_iff_lt ge_iff_le Int.lt_irrefl Int.natCast_nonneg txt_eq get_nil appF elems belows AV.under AV.flat flats List.length_map List.map_append List.map_cons List.map_nil List.length_append take_map_all List.flatten_cons List.flatten_nil bld_nil imp_false false_imp_iff false_implies true_implies implies_true decide_eq_false_iff_not Nat.one_mul Nat.mul_one idsss_app renss_app belowss_app ev_mn ev_mx ev_isnils ev_sls ev_slx evo_none evo_some vals minV maxV minF maxF backId List.getElem?_nil putAll Option.all_none Option.all_some Option.isSome_some intOf aszI compactV_same compactV_new callP_any callQ_eq callN_any boxQ AV.id? ids_avR ren_av under_av snap_av renss_mapf belowss_mapf idsss_mapf isnilsF List.length_eq_zero_iff int_beq int_bne decide_not slx_av Int.toNat_zero ev_mkm ev_lk ev_mup ev_mdl ev_lenm ev_isnilm mpOf_s mapAt_s mapOf_nil mapOf_mp isnilm_nil isnilm_mp lkR Option.getD_some Option.getD_none Option.isSome_none Prim.rdo ev_snp snp_own snp_v exQ_nil exQ_cons exA_ref same_nil same_box same_row same_map sameL_nil sameL_cons sameA_int sameA_bool sameA_str sameA_slice sameA_map sameA_ptr sameA_own sameA_ref sameA_mp callB_eq
def nmC (b : ByteArray) : List AV := [vs b]
theorem ro_nm : Ro nmC := fun _ => rfl
theorem ro_cmd : Ro CmdT.cells := fun _ => rfl
theorem ro_rep : Ro RepT.cells := fun _ => rfl
/-! ### the keys' places -/
theorem eqV_s (a b : ByteArray) : eqV .s (.string a) (.string b) = some (decide (a = b)) := by simp only [eqV, txt_eq]
def kmap : List ByteArray → Nat → List (Value × AV)
  | [], _ => []
  | k :: r, i => (.string k, vi i) :: kmap r (i + 1)
def kfnd (s : ByteArray) : List ByteArray → Nat → Option Int
  | [], _ => none
  | k :: r, i => if s = k then some (i : Int) else kfnd s r (i + 1)
theorem kmap_ids : ∀ (l : List ByteArray) (i : Nat), ((kmap l i).map fun p => p.2.ids).flatten = []
  | [], _ => rfl
  | k :: r, i => by simp only [kmap, List.map_cons, List.flatten_cons, kmap_ids r (i + 1)]; rfl
theorem kmap_ren (ρ : Nat → Nat) : ∀ (l : List ByteArray) (i : Nat), ((kmap l i).map fun p => (p.1, p.2.ren ρ)) = kmap l i
  | [], _ => rfl
  | k :: r, i => by simp only [kmap, List.map_cons, kmap_ren ρ r (i + 1)]; rfl
theorem kfind (s : ByteArray) : ∀ (l : List ByteArray) (i : Nat), mfind .s (.string s) (kmap l i) = some ((kfnd s l i).map fun n => vi n)
  | [], _ => rfl
  | k :: r, i => by
    have ih := kfind s r (i + 1)
    unfold kmap kfnd mfind
    by_cases c : s = k
    · subst c
      simp [eqV_s]
    · simp only [eqV_s, c, decide_false, if_false]
      exact ih
theorem kfnd_in (s : ByteArray) : ∀ (l : List ByteArray) (i : Nat), (kfnd s l i).isSome = decide (s ∈ l)
  | [], _ => by simp [kfnd]
  | k :: r, i => by
    unfold kfnd
    by_cases c : s = k
    · simp [c]
    · rw [if_neg c, kfnd_in s r (i + 1)]
      simp [c]
theorem kget (s : ByteArray) (l : List ByteArray) (i : Nat) : ((kfnd s l i).map fun n => vi n).getD (vi 0) = vi ((kfnd s l i).getD 0) := by cases kfnd s l i <;> rfl
def hasK (s : ByteArray) (l : List ByteArray) : Bool := (kfnd s l 0).isSome
theorem hasK_iff {s : ByteArray} {l : List ByteArray} : hasK s l = true ↔ s ∈ l := by rw [hasK, kfnd_in, decide_eq_true_eq]
theorem kin (s : ByteArray) (l : List ByteArray) : ((kfnd s l 0).map fun n => vi n).isSome = hasK s l := Option.isSome_map
theorem hasK_nil (s : ByteArray) : hasK s [] = false := rfl
theorem lenA_own (st : Store) (id gen off ln : Nat) : lenAV st (.own id gen off ln) = (match st[id]? with
    | some (.row _ g _ _) => if g = gen then some ln else none
    | _ => none) := rfl
theorem lenA_nil (st : Store) : lenAV st (.v (.slice none 0 0)) = some 0 := rfl
theorem kput (s : ByteArray) : ∀ (l : List ByteArray) (i : Nat), s ∉ l → mput .s (.string s) (vi ((i + l.length : Nat) : Int)) (kmap l i) = some (kmap (l ++ [s]) i)
  | [], i, _ => rfl
  | k :: r, i, h => by
    have hne : s ≠ k := fun e => h (by simp [e])
    have ih := kput s r (i + 1) (fun e => h (List.mem_cons_of_mem _ e))
    rw [show i + 1 + r.length = i + (k :: r).length by simp only [List.length_cons]; omega] at ih
    unfold kmap mput
    simp only [eqV_s, hne, decide_false, ih, List.cons_append]
/-! ### worlds -/
inductive Wd where
  | w0
  | w1 (gc : Nat) (c : List CmdT)
  | w2 (gc gr : Nat) (c : List CmdT) (r : List RepT)
  | w3 (gc gr gk : Nat) (c : List CmdT) (r : List RepT) (k : List ByteArray)
  /-- keys are there, replies not yet -/
  | wm (gc gk : Nat) (c : List CmdT) (k : List ByteArray)
def rowC (g : Nat) (c : List CmdT) : Ob := .row 6 g (c.map CmdT.cells) false
def rowR (g : Nat) (r : List RepT) : Ob := .row 5 g (r.map RepT.cells) false
def rowK (g : Nat) (k : List ByteArray) : Ob := .row 1 g (k.map nmC) false
def Wd.sto : Wd → Store
  | .w0 => [.box [.v (.slice none 0 0), .v (.slice none 0 0), .v (.map none), .v (.slice none 0 0)]]
  | .w1 gc c => [.box [.own 1 gc 0 c.length, .v (.slice none 0 0), .v (.map none), .v (.slice none 0 0)], rowC gc c]
  | .w2 gc gr c r => [.box [.own 1 gc 0 c.length, .own 2 gr 0 r.length, .v (.map none), .v (.slice none 0 0)], rowC gc c, rowR gr r]
  | .w3 gc gr gk c r k => [.box [.own 1 gc 0 c.length, .own 2 gr 0 r.length, .mp 3, .own 4 gk 0 k.length], rowC gc c, rowR gr r, .map (kmap k 0), rowK gk k]
  | .wm gc gk c k => [.box [.own 1 gc 0 c.length, .v (.slice none 0 0), .mp 2, .own 3 gk 0 k.length], rowC gc c, .map (kmap k 0), rowK gk k]
theorem sto0 : Wd.w0.sto = [.box [.v (.slice none 0 0), .v (.slice none 0 0), .v (.map none), .v (.slice none 0 0)]] := rfl
theorem sto1 (gc : Nat) (c : List CmdT) : (Wd.w1 gc c).sto = [.box [.own 1 gc 0 c.length, .v (.slice none 0 0), .v (.map none), .v (.slice none 0 0)], rowC gc c] := rfl
theorem sto2 (gc gr : Nat) (c : List CmdT) (r : List RepT) : (Wd.w2 gc gr c r).sto = [.box [.own 1 gc 0 c.length, .own 2 gr 0 r.length, .v (.map none), .v (.slice none 0 0)], rowC gc c, rowR gr r] := rfl
theorem sto3 (gc gr gk : Nat) (c : List CmdT) (r : List RepT) (k : List ByteArray) : (Wd.w3 gc gr gk c r k).sto = [.box [.own 1 gc 0 c.length, .own 2 gr 0 r.length, .mp 3, .own 4 gk 0 k.length], rowC gc c, rowR gr r, .map (kmap k 0), rowK gk k] := rfl
theorem stom (gc gk : Nat) (c : List CmdT) (k : List ByteArray) : (Wd.wm gc gk c k).sto = [.box [.own 1 gc 0 c.length, .v (.slice none 0 0), .mp 2, .own 3 gk 0 k.length], rowC gc c, .map (kmap k 0), rowK gk k] := rfl
def Wd.c : Wd → List CmdT
  | .w0 => []
  | .w1 _ c => c
  | .w2 _ _ c _ => c
  | .w3 _ _ _ c _ _ => c
  | .wm _ _ c _ => c
def Wd.r : Wd → List RepT
  | .w2 _ _ _ r => r
  | .w3 _ _ _ _ r _ => r
  | _ => []
def Wd.k : Wd → List ByteArray
  | .w3 _ _ _ _ _ k => k
  | .wm _ _ _ k => k
  | _ => []
def Wd.addC : Wd → CmdT → Wd
  | .w0, x => .w1 0 [x]
  | .w1 gc c, x => .w1 (gc + 1) (c ++ [x])
  | .w2 gc gr c r, x => .w2 (gc + 1) gr (c ++ [x]) r
  | .w3 gc gr gk c r k, x => .w3 (gc + 1) gr gk (c ++ [x]) r k
  | .wm gc gk c k, x => .wm (gc + 1) gk (c ++ [x]) k
def Wd.delC : Wd → Nat → Wd
  | .w0, _ => .w0
  | .w1 gc c, i => .w1 (gc + 1) (c.take i ++ c.drop (i + 1))
  | .w2 gc gr c r, i => .w2 (gc + 1) gr (c.take i ++ c.drop (i + 1)) r
  | .w3 gc gr gk c r k, i => .w3 (gc + 1) gr gk (c.take i ++ c.drop (i + 1)) r k
  | .wm gc gk c k, i => .wm (gc + 1) gk (c.take i ++ c.drop (i + 1)) k
def Wd.addR : Wd → RepT → Wd
  | .w0, _ => .w0
  | .w1 gc c, x => .w2 gc 0 c [x]
  | .w2 gc gr c r, x => .w2 gc (gr + 1) c (r ++ [x])
  | .w3 gc gr gk c r k, x => .w3 gc (gr + 1) gk c (r ++ [x]) k
  | .wm gc gk c k, x => .w3 gc 0 gk c [x] k
def Wd.delR : Wd → Nat → Wd
  | .w2 gc gr c r, i => .w2 gc (gr + 1) c (r.take i ++ r.drop (i + 1))
  | .w3 gc gr gk c r k, i => .w3 gc (gr + 1) gk c (r.take i ++ r.drop (i + 1)) k
  | w, _ => w
def Wd.mark : Wd → ByteArray → Wd
  | .w0, _ => .w0
  | .w1 gc c, s => .wm gc 0 c [s]
  | .w2 gc gr c r, s => .w3 gc gr 0 c r [s]
  | .w3 gc gr gk c r k, s => .w3 gc gr (gk + 1) c r (k ++ [s])
  | .wm gc gk c k, s => .wm gc (gk + 1) c (k ++ [s])
def ansOf (x : CmdT) (b : Bool) : RepT := ⟨x.saga, x.step, x.undo, x.tr, b⟩
/-- What is delivered. -/
def Wd.deliv (w : Wd) (n : Nat) (x : CmdT) (good more : Bool) : Wd :=
  if (good && !hasK x.key w.k) = true then (if more = true then (w.mark x.key).addR (ansOf x (hasK x.key (w.mark x.key).k)) else ((w.mark x.key).delC n).addR (ansOf x (hasK x.key ((w.mark x.key).delC n).k)))
  else if more = true then w.addR (ansOf x (hasK x.key w.k)) else (w.delC n).addR (ansOf x (hasK x.key (w.delC n).k))
theorem ias_own (st : Store) (k : Nat) (j : Int) (id gen off ln : Nat) : iasF st k j (.own id gen off ln) = if 0 ≤ j then (match st[id]? with
      | some (.row k' g xs _) => if k' = k ∧ g = gen ∧ j.toNat < ln then some (.ref id gen (off + j.toNat) 0) else none
      | _ => none) else none := rfl
variable {E : Prog}
/-! ### the ways -/
theorem fn_addC (hE : Std E fns) (w : Wd) (x : CmdT) (h : (w.c.length + 1) * 64 ≤ 140737488355328) : callL E f_world_way_api_Command_add [.ref 0 0 0 0, .agg x.cells] [] w.sto = some (.tup [], (w.addC x).sto) := by
  rw [hE.runN rfl rfl]
  cases w <;> simp only [Wd.c, List.length_nil] at h <;> simp only [Wd.sto, Wd.addC, rowC, rowR, rowK, CmdT.cells]
  · simp -implicitDefEqProofs only [go_sem, reduceIte, reduceCtorEq, Nat.reduceEqDiff, Nat.reduceAdd, Nat.reduceSub, Nat.reduceLT, Nat.reduceLeDiff, Nat.reduceBEq, Nat.reduceMul, Nat.reduceBNe, Int.reduceEq, Int.reduceLT, Int.reduceLE, Int.reduceNe, Int.reduceToNat, ir_world_way_api_Command_add, CmdT.cells, h, kmap_ids, kmap_ren, ro_cmd, ro_rep, ro_nm]
  · simp -implicitDefEqProofs only [go_sem, reduceIte, reduceCtorEq, Nat.reduceEqDiff, Nat.reduceAdd, Nat.reduceSub, Nat.reduceLT, Nat.reduceLeDiff, Nat.reduceBEq, Nat.reduceMul, Nat.reduceBNe, Int.reduceEq, Int.reduceLT, Int.reduceLE, Int.reduceNe, Int.reduceToNat, ir_world_way_api_Command_add, CmdT.cells, h, kmap_ids, kmap_ren, ro_cmd, ro_rep, ro_nm]
  · simp -implicitDefEqProofs only [go_sem, reduceIte, reduceCtorEq, Nat.reduceEqDiff, Nat.reduceAdd, Nat.reduceSub, Nat.reduceLT, Nat.reduceLeDiff, Nat.reduceBEq, Nat.reduceMul, Nat.reduceBNe, Int.reduceEq, Int.reduceLT, Int.reduceLE, Int.reduceNe, Int.reduceToNat, ir_world_way_api_Command_add, CmdT.cells, h, kmap_ids, kmap_ren, ro_cmd, ro_rep, ro_nm]
  · simp -implicitDefEqProofs only [go_sem, reduceIte, reduceCtorEq, Nat.reduceEqDiff, Nat.reduceAdd, Nat.reduceSub, Nat.reduceLT, Nat.reduceLeDiff, Nat.reduceBEq, Nat.reduceMul, Nat.reduceBNe, Int.reduceEq, Int.reduceLT, Int.reduceLE, Int.reduceNe, Int.reduceToNat, ir_world_way_api_Command_add, CmdT.cells, h, kmap_ids, kmap_ren, ro_cmd, ro_rep, ro_nm]
  · simp -implicitDefEqProofs only [go_sem, reduceIte, reduceCtorEq, Nat.reduceEqDiff, Nat.reduceAdd, Nat.reduceSub, Nat.reduceLT, Nat.reduceLeDiff, Nat.reduceBEq, Nat.reduceMul, Nat.reduceBNe, Int.reduceEq, Int.reduceLT, Int.reduceLE, Int.reduceNe, Int.reduceToNat, ir_world_way_api_Command_add, CmdT.cells, h, kmap_ids, kmap_ren, ro_cmd, ro_rep, ro_nm]
theorem fn_addR (hE : Std E fns) (w : Wd) (x : RepT) (h : (w.r.length + 1) * 40 ≤ 140737488355328) (h0 : w ≠ .w0) (h3 : ∀ gc gk c k, w ≠ .wm gc gk c k) : callL E f_world_way_api_Reply_add [.ref 0 0 0 1, .agg x.cells] [] w.sto = some (.tup [], (w.addR x).sto) := by
  rw [hE.runN rfl rfl]
  cases w <;> simp only [Wd.r, List.length_nil] at h <;> simp only [Wd.sto, Wd.addR, rowC, rowR, rowK, RepT.cells]
  · exact absurd rfl h0
  · simp -implicitDefEqProofs only [go_sem, reduceIte, reduceCtorEq, Nat.reduceEqDiff, Nat.reduceAdd, Nat.reduceSub, Nat.reduceLT, Nat.reduceLeDiff, Nat.reduceBEq, Nat.reduceMul, Nat.reduceBNe, Int.reduceEq, Int.reduceLT, Int.reduceLE, Int.reduceNe, Int.reduceToNat, ir_world_way_api_Reply_add, CmdT.cells, RepT.cells, nmC, kmap_ids, kmap_ren, ro_cmd, ro_rep, ro_nm, lenA_nil, lenA_own, Int.natCast_zero, h]
  · simp -implicitDefEqProofs only [go_sem, reduceIte, reduceCtorEq, Nat.reduceEqDiff, Nat.reduceAdd, Nat.reduceSub, Nat.reduceLT, Nat.reduceLeDiff, Nat.reduceBEq, Nat.reduceMul, Nat.reduceBNe, Int.reduceEq, Int.reduceLT, Int.reduceLE, Int.reduceNe, Int.reduceToNat, ir_world_way_api_Reply_add, CmdT.cells, RepT.cells, nmC, kmap_ids, kmap_ren, ro_cmd, ro_rep, ro_nm, lenA_nil, lenA_own, Int.natCast_zero, h]
  · simp -implicitDefEqProofs only [go_sem, reduceIte, reduceCtorEq, Nat.reduceEqDiff, Nat.reduceAdd, Nat.reduceSub, Nat.reduceLT, Nat.reduceLeDiff, Nat.reduceBEq, Nat.reduceMul, Nat.reduceBNe, Int.reduceEq, Int.reduceLT, Int.reduceLE, Int.reduceNe, Int.reduceToNat, ir_world_way_api_Reply_add, CmdT.cells, RepT.cells, nmC, kmap_ids, kmap_ren, ro_cmd, ro_rep, ro_nm, lenA_nil, lenA_own, Int.natCast_zero, h]
  · exact absurd rfl (h3 _ _ _ _)
theorem fn_addRm (hE : Std E fns) (gc gk : Nat) (c : List CmdT) (k : List ByteArray) (x : RepT) : callL E f_world_way_api_Reply_add [.ref 0 0 0 1, .agg x.cells] [] (Wd.wm gc gk c k).sto = some (.tup [], [.box [.own 1 gc 0 c.length, .own 4 0 0 1, .mp 2, .own 3 gk 0 k.length], rowC gc c, .map (kmap k 0), rowK gk k, rowR 0 [x]]) := by
  rw [hE.runN rfl rfl]
  simp only [Wd.sto, rowC, rowR, rowK, RepT.cells]
  simp -implicitDefEqProofs only [go_sem, reduceIte, reduceCtorEq, Nat.reduceEqDiff, Nat.reduceAdd, Nat.reduceSub, Nat.reduceLT, Nat.reduceLeDiff, Nat.reduceBEq, Nat.reduceMul, Nat.reduceBNe, Int.reduceEq, Int.reduceLT, Int.reduceLE, Int.reduceNe, Int.reduceToNat, ir_world_way_api_Reply_add, CmdT.cells, RepT.cells, nmC, kmap_ids, kmap_ren, ro_cmd, ro_rep, ro_nm, lenA_nil, lenA_own, Int.natCast_zero]
theorem fn_atC (hE : Std E fns) (w : Wd) (i : Int) : callL E f_world_way_api_Command_at [.ref 0 0 0 0, vi i] [] w.sto = some (match (if 0 ≤ i then w.c[i.toNat]? else none) with
    | some x => .tup [.agg x.cells, vb true]
    | none => .tup [.agg (CmdT.cells ⟨0, 0, false, 0, ⟨#[]⟩, ⟨#[]⟩⟩), vb false], w.sto) := by
  rw [hE.runN rfl rfl]
  by_cases c0 : i < 0
  · have c1 : ¬ 0 ≤ i := by omega
    simp only [c1, if_false]
    cases w <;> simp only [Wd.sto, rowC, rowR, rowK]
    · simp -implicitDefEqProofs only [go_sem, reduceIte, reduceCtorEq, Nat.reduceEqDiff, Nat.reduceAdd, Nat.reduceSub, Nat.reduceLT, Nat.reduceLeDiff, Nat.reduceBEq, Nat.reduceMul, Nat.reduceBNe, Int.reduceEq, Int.reduceLT, Int.reduceLE, Int.reduceNe, Int.reduceToNat, ir_world_way_api_Command_at, CmdT.cells, RepT.cells, nmC, kmap_ids, kmap_ren, ro_cmd, ro_rep, ro_nm, lenA_nil, lenA_own, Int.natCast_zero, c0]
    · simp -implicitDefEqProofs only [go_sem, reduceIte, reduceCtorEq, Nat.reduceEqDiff, Nat.reduceAdd, Nat.reduceSub, Nat.reduceLT, Nat.reduceLeDiff, Nat.reduceBEq, Nat.reduceMul, Nat.reduceBNe, Int.reduceEq, Int.reduceLT, Int.reduceLE, Int.reduceNe, Int.reduceToNat, ir_world_way_api_Command_at, CmdT.cells, RepT.cells, nmC, kmap_ids, kmap_ren, ro_cmd, ro_rep, ro_nm, lenA_nil, lenA_own, Int.natCast_zero, c0]
    · simp -implicitDefEqProofs only [go_sem, reduceIte, reduceCtorEq, Nat.reduceEqDiff, Nat.reduceAdd, Nat.reduceSub, Nat.reduceLT, Nat.reduceLeDiff, Nat.reduceBEq, Nat.reduceMul, Nat.reduceBNe, Int.reduceEq, Int.reduceLT, Int.reduceLE, Int.reduceNe, Int.reduceToNat, ir_world_way_api_Command_at, CmdT.cells, RepT.cells, nmC, kmap_ids, kmap_ren, ro_cmd, ro_rep, ro_nm, lenA_nil, lenA_own, Int.natCast_zero, c0]
    · simp -implicitDefEqProofs only [go_sem, reduceIte, reduceCtorEq, Nat.reduceEqDiff, Nat.reduceAdd, Nat.reduceSub, Nat.reduceLT, Nat.reduceLeDiff, Nat.reduceBEq, Nat.reduceMul, Nat.reduceBNe, Int.reduceEq, Int.reduceLT, Int.reduceLE, Int.reduceNe, Int.reduceToNat, ir_world_way_api_Command_at, CmdT.cells, RepT.cells, nmC, kmap_ids, kmap_ren, ro_cmd, ro_rep, ro_nm, lenA_nil, lenA_own, Int.natCast_zero, c0]
    · simp -implicitDefEqProofs only [go_sem, reduceIte, reduceCtorEq, Nat.reduceEqDiff, Nat.reduceAdd, Nat.reduceSub, Nat.reduceLT, Nat.reduceLeDiff, Nat.reduceBEq, Nat.reduceMul, Nat.reduceBNe, Int.reduceEq, Int.reduceLT, Int.reduceLE, Int.reduceNe, Int.reduceToNat, ir_world_way_api_Command_at, CmdT.cells, RepT.cells, nmC, kmap_ids, kmap_ren, ro_cmd, ro_rep, ro_nm, lenA_nil, lenA_own, Int.natCast_zero, c0]
  · obtain ⟨n, rfl⟩ : ∃ n : Nat, i = n := ⟨i.toNat, by omega⟩
    have c1 : (0 : Int) ≤ (n : Int) := by omega
    simp only [c1, if_true, Int.toNat_natCast]
    cases hx : w.c[n]? with
    | none =>
      have c2 := List.getElem?_eq_none_iff.1 hx
      have c3 : (w.c.length : Int) ≤ (n : Int) := by omega
      cases w <;> simp only [Wd.c, List.length_nil, Int.natCast_zero] at c3 <;> simp only [Wd.sto, rowC, rowR, rowK]
      · simp -implicitDefEqProofs only [go_sem, reduceIte, reduceCtorEq, Nat.reduceEqDiff, Nat.reduceAdd, Nat.reduceSub, Nat.reduceLT, Nat.reduceLeDiff, Nat.reduceBEq, Nat.reduceMul, Nat.reduceBNe, Int.reduceEq, Int.reduceLT, Int.reduceLE, Int.reduceNe, Int.reduceToNat, ir_world_way_api_Command_at, CmdT.cells, RepT.cells, nmC, kmap_ids, kmap_ren, ro_cmd, ro_rep, ro_nm, lenA_nil, lenA_own, Int.natCast_zero, c0, c1, c3]
      · simp -implicitDefEqProofs only [go_sem, reduceIte, reduceCtorEq, Nat.reduceEqDiff, Nat.reduceAdd, Nat.reduceSub, Nat.reduceLT, Nat.reduceLeDiff, Nat.reduceBEq, Nat.reduceMul, Nat.reduceBNe, Int.reduceEq, Int.reduceLT, Int.reduceLE, Int.reduceNe, Int.reduceToNat, ir_world_way_api_Command_at, CmdT.cells, RepT.cells, nmC, kmap_ids, kmap_ren, ro_cmd, ro_rep, ro_nm, lenA_nil, lenA_own, Int.natCast_zero, c0, c1, c3]
      · simp -implicitDefEqProofs only [go_sem, reduceIte, reduceCtorEq, Nat.reduceEqDiff, Nat.reduceAdd, Nat.reduceSub, Nat.reduceLT, Nat.reduceLeDiff, Nat.reduceBEq, Nat.reduceMul, Nat.reduceBNe, Int.reduceEq, Int.reduceLT, Int.reduceLE, Int.reduceNe, Int.reduceToNat, ir_world_way_api_Command_at, CmdT.cells, RepT.cells, nmC, kmap_ids, kmap_ren, ro_cmd, ro_rep, ro_nm, lenA_nil, lenA_own, Int.natCast_zero, c0, c1, c3]
      · simp -implicitDefEqProofs only [go_sem, reduceIte, reduceCtorEq, Nat.reduceEqDiff, Nat.reduceAdd, Nat.reduceSub, Nat.reduceLT, Nat.reduceLeDiff, Nat.reduceBEq, Nat.reduceMul, Nat.reduceBNe, Int.reduceEq, Int.reduceLT, Int.reduceLE, Int.reduceNe, Int.reduceToNat, ir_world_way_api_Command_at, CmdT.cells, RepT.cells, nmC, kmap_ids, kmap_ren, ro_cmd, ro_rep, ro_nm, lenA_nil, lenA_own, Int.natCast_zero, c0, c1, c3]
      · simp -implicitDefEqProofs only [go_sem, reduceIte, reduceCtorEq, Nat.reduceEqDiff, Nat.reduceAdd, Nat.reduceSub, Nat.reduceLT, Nat.reduceLeDiff, Nat.reduceBEq, Nat.reduceMul, Nat.reduceBNe, Int.reduceEq, Int.reduceLT, Int.reduceLE, Int.reduceNe, Int.reduceToNat, ir_world_way_api_Command_at, CmdT.cells, RepT.cells, nmC, kmap_ids, kmap_ren, ro_cmd, ro_rep, ro_nm, lenA_nil, lenA_own, Int.natCast_zero, c0, c1, c3]
    | some x =>
      have c2 := (List.getElem?_eq_some_iff.1 hx).1
      have c3 : ¬ (w.c.length : Int) ≤ (n : Int) := by omega
      cases w <;> simp only [Wd.c] at c2 c3 hx <;> simp only [Wd.sto, rowC, rowR, rowK]
      · simp at c2
      · simp -implicitDefEqProofs only [go_sem, reduceIte, reduceCtorEq, Nat.reduceEqDiff, Nat.reduceAdd, Nat.reduceSub, Nat.reduceLT, Nat.reduceLeDiff, Nat.reduceBEq, Nat.reduceMul, Nat.reduceBNe, Int.reduceEq, Int.reduceLT, Int.reduceLE, Int.reduceNe, Int.reduceToNat, ir_world_way_api_Command_at, CmdT.cells, RepT.cells, nmC, kmap_ids, kmap_ren, ro_cmd, ro_rep, ro_nm, lenA_nil, lenA_own, Int.natCast_zero, c0, c1, c2, c3, hx, ias_own, List.getElem?_map, Option.map_some, Nat.zero_add, Int.toNat_natCast, and_self]
      · simp -implicitDefEqProofs only [go_sem, reduceIte, reduceCtorEq, Nat.reduceEqDiff, Nat.reduceAdd, Nat.reduceSub, Nat.reduceLT, Nat.reduceLeDiff, Nat.reduceBEq, Nat.reduceMul, Nat.reduceBNe, Int.reduceEq, Int.reduceLT, Int.reduceLE, Int.reduceNe, Int.reduceToNat, ir_world_way_api_Command_at, CmdT.cells, RepT.cells, nmC, kmap_ids, kmap_ren, ro_cmd, ro_rep, ro_nm, lenA_nil, lenA_own, Int.natCast_zero, c0, c1, c2, c3, hx, ias_own, List.getElem?_map, Option.map_some, Nat.zero_add, Int.toNat_natCast, and_self]
      · simp -implicitDefEqProofs only [go_sem, reduceIte, reduceCtorEq, Nat.reduceEqDiff, Nat.reduceAdd, Nat.reduceSub, Nat.reduceLT, Nat.reduceLeDiff, Nat.reduceBEq, Nat.reduceMul, Nat.reduceBNe, Int.reduceEq, Int.reduceLT, Int.reduceLE, Int.reduceNe, Int.reduceToNat, ir_world_way_api_Command_at, CmdT.cells, RepT.cells, nmC, kmap_ids, kmap_ren, ro_cmd, ro_rep, ro_nm, lenA_nil, lenA_own, Int.natCast_zero, c0, c1, c2, c3, hx, ias_own, List.getElem?_map, Option.map_some, Nat.zero_add, Int.toNat_natCast, and_self]
      · simp -implicitDefEqProofs only [go_sem, reduceIte, reduceCtorEq, Nat.reduceEqDiff, Nat.reduceAdd, Nat.reduceSub, Nat.reduceLT, Nat.reduceLeDiff, Nat.reduceBEq, Nat.reduceMul, Nat.reduceBNe, Int.reduceEq, Int.reduceLT, Int.reduceLE, Int.reduceNe, Int.reduceToNat, ir_world_way_api_Command_at, CmdT.cells, RepT.cells, nmC, kmap_ids, kmap_ren, ro_cmd, ro_rep, ro_nm, lenA_nil, lenA_own, Int.natCast_zero, c0, c1, c2, c3, hx, ias_own, List.getElem?_map, Option.map_some, Nat.zero_add, Int.toNat_natCast, and_self]
theorem fn_atR (hE : Std E fns) (w : Wd) (i : Int) : callL E f_world_way_api_Reply_at [.ref 0 0 0 1, vi i] [] w.sto = some (match (if 0 ≤ i then w.r[i.toNat]? else none) with
    | some x => .tup [.agg x.cells, vb true]
    | none => .tup [.agg (RepT.cells ⟨0, 0, false, 0, false⟩), vb false], w.sto) := by
  rw [hE.runN rfl rfl]
  by_cases c0 : i < 0
  · have c1 : ¬ 0 ≤ i := by omega
    simp only [c1, if_false]
    cases w <;> simp only [Wd.sto, rowC, rowR, rowK]
    · simp -implicitDefEqProofs only [go_sem, reduceIte, reduceCtorEq, Nat.reduceEqDiff, Nat.reduceAdd, Nat.reduceSub, Nat.reduceLT, Nat.reduceLeDiff, Nat.reduceBEq, Nat.reduceMul, Nat.reduceBNe, Int.reduceEq, Int.reduceLT, Int.reduceLE, Int.reduceNe, Int.reduceToNat, ir_world_way_api_Reply_at, CmdT.cells, RepT.cells, nmC, kmap_ids, kmap_ren, ro_cmd, ro_rep, ro_nm, lenA_nil, lenA_own, Int.natCast_zero, c0]
    · simp -implicitDefEqProofs only [go_sem, reduceIte, reduceCtorEq, Nat.reduceEqDiff, Nat.reduceAdd, Nat.reduceSub, Nat.reduceLT, Nat.reduceLeDiff, Nat.reduceBEq, Nat.reduceMul, Nat.reduceBNe, Int.reduceEq, Int.reduceLT, Int.reduceLE, Int.reduceNe, Int.reduceToNat, ir_world_way_api_Reply_at, CmdT.cells, RepT.cells, nmC, kmap_ids, kmap_ren, ro_cmd, ro_rep, ro_nm, lenA_nil, lenA_own, Int.natCast_zero, c0]
    · simp -implicitDefEqProofs only [go_sem, reduceIte, reduceCtorEq, Nat.reduceEqDiff, Nat.reduceAdd, Nat.reduceSub, Nat.reduceLT, Nat.reduceLeDiff, Nat.reduceBEq, Nat.reduceMul, Nat.reduceBNe, Int.reduceEq, Int.reduceLT, Int.reduceLE, Int.reduceNe, Int.reduceToNat, ir_world_way_api_Reply_at, CmdT.cells, RepT.cells, nmC, kmap_ids, kmap_ren, ro_cmd, ro_rep, ro_nm, lenA_nil, lenA_own, Int.natCast_zero, c0]
    · simp -implicitDefEqProofs only [go_sem, reduceIte, reduceCtorEq, Nat.reduceEqDiff, Nat.reduceAdd, Nat.reduceSub, Nat.reduceLT, Nat.reduceLeDiff, Nat.reduceBEq, Nat.reduceMul, Nat.reduceBNe, Int.reduceEq, Int.reduceLT, Int.reduceLE, Int.reduceNe, Int.reduceToNat, ir_world_way_api_Reply_at, CmdT.cells, RepT.cells, nmC, kmap_ids, kmap_ren, ro_cmd, ro_rep, ro_nm, lenA_nil, lenA_own, Int.natCast_zero, c0]
    · simp -implicitDefEqProofs only [go_sem, reduceIte, reduceCtorEq, Nat.reduceEqDiff, Nat.reduceAdd, Nat.reduceSub, Nat.reduceLT, Nat.reduceLeDiff, Nat.reduceBEq, Nat.reduceMul, Nat.reduceBNe, Int.reduceEq, Int.reduceLT, Int.reduceLE, Int.reduceNe, Int.reduceToNat, ir_world_way_api_Reply_at, CmdT.cells, RepT.cells, nmC, kmap_ids, kmap_ren, ro_cmd, ro_rep, ro_nm, lenA_nil, lenA_own, Int.natCast_zero, c0]
  · obtain ⟨n, rfl⟩ : ∃ n : Nat, i = n := ⟨i.toNat, by omega⟩
    have c1 : (0 : Int) ≤ (n : Int) := by omega
    simp only [c1, if_true, Int.toNat_natCast]
    cases hx : w.r[n]? with
    | none =>
      have c2 := List.getElem?_eq_none_iff.1 hx
      have c3 : (w.r.length : Int) ≤ (n : Int) := by omega
      cases w <;> simp only [Wd.r, List.length_nil, Int.natCast_zero] at c3 <;> simp only [Wd.sto, rowC, rowR, rowK]
      · simp -implicitDefEqProofs only [go_sem, reduceIte, reduceCtorEq, Nat.reduceEqDiff, Nat.reduceAdd, Nat.reduceSub, Nat.reduceLT, Nat.reduceLeDiff, Nat.reduceBEq, Nat.reduceMul, Nat.reduceBNe, Int.reduceEq, Int.reduceLT, Int.reduceLE, Int.reduceNe, Int.reduceToNat, ir_world_way_api_Reply_at, CmdT.cells, RepT.cells, nmC, kmap_ids, kmap_ren, ro_cmd, ro_rep, ro_nm, lenA_nil, lenA_own, Int.natCast_zero, c0, c1, c3]
      · simp -implicitDefEqProofs only [go_sem, reduceIte, reduceCtorEq, Nat.reduceEqDiff, Nat.reduceAdd, Nat.reduceSub, Nat.reduceLT, Nat.reduceLeDiff, Nat.reduceBEq, Nat.reduceMul, Nat.reduceBNe, Int.reduceEq, Int.reduceLT, Int.reduceLE, Int.reduceNe, Int.reduceToNat, ir_world_way_api_Reply_at, CmdT.cells, RepT.cells, nmC, kmap_ids, kmap_ren, ro_cmd, ro_rep, ro_nm, lenA_nil, lenA_own, Int.natCast_zero, c0, c1, c3]
      · simp -implicitDefEqProofs only [go_sem, reduceIte, reduceCtorEq, Nat.reduceEqDiff, Nat.reduceAdd, Nat.reduceSub, Nat.reduceLT, Nat.reduceLeDiff, Nat.reduceBEq, Nat.reduceMul, Nat.reduceBNe, Int.reduceEq, Int.reduceLT, Int.reduceLE, Int.reduceNe, Int.reduceToNat, ir_world_way_api_Reply_at, CmdT.cells, RepT.cells, nmC, kmap_ids, kmap_ren, ro_cmd, ro_rep, ro_nm, lenA_nil, lenA_own, Int.natCast_zero, c0, c1, c3]
      · simp -implicitDefEqProofs only [go_sem, reduceIte, reduceCtorEq, Nat.reduceEqDiff, Nat.reduceAdd, Nat.reduceSub, Nat.reduceLT, Nat.reduceLeDiff, Nat.reduceBEq, Nat.reduceMul, Nat.reduceBNe, Int.reduceEq, Int.reduceLT, Int.reduceLE, Int.reduceNe, Int.reduceToNat, ir_world_way_api_Reply_at, CmdT.cells, RepT.cells, nmC, kmap_ids, kmap_ren, ro_cmd, ro_rep, ro_nm, lenA_nil, lenA_own, Int.natCast_zero, c0, c1, c3]
      · simp -implicitDefEqProofs only [go_sem, reduceIte, reduceCtorEq, Nat.reduceEqDiff, Nat.reduceAdd, Nat.reduceSub, Nat.reduceLT, Nat.reduceLeDiff, Nat.reduceBEq, Nat.reduceMul, Nat.reduceBNe, Int.reduceEq, Int.reduceLT, Int.reduceLE, Int.reduceNe, Int.reduceToNat, ir_world_way_api_Reply_at, CmdT.cells, RepT.cells, nmC, kmap_ids, kmap_ren, ro_cmd, ro_rep, ro_nm, lenA_nil, lenA_own, Int.natCast_zero, c0, c1, c3]
    | some x =>
      have c2 := (List.getElem?_eq_some_iff.1 hx).1
      have c3 : ¬ (w.r.length : Int) ≤ (n : Int) := by omega
      cases w <;> simp only [Wd.r] at c2 c3 hx <;> simp only [Wd.sto, rowC, rowR, rowK]
      · simp at c2
      · simp at c2
      · simp -implicitDefEqProofs only [go_sem, reduceIte, reduceCtorEq, Nat.reduceEqDiff, Nat.reduceAdd, Nat.reduceSub, Nat.reduceLT, Nat.reduceLeDiff, Nat.reduceBEq, Nat.reduceMul, Nat.reduceBNe, Int.reduceEq, Int.reduceLT, Int.reduceLE, Int.reduceNe, Int.reduceToNat, ir_world_way_api_Reply_at, CmdT.cells, RepT.cells, nmC, kmap_ids, kmap_ren, ro_cmd, ro_rep, ro_nm, lenA_nil, lenA_own, Int.natCast_zero, c0, c1, c2, c3, hx, ias_own, List.getElem?_map, Option.map_some, Nat.zero_add, Int.toNat_natCast, and_self]
      · simp -implicitDefEqProofs only [go_sem, reduceIte, reduceCtorEq, Nat.reduceEqDiff, Nat.reduceAdd, Nat.reduceSub, Nat.reduceLT, Nat.reduceLeDiff, Nat.reduceBEq, Nat.reduceMul, Nat.reduceBNe, Int.reduceEq, Int.reduceLT, Int.reduceLE, Int.reduceNe, Int.reduceToNat, ir_world_way_api_Reply_at, CmdT.cells, RepT.cells, nmC, kmap_ids, kmap_ren, ro_cmd, ro_rep, ro_nm, lenA_nil, lenA_own, Int.natCast_zero, c0, c1, c2, c3, hx, ias_own, List.getElem?_map, Option.map_some, Nat.zero_add, Int.toNat_natCast, and_self]
      · simp at c2
abbrev DCK (E : Prog) : Prop := E.prim f_slices_Delete_api_Command_api_Command = some (pDelete 6)
abbrev DRK (E : Prog) : Prop := E.prim f_slices_Delete_api_Reply_api_Reply = some (pDelete 5)
theorem fn_delC {E : Prog} (hd : DCK E) (g n : Nat) (l : List (List AV)) (h : n < l.length) (h2 : l.length ≤ 140737488355328) : callL E f_slices_Delete_api_Command_api_Command [.own 0 g 0 l.length, vi n, vi ((n + 1 : Nat) : Int)] [] [.row 6 g l false] = some (.own 0 (g + 1) 0 (l.take n ++ l.drop (n + 1)).length, [.row 6 (g + 1) (l.take n ++ l.drop (n + 1)) false]) := by
  rw [call_prim hd]
  have h3 : (l.take n ++ l.drop (n + 1)).length = n + (l.length - (n + 1)) := by rw [List.length_append, List.length_take, List.length_drop]; omega
  simp only [pDelete, List.getElem?_cons_zero, List.drop_zero, List.take_length, Int.toNat_natCast, Nat.zero_add, List.set_cons_zero, h3]
  rw [if_pos ⟨trivial, trivial, Nat.le_refl _, trivial, by omega, by omega, by omega, h2⟩]
theorem fn_delR {E : Prog} (hd : DRK E) (g n : Nat) (l : List (List AV)) (h : n < l.length) (h2 : l.length ≤ 140737488355328) : callL E f_slices_Delete_api_Reply_api_Reply [.own 0 g 0 l.length, vi n, vi ((n + 1 : Nat) : Int)] [] [.row 5 g l false] = some (.own 0 (g + 1) 0 (l.take n ++ l.drop (n + 1)).length, [.row 5 (g + 1) (l.take n ++ l.drop (n + 1)) false]) := by
  rw [call_prim hd]
  have h3 : (l.take n ++ l.drop (n + 1)).length = n + (l.length - (n + 1)) := by rw [List.length_append, List.length_take, List.length_drop]; omega
  simp only [pDelete, List.getElem?_cons_zero, List.drop_zero, List.take_length, Int.toNat_natCast, Nat.zero_add, List.set_cons_zero, h3]
  rw [if_pos ⟨trivial, trivial, Nat.le_refl _, trivial, by omega, by omega, by omega, h2⟩]
theorem map_del {α : Type} (f : α → List AV) (l : List α) (n : Nat) : (l.map f).take n ++ (l.map f).drop (n + 1) = (l.take n ++ l.drop (n + 1)).map f := by rw [List.map_append, List.map_take, List.map_drop]
theorem fn_leaveC (hE : Std E fns) (hd : DCK E) (w : Wd) (n : Nat) (h : n < w.c.length) (h2 : w.c.length ≤ 1000000) : callL E f_world_way_api_Command_leave [.ref 0 0 0 0, vi n] [] w.sto = some (.tup [], (w.delC n).sto) := by
  have h6 := wrap_succ (i := n) (by omega)
  rw [hE.runN rfl rfl]
  cases w <;> simp only [Wd.c] at h h2 <;> simp only [Wd.sto, Wd.delC, rowC, rowR, rowK]
  · simp at h
  · rename_i gc c
    have hq := fn_delC hd gc n (c.map CmdT.cells) (by rw [List.length_map]; exact h) (by rw [List.length_map]; omega)
    simp only [List.length_map, map_del] at hq
    simp -implicitDefEqProofs only [go_sem, reduceIte, reduceCtorEq, Nat.reduceEqDiff, Nat.reduceAdd, Nat.reduceSub, Nat.reduceLT, Nat.reduceLeDiff, Nat.reduceBEq, Nat.reduceMul, Nat.reduceBNe, Int.reduceEq, Int.reduceLT, Int.reduceLE, Int.reduceNe, Int.reduceToNat, ir_world_way_api_Command_leave, CmdT.cells, RepT.cells, nmC, kmap_ids, kmap_ren, ro_cmd, ro_rep, ro_nm, lenA_nil, lenA_own, Int.natCast_zero, h6, hq]
  · rename_i gc gr c r
    have hq := fn_delC hd gc n (c.map CmdT.cells) (by rw [List.length_map]; exact h) (by rw [List.length_map]; omega)
    simp only [List.length_map, map_del] at hq
    simp -implicitDefEqProofs only [go_sem, reduceIte, reduceCtorEq, Nat.reduceEqDiff, Nat.reduceAdd, Nat.reduceSub, Nat.reduceLT, Nat.reduceLeDiff, Nat.reduceBEq, Nat.reduceMul, Nat.reduceBNe, Int.reduceEq, Int.reduceLT, Int.reduceLE, Int.reduceNe, Int.reduceToNat, ir_world_way_api_Command_leave, CmdT.cells, RepT.cells, nmC, kmap_ids, kmap_ren, ro_cmd, ro_rep, ro_nm, lenA_nil, lenA_own, Int.natCast_zero, h6, hq]
  · rename_i gc gr gk c r k
    have hq := fn_delC hd gc n (c.map CmdT.cells) (by rw [List.length_map]; exact h) (by rw [List.length_map]; omega)
    simp only [List.length_map, map_del] at hq
    simp -implicitDefEqProofs only [go_sem, reduceIte, reduceCtorEq, Nat.reduceEqDiff, Nat.reduceAdd, Nat.reduceSub, Nat.reduceLT, Nat.reduceLeDiff, Nat.reduceBEq, Nat.reduceMul, Nat.reduceBNe, Int.reduceEq, Int.reduceLT, Int.reduceLE, Int.reduceNe, Int.reduceToNat, ir_world_way_api_Command_leave, CmdT.cells, RepT.cells, nmC, kmap_ids, kmap_ren, ro_cmd, ro_rep, ro_nm, lenA_nil, lenA_own, Int.natCast_zero, h6, hq]
  · rename_i gc gk c k
    have hq := fn_delC hd gc n (c.map CmdT.cells) (by rw [List.length_map]; exact h) (by rw [List.length_map]; omega)
    simp only [List.length_map, map_del] at hq
    simp -implicitDefEqProofs only [go_sem, reduceIte, reduceCtorEq, Nat.reduceEqDiff, Nat.reduceAdd, Nat.reduceSub, Nat.reduceLT, Nat.reduceLeDiff, Nat.reduceBEq, Nat.reduceMul, Nat.reduceBNe, Int.reduceEq, Int.reduceLT, Int.reduceLE, Int.reduceNe, Int.reduceToNat, ir_world_way_api_Command_leave, CmdT.cells, RepT.cells, nmC, kmap_ids, kmap_ren, ro_cmd, ro_rep, ro_nm, lenA_nil, lenA_own, Int.natCast_zero, h6, hq]
theorem fn_leaveR (hE : Std E fns) (hd : DRK E) (w : Wd) (n : Nat) (h : n < w.r.length) (h2 : w.r.length ≤ 1000000) : callL E f_world_way_api_Reply_leave [.ref 0 0 0 1, vi n] [] w.sto = some (.tup [], (w.delR n).sto) := by
  have h6 := wrap_succ (i := n) (by omega)
  rw [hE.runN rfl rfl]
  cases w <;> simp only [Wd.r] at h h2 <;> simp only [Wd.sto, Wd.delR, rowC, rowR, rowK]
  · simp at h
  · simp at h
  · rename_i gc gr c r
    have hq := fn_delR hd gr n (r.map RepT.cells) (by rw [List.length_map]; exact h) (by rw [List.length_map]; omega)
    simp only [List.length_map, map_del] at hq
    simp -implicitDefEqProofs only [go_sem, reduceIte, reduceCtorEq, Nat.reduceEqDiff, Nat.reduceAdd, Nat.reduceSub, Nat.reduceLT, Nat.reduceLeDiff, Nat.reduceBEq, Nat.reduceMul, Nat.reduceBNe, Int.reduceEq, Int.reduceLT, Int.reduceLE, Int.reduceNe, Int.reduceToNat, ir_world_way_api_Reply_leave, CmdT.cells, RepT.cells, nmC, kmap_ids, kmap_ren, ro_cmd, ro_rep, ro_nm, lenA_nil, lenA_own, Int.natCast_zero, h6, hq]
  · rename_i gc gr gk c r k
    have hq := fn_delR hd gr n (r.map RepT.cells) (by rw [List.length_map]; exact h) (by rw [List.length_map]; omega)
    simp only [List.length_map, map_del] at hq
    simp -implicitDefEqProofs only [go_sem, reduceIte, reduceCtorEq, Nat.reduceEqDiff, Nat.reduceAdd, Nat.reduceSub, Nat.reduceLT, Nat.reduceLeDiff, Nat.reduceBEq, Nat.reduceMul, Nat.reduceBNe, Int.reduceEq, Int.reduceLT, Int.reduceLE, Int.reduceNe, Int.reduceToNat, ir_world_way_api_Reply_leave, CmdT.cells, RepT.cells, nmC, kmap_ids, kmap_ren, ro_cmd, ro_rep, ro_nm, lenA_nil, lenA_own, Int.natCast_zero, h6, hq]
  · simp at h
theorem fn_Done (hE : Std E fns) (w : Wd) (s : ByteArray) : callL E f_world_World_Done [.ref 0 0 0 0, vs s] [] w.sto = some (vb (hasK s w.k), w.sto) := by
  rw [hE.runN rfl rfl]
  cases w <;> simp only [Wd.sto, rowC, rowR, rowK, Wd.k]
  · simp -implicitDefEqProofs only [go_sem, reduceIte, reduceCtorEq, Nat.reduceEqDiff, Nat.reduceAdd, Nat.reduceSub, Nat.reduceLT, Nat.reduceLeDiff, Nat.reduceBEq, Nat.reduceMul, Nat.reduceBNe, Int.reduceEq, Int.reduceLT, Int.reduceLE, Int.reduceNe, Int.reduceToNat, ir_world_World_Done, CmdT.cells, RepT.cells, nmC, kmap_ids, kmap_ren, ro_cmd, ro_rep, ro_nm, lenA_nil, lenA_own, Int.natCast_zero, kfind, kget, kin, mfind, hasK_nil]
  · simp -implicitDefEqProofs only [go_sem, reduceIte, reduceCtorEq, Nat.reduceEqDiff, Nat.reduceAdd, Nat.reduceSub, Nat.reduceLT, Nat.reduceLeDiff, Nat.reduceBEq, Nat.reduceMul, Nat.reduceBNe, Int.reduceEq, Int.reduceLT, Int.reduceLE, Int.reduceNe, Int.reduceToNat, ir_world_World_Done, CmdT.cells, RepT.cells, nmC, kmap_ids, kmap_ren, ro_cmd, ro_rep, ro_nm, lenA_nil, lenA_own, Int.natCast_zero, kfind, kget, kin, mfind, hasK_nil]
  · simp -implicitDefEqProofs only [go_sem, reduceIte, reduceCtorEq, Nat.reduceEqDiff, Nat.reduceAdd, Nat.reduceSub, Nat.reduceLT, Nat.reduceLeDiff, Nat.reduceBEq, Nat.reduceMul, Nat.reduceBNe, Int.reduceEq, Int.reduceLT, Int.reduceLE, Int.reduceNe, Int.reduceToNat, ir_world_World_Done, CmdT.cells, RepT.cells, nmC, kmap_ids, kmap_ren, ro_cmd, ro_rep, ro_nm, lenA_nil, lenA_own, Int.natCast_zero, kfind, kget, kin, mfind, hasK_nil]
  · simp -implicitDefEqProofs only [go_sem, reduceIte, reduceCtorEq, Nat.reduceEqDiff, Nat.reduceAdd, Nat.reduceSub, Nat.reduceLT, Nat.reduceLeDiff, Nat.reduceBEq, Nat.reduceMul, Nat.reduceBNe, Int.reduceEq, Int.reduceLT, Int.reduceLE, Int.reduceNe, Int.reduceToNat, ir_world_World_Done, CmdT.cells, RepT.cells, nmC, kmap_ids, kmap_ren, ro_cmd, ro_rep, ro_nm, lenA_nil, lenA_own, Int.natCast_zero, kfind, kget, kin, mfind, hasK_nil]
  · simp -implicitDefEqProofs only [go_sem, reduceIte, reduceCtorEq, Nat.reduceEqDiff, Nat.reduceAdd, Nat.reduceSub, Nat.reduceLT, Nat.reduceLeDiff, Nat.reduceBEq, Nat.reduceMul, Nat.reduceBNe, Int.reduceEq, Int.reduceLT, Int.reduceLE, Int.reduceNe, Int.reduceToNat, ir_world_World_Done, CmdT.cells, RepT.cells, nmC, kmap_ids, kmap_ren, ro_cmd, ro_rep, ro_nm, lenA_nil, lenA_own, Int.natCast_zero, kfind, kget, kin, mfind, hasK_nil]
theorem fn_mark (hE : Std E fns) (w : Wd) (s : ByteArray) (h : s ∉ w.k) (h0 : w ≠ .w0) (h2 : (w.k.length + 1) * 16 ≤ 140737488355328) : callL E f_world_World_mark [.ref 0 0 0 0, vs s] [] w.sto = some (.tup [], (w.mark s).sto) := by
  rw [hE.runN rfl rfl]
  have hm0 : mput .s (.string s) (vi 0) [] = some [(.string s, vi 0)] := rfl
  have hk1 : kmap [s] 0 = [(.string s, vi 0)] := rfl
  cases w <;> simp only [Wd.k] at h h2 <;> simp only [Wd.sto, Wd.mark, rowC, rowR, rowK, hk1]
  · exact absurd rfl h0
  · rename_i gc c
    simp -implicitDefEqProofs only [go_sem, reduceIte, reduceCtorEq, Nat.reduceEqDiff, Nat.reduceAdd, Nat.reduceSub, Nat.reduceLT, Nat.reduceLeDiff, Nat.reduceBEq, Nat.reduceMul, Nat.reduceBNe, Int.reduceEq, Int.reduceLT, Int.reduceLE, Int.reduceNe, Int.reduceToNat, ir_world_World_mark, CmdT.cells, RepT.cells, nmC, kmap_ids, kmap_ren, ro_cmd, ro_rep, ro_nm, lenA_nil, lenA_own, Int.natCast_zero, hm0, eqV_s, decide_true, h2]
  · rename_i gc gr c r
    simp -implicitDefEqProofs only [go_sem, reduceIte, reduceCtorEq, Nat.reduceEqDiff, Nat.reduceAdd, Nat.reduceSub, Nat.reduceLT, Nat.reduceLeDiff, Nat.reduceBEq, Nat.reduceMul, Nat.reduceBNe, Int.reduceEq, Int.reduceLT, Int.reduceLE, Int.reduceNe, Int.reduceToNat, ir_world_World_mark, CmdT.cells, RepT.cells, nmC, kmap_ids, kmap_ren, ro_cmd, ro_rep, ro_nm, lenA_nil, lenA_own, Int.natCast_zero, hm0, eqV_s, decide_true, h2]
  · rename_i gc gr gk c r k
    have hm := kput s k 0 h
    rw [Nat.zero_add] at hm
    simp -implicitDefEqProofs only [go_sem, reduceIte, reduceCtorEq, Nat.reduceEqDiff, Nat.reduceAdd, Nat.reduceSub, Nat.reduceLT, Nat.reduceLeDiff, Nat.reduceBEq, Nat.reduceMul, Nat.reduceBNe, Int.reduceEq, Int.reduceLT, Int.reduceLE, Int.reduceNe, Int.reduceToNat, ir_world_World_mark, CmdT.cells, RepT.cells, nmC, kmap_ids, kmap_ren, ro_cmd, ro_rep, ro_nm, lenA_nil, lenA_own, Int.natCast_zero, hm0, eqV_s, decide_true, h2, hm]
  · rename_i gc gk c k
    have hm := kput s k 0 h
    rw [Nat.zero_add] at hm
    simp -implicitDefEqProofs only [go_sem, reduceIte, reduceCtorEq, Nat.reduceEqDiff, Nat.reduceAdd, Nat.reduceSub, Nat.reduceLT, Nat.reduceLeDiff, Nat.reduceBEq, Nat.reduceMul, Nat.reduceBNe, Int.reduceEq, Int.reduceLT, Int.reduceLE, Int.reduceNe, Int.reduceToNat, ir_world_World_mark, CmdT.cells, RepT.cells, nmC, kmap_ids, kmap_ren, ro_cmd, ro_rep, ro_nm, lenA_nil, lenA_own, Int.natCast_zero, hm0, eqV_s, decide_true, h2, hm]
end Go.Proofs.YtbpndomfipdhdaaDoor.Ev
