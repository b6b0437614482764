/-
  A store's methods: New, Append, Sync, Truncate, Remove, Read, and what is left of a file.
-/
import Derived.Test.YtaodpgpepmlfbaaDoorEvSt2
set_option linter.unusedVariables false
set_option linter.unusedSimpArgs false
namespace Go.Proofs.YtaodpgpepmlfbaaDoor.Ev
attribute [local congr] bind_congr_head
attribute [local go_sem] opd_t opd_c opd_g opd_f opds_nil opds_cons get_cons put_some put_none keep_nil keepC_s keepC_n keep_cons runs_nil runs_cons run_op run_opr run_call run_gand run_gor run_gif seqK_norm seqK_exit seqK_ret blkK_norm blkK_exit blkK_ret runL_skip runL_exit runL_ret runL_items runL_seq runL_cond runL_block runL_loop fin_bind finK_norm finK_ret rvs_nil rvs_cons rv_tmp rv_cell tupOf_one tupOf_nil tupOf_two ev_mov ev_pick ev_alloc ev_box ev_build parts_nil parts_cons fills_nil fills_cons ev_bsl ev_bslo ev_load ev_store ev_nilck ev_bin ev_binb ev_aeq ev_un ev_i2i ev_i2t ev_isnilI nilIF ev_s2b ev_ext ev_fld ev_idxs ev_fa ev_ias ev_len ev_lens ev_s2s ev_mkf ev_rng ev_nxt ev_app bOf_s pvOf_s agOf_s tpOf_s iOf_s sOf_s ite_bind Option.bind_some Option.bind_none if_true if_false ite_true ite_false argEnv_nil argEnv_cons len_av elems_av ias_av cells_av tuple_av AV.tuple AV.cells faF ldAt liveRef aggOf nilckF binV binI binS binB unV Bool.not_true Bool.not_false List.length_nil List.length_cons List.nil_append List.cons_append List.append_nil List.getElem?_cons_zero List.getElem?_cons_succ List.drop_zero List.drop_succ_cons List.drop_nil List.take_zero List.take_succ_cons List.take_nil List.set_cons_zero List.set_cons_succ compact_same compact_new closedB nodupB envIds ids0 upto visit pos sel AV.ids idss idsss Ob.ids AV.ren rens renss Ob.ren renEnv AV.snap snaps stAt okSt putCells List.all_nil List.all_cons List.contains_nil List.contains_cons Bool.and_true Bool.true_and Bool.and_false Bool.false_and Bool.or_true Bool.true_or Bool.or_false Bool.false_or decide_eq_true_eq decide_true decide_false beq_iff_eq bne_iff_ne beq_self_eq_true Bool.not_eq_true' Bool.false_eq_true eq_self and_self and_true true_and and_false false_and or_true true_or or_false false_or not_true_eq_false not_false_eq_true ne_eq Nat.zero_add Nat.add_zero Nat.le_refl Nat.not_lt_zero Nat.lt_irrefl Nat.zero_le Int.toNat_natCast gt_iff_lt ge_iff_le Int.lt_irrefl Int.natCast_nonneg txt_eq get_nil appF elems belows AV.under AV.flat flats List.length_map List.map_append List.map_cons List.map_nil List.length_append take_map_all List.flatten_cons List.flatten_nil bld_nil imp_false false_imp_iff false_implies true_implies implies_true decide_eq_false_iff_not Nat.one_mul Nat.mul_one idsss_app renss_app belowss_app ev_mn ev_mx ev_isnils ev_sls ev_slx evo_none evo_some vals minV maxV minF maxF backId List.getElem?_nil putAll Option.all_none Option.all_some Option.isSome_some intOf aszI compactV_same compactV_new callP_any callQ_eq callN_any boxQ AV.id? ids_avR ren_av under_av snap_av renss_mapf belowss_mapf idsss_mapf isnilsF List.length_eq_zero_iff int_beq int_bne decide_not slx_av Int.toNat_zero ev_mkm ev_lk ev_mup ev_mdl ev_lenm ev_isnilm mpOf_s mapAt_s mapOf_nil mapOf_mp isnilm_nil isnilm_mp lkR Option.getD_some Option.getD_none Option.isSome_none Prim.rdo ev_snp snp_own snp_v
/-- Bytes to a text. -/
def b2sF (st : Store) (a : AV) : Option ByteArray :=
  match a with
  | .v (.string _) => none
  | a => match elems st a with
    | some xs => match vals xs.flatten with
      | some vs => if vs.length = xs.length ∧ vs.all (fun | .int .u8 _ => true | _ => false) = true then some ⟨(vs.map fun | .int _ n => UInt8.ofNat n.toNat | _ => 0).toArray⟩ else none
      | none => none
    | none => none
theorem ev_b2s {G : Nat → Option (List AV)} {bs : List Nat} {e : Env} {st : Store} (x : Opd) : Prim.ev G bs e st (.b2s x) = (x.ev G e).bind fun a => (b2sF st a).bind fun s => some (.v (.string s), st) := by
  simp only [Prim.ev]
  cases x.ev G e with
  | none => rfl
  | some a =>
    have aux : ∀ o : Option (List (List AV)), (match o with
      | some xs => match vals xs.flatten with
        | some vs => if vs.length = xs.length ∧ vs.all (fun | .int .u8 _ => true | _ => false) = true then some (AV.v (.string ⟨(vs.map fun | .int _ n => UInt8.ofNat n.toNat | _ => 0).toArray⟩), st) else none
        | none => none
      | none => none) = (match o with
      | some xs => match vals xs.flatten with
        | some vs => if vs.length = xs.length ∧ vs.all (fun | .int .u8 _ => true | _ => false) = true then some (⟨(vs.map fun | .int _ n => UInt8.ofNat n.toNat | _ => 0).toArray⟩ : ByteArray) else none
        | none => none
      | none => none : Option ByteArray).bind fun s => some (.v (.string s), st) := by
      intro o
      cases o with
      | none => rfl
      | some xs => dsimp only; cases vals xs.flatten with
        | none => rfl
        | some vs => dsimp only; split <;> rfl
    have aux' := aux (elems st a)
    cases a with
    | v p => cases p with
      | string s => rfl
      | _ => exact aux'
    | _ => exact aux'
def byC (b : UInt8) : List AV := [.v (.int .u8 b.toNat)]
theorem ro_by : Ro byC := fun _ => rfl
def BAl (l : List UInt8) : ByteArray := ⟨l.toArray⟩
theorem BAl_size (l : List UInt8) : (BAl l).size = l.length := by simp [BAl, ByteArray.size]
theorem BAl_data (s : ByteArray) : BAl s.data.toList = s := rfl
theorem vals_by (l : List UInt8) : vals (l.map byC).flatten = some (l.map fun b => (.int .u8 b.toNat : Value)) := by
  induction l with
  | nil => rfl
  | cons b l ih => simp only [List.map_cons, List.flatten_cons, byC, List.cons_append, List.nil_append, vals, ih]
theorem b2s_by (st : Store) (s : Sl UInt8) : b2sF st (s.av 1 byC) = some (BAl s.list) := by
  have key : ∀ l : List UInt8, (match vals (l.map byC).flatten with
      | some vs => if vs.length = (l.map byC).length ∧ vs.all (fun | .int .u8 _ => true | _ => false) = true then some (⟨(vs.map fun | .int _ n => UInt8.ofNat n.toNat | _ => 0).toArray⟩ : ByteArray) else none
      | none => none) = some (BAl l) := by
    intro l
    rw [vals_by]
    have h1 : ((l.map fun b => (.int .u8 b.toNat : Value)).all fun | .int .u8 _ => true | _ => false) = true := by
      rw [List.all_map]
      exact List.all_eq_true.2 fun _ _ => rfl
    simp only [List.length_map, h1, and_self, if_true, List.map_map]
    congr 1
    unfold BAl
    congr 2
    have : ((fun | .int _ n => UInt8.ofNat n.toNat | _ => 0 : Value → UInt8) ∘ fun b : UInt8 => (.int .u8 b.toNat : Value)) = id := by
      funext b; simp [Function.comp]
    rw [this, List.map_id]
  cases s with
  | nil => rfl
  | mk xs => exact key xs
theorem s2b_av (s : ByteArray) : AV.sl 1 (s.data.toList.map fun b => [.v (.int .u8 b.toNat)]) = (Sl.mk s.data.toList).av 1 byC := rfl
theorem b2s_sl (st : Store) (l : List UInt8) : b2sF st (.sl 1 (l.map fun b => [.v (.int .u8 b.toNat)])) = some (BAl l) := b2s_by st (.mk l)
variable {E : Prog}
theorem fn_new (hE : Std E fns) (cap : Int) : callL E f_store_New [vi cap] [] [] = some (if cap < 1 ∨ 16777216 < cap then (.v (.pointer none), []) else (.ref 0 0 0 0, sto cap 0 false [])) := by
  rw [hE.runN rfl rfl]
  by_cases h1 : cap < 1 <;> by_cases h2 : 16777216 < cap <;> simp -implicitDefEqProofs only [go_sem, reduceIte, reduceCtorEq, Nat.reduceEqDiff, Nat.reduceAdd, Nat.reduceSub, Nat.reduceLT, Nat.reduceLeDiff, Nat.reduceBEq, Nat.reduceMul, Nat.reduceBNe, Int.reduceEq, Int.reduceLT, Int.reduceLE, Int.reduceNe, Int.reduceToNat, ir_store_New, sto, h1, h2, mapF_nil]
theorem mput_F' (n b : ByteArray) (s : Int) (y : Bool) (l : List FX) : mput .s (.string n) (.agg [.v (.string b), .v (.int .i64 s), .v (.bool y)]) (mapF l) = some (mapF (putL ⟨n, b, s, y⟩ l)) := mput_F ⟨n, b, s, y⟩ l
theorem fn_read (hE : Std E fns) (cap fuse : Int) (down : Bool) (l : List FX) (n : ByteArray) :
    callL E f_store_Store_Read [.ref 0 0 0 0, vs n] [] (sto cap fuse down l) = some (if down = true then .tup [.sl 1 [], vi 12] else match fndF n l with
      | none => .tup [.sl 1 [], vi 7]
      | some f => .tup [(Sl.mk f.b.data.toList).av 1 byC, vi 0], sto cap fuse down l) := by
  have h1 := fn_find hE cap fuse down l n
  rw [hE.runN rfl rfl]
  simp only [sto] at h1
  cases down with
  | true =>
    simp only [findS, if_true] at h1
    simp -implicitDefEqProofs only [go_sem, reduceIte, reduceCtorEq, Nat.reduceEqDiff, Nat.reduceAdd, Nat.reduceSub, Nat.reduceLT, Nat.reduceLeDiff, Nat.reduceBEq, Nat.reduceMul, Nat.reduceBNe, Int.reduceEq, Int.reduceLT, Int.reduceLE, Int.reduceNe, Int.reduceToNat, ir_store_Store_Read, sto, h1, mapF_ids, mapF_ren]
  | false =>
    cases h : fndF n l with
    | none =>
      simp only [findS, h, Bool.false_eq_true, if_false] at h1
      simp -implicitDefEqProofs only [go_sem, reduceIte, reduceCtorEq, Nat.reduceEqDiff, Nat.reduceAdd, Nat.reduceSub, Nat.reduceLT, Nat.reduceLeDiff, Nat.reduceBEq, Nat.reduceMul, Nat.reduceBNe, Int.reduceEq, Int.reduceLT, Int.reduceLE, Int.reduceNe, Int.reduceToNat, ir_store_Store_Read, sto, h1, mapF_ids, mapF_ren]
    | some f =>
      simp only [findS, h, Bool.false_eq_true, if_false, FX.val] at h1
      simp -implicitDefEqProofs only [go_sem, reduceIte, reduceCtorEq, Nat.reduceEqDiff, Nat.reduceAdd, Nat.reduceSub, Nat.reduceLT, Nat.reduceLeDiff, Nat.reduceBEq, Nat.reduceMul, Nat.reduceBNe, Int.reduceEq, Int.reduceLT, Int.reduceLE, Int.reduceNe, Int.reduceToNat, ir_store_Store_Read, sto, h1, mapF_ids, mapF_ren, s2b_av, ro_by]
/-- Error, deeds left, power, files. -/
def syncS (l : List FX) (down : Bool) (fuse : Int) (n : ByteArray) : Int × Int × Bool × List FX :=
  if down = true then (12, fuse, down, l) else match fndF n l with
    | none => (7, fuse, down, l)
    | some f => if burnt fuse = true then (12, fuseD fuse, downD fuse down, l) else (0, fuseD fuse, downD fuse down, putL ⟨n, f.b, f.b.size, true⟩ l)
theorem fn_sync (hE : Std E fns) (cap fuse : Int) (down : Bool) (l : List FX) (n : ByteArray) (hf : 0 ≤ fuse ∧ fuse ≤ 9223372036854775807) :
    callL E f_store_Store_Sync [.ref 0 0 0 0, vs n] [] (sto cap fuse down l) = some (vi (syncS l down fuse n).1, sto cap (syncS l down fuse n).2.1 (syncS l down fuse n).2.2.1 (syncS l down fuse n).2.2.2) := by
  have h1 := fn_find hE cap fuse down l n
  have h2 := fn_burns hE cap fuse down l hf
  rw [hE.runN rfl rfl]
  simp only [sto] at h1 h2
  cases down with
  | true =>
    simp only [findS, if_true] at h1
    simp -implicitDefEqProofs only [go_sem, reduceIte, reduceCtorEq, Nat.reduceEqDiff, Nat.reduceAdd, Nat.reduceSub, Nat.reduceLT, Nat.reduceLeDiff, Nat.reduceBEq, Nat.reduceMul, Nat.reduceBNe, Int.reduceEq, Int.reduceLT, Int.reduceLE, Int.reduceNe, Int.reduceToNat, ir_store_Store_Sync, sto, h1, mapF_ids, mapF_ren, syncS]
  | false =>
    cases h : fndF n l with
    | none =>
      simp only [findS, h, Bool.false_eq_true, if_false] at h1
      simp -implicitDefEqProofs only [go_sem, reduceIte, reduceCtorEq, Nat.reduceEqDiff, Nat.reduceAdd, Nat.reduceSub, Nat.reduceLT, Nat.reduceLeDiff, Nat.reduceBEq, Nat.reduceMul, Nat.reduceBNe, Int.reduceEq, Int.reduceLT, Int.reduceLE, Int.reduceNe, Int.reduceToNat, ir_store_Store_Sync, sto, h1, mapF_ids, mapF_ren, syncS, h]
    | some f =>
      simp only [findS, h, Bool.false_eq_true, if_false, FX.val] at h1
      cases hb : burnt fuse <;> rw [hb] at h2 <;> simp -implicitDefEqProofs only [go_sem, reduceIte, reduceCtorEq, Nat.reduceEqDiff, Nat.reduceAdd, Nat.reduceSub, Nat.reduceLT, Nat.reduceLeDiff, Nat.reduceBEq, Nat.reduceMul, Nat.reduceBNe, Int.reduceEq, Int.reduceLT, Int.reduceLE, Int.reduceNe, Int.reduceToNat, ir_store_Store_Sync, sto, h1, h2, mapF_ids, mapF_ren, syncS, h, hb, mput_F', eqV_s]
def removeS (l : List FX) (down : Bool) (fuse : Int) (n : ByteArray) : Int × Int × Bool × List FX :=
  if down = true then (12, fuse, down, l) else match fndF n l with
    | none => (7, fuse, down, l)
    | some f => if burnt fuse = true then (12, fuseD fuse, downD fuse down, l) else (0, fuseD fuse, downD fuse down, delL n l)
theorem fn_remove (hE : Std E fns) (cap fuse : Int) (down : Bool) (l : List FX) (n : ByteArray) (hf : 0 ≤ fuse ∧ fuse ≤ 9223372036854775807) :
    callL E f_store_Store_Remove [.ref 0 0 0 0, vs n] [] (sto cap fuse down l) = some (vi (removeS l down fuse n).1, sto cap (removeS l down fuse n).2.1 (removeS l down fuse n).2.2.1 (removeS l down fuse n).2.2.2) := by
  have h1 := fn_find hE cap fuse down l n
  have h2 := fn_burns hE cap fuse down l hf
  rw [hE.runN rfl rfl]
  simp only [sto] at h1 h2
  cases down with
  | true =>
    simp only [findS, if_true] at h1
    simp -implicitDefEqProofs only [go_sem, reduceIte, reduceCtorEq, Nat.reduceEqDiff, Nat.reduceAdd, Nat.reduceSub, Nat.reduceLT, Nat.reduceLeDiff, Nat.reduceBEq, Nat.reduceMul, Nat.reduceBNe, Int.reduceEq, Int.reduceLT, Int.reduceLE, Int.reduceNe, Int.reduceToNat, ir_store_Store_Remove, sto, h1, mapF_ids, mapF_ren, removeS]
  | false =>
    cases h : fndF n l with
    | none =>
      simp only [findS, h, Bool.false_eq_true, if_false] at h1
      simp -implicitDefEqProofs only [go_sem, reduceIte, reduceCtorEq, Nat.reduceEqDiff, Nat.reduceAdd, Nat.reduceSub, Nat.reduceLT, Nat.reduceLeDiff, Nat.reduceBEq, Nat.reduceMul, Nat.reduceBNe, Int.reduceEq, Int.reduceLT, Int.reduceLE, Int.reduceNe, Int.reduceToNat, ir_store_Store_Remove, sto, h1, mapF_ids, mapF_ren, removeS, h]
    | some f =>
      simp only [findS, h, Bool.false_eq_true, if_false, FX.val] at h1
      cases hb : burnt fuse <;> rw [hb] at h2 <;> simp -implicitDefEqProofs only [go_sem, reduceIte, reduceCtorEq, Nat.reduceEqDiff, Nat.reduceAdd, Nat.reduceSub, Nat.reduceLT, Nat.reduceLeDiff, Nat.reduceBEq, Nat.reduceMul, Nat.reduceBNe, Int.reduceEq, Int.reduceLT, Int.reduceLE, Int.reduceNe, Int.reduceToNat, ir_store_Store_Remove, sto, h1, h2, mapF_ids, mapF_ren, removeS, h, hb, mdel_F, eqV_s]
def truncS (l : List FX) (down : Bool) (fuse : Int) (n : ByteArray) (k : Int) : Int × Int × Bool × List FX :=
  if down = true then (12, fuse, down, l) else match fndF n l with
    | none => (7, fuse, down, l)
    | some f => if k < 0 ∨ (f.b.size : Int) < k then (1, fuse, down, l) else if burnt fuse = true then (12, fuseD fuse, downD fuse down, l) else (0, fuseD fuse, downD fuse down, putL ⟨n, f.b.extract 0 k.toNat, if k < f.sf then k else f.sf, f.sy⟩ l)
theorem fn_trunc (hE : Std E fns) (cap fuse : Int) (down : Bool) (l : List FX) (n : ByteArray) (k : Int) (hf : 0 ≤ fuse ∧ fuse ≤ 9223372036854775807) :
    callL E f_store_Store_Truncate [.ref 0 0 0 0, vs n, vi k] [] (sto cap fuse down l) = some (vi (truncS l down fuse n k).1, sto cap (truncS l down fuse n k).2.1 (truncS l down fuse n k).2.2.1 (truncS l down fuse n k).2.2.2) := by
  have h1 := fn_find hE cap fuse down l n
  have h2 := fn_burns hE cap fuse down l hf
  rw [hE.runN rfl rfl]
  simp only [sto] at h1 h2
  cases down with
  | true =>
    simp only [findS, if_true] at h1
    simp -implicitDefEqProofs only [go_sem, reduceIte, reduceCtorEq, Nat.reduceEqDiff, Nat.reduceAdd, Nat.reduceSub, Nat.reduceLT, Nat.reduceLeDiff, Nat.reduceBEq, Nat.reduceMul, Nat.reduceBNe, Int.reduceEq, Int.reduceLT, Int.reduceLE, Int.reduceNe, Int.reduceToNat, ir_store_Store_Truncate, sto, h1, mapF_ids, mapF_ren, truncS]
  | false =>
    cases h : fndF n l with
    | none =>
      simp only [findS, h, Bool.false_eq_true, if_false] at h1
      simp -implicitDefEqProofs only [go_sem, reduceIte, reduceCtorEq, Nat.reduceEqDiff, Nat.reduceAdd, Nat.reduceSub, Nat.reduceLT, Nat.reduceLeDiff, Nat.reduceBEq, Nat.reduceMul, Nat.reduceBNe, Int.reduceEq, Int.reduceLT, Int.reduceLE, Int.reduceNe, Int.reduceToNat, ir_store_Store_Truncate, sto, h1, mapF_ids, mapF_ren, truncS, h]
    | some f =>
      simp only [findS, h, Bool.false_eq_true, if_false, FX.val] at h1
      by_cases c1 : k < 0
      · simp -implicitDefEqProofs only [go_sem, reduceIte, reduceCtorEq, Nat.reduceEqDiff, Nat.reduceAdd, Nat.reduceSub, Nat.reduceLT, Nat.reduceLeDiff, Nat.reduceBEq, Nat.reduceMul, Nat.reduceBNe, Int.reduceEq, Int.reduceLT, Int.reduceLE, Int.reduceNe, Int.reduceToNat, ir_store_Store_Truncate, sto, h1, h2, mapF_ids, mapF_ren, truncS, h, c1]
      · by_cases c2 : (f.b.size : Int) < k
        · simp -implicitDefEqProofs only [go_sem, reduceIte, reduceCtorEq, Nat.reduceEqDiff, Nat.reduceAdd, Nat.reduceSub, Nat.reduceLT, Nat.reduceLeDiff, Nat.reduceBEq, Nat.reduceMul, Nat.reduceBNe, Int.reduceEq, Int.reduceLT, Int.reduceLE, Int.reduceNe, Int.reduceToNat, ir_store_Store_Truncate, sto, h1, h2, mapF_ids, mapF_ren, truncS, h, c1, c2]
        · have c3 : k ≤ (f.b.size : Int) := by omega
          have c4 : 0 ≤ k := by omega
          cases hb : burnt fuse <;> rw [hb] at h2 <;> simp -implicitDefEqProofs only [go_sem, reduceIte, reduceCtorEq, Nat.reduceEqDiff, Nat.reduceAdd, Nat.reduceSub, Nat.reduceLT, Nat.reduceLeDiff, Nat.reduceBEq, Nat.reduceMul, Nat.reduceBNe, Int.reduceEq, Int.reduceLT, Int.reduceLE, Int.reduceNe, Int.reduceToNat, ir_store_Store_Truncate, sto, h1, h2, mapF_ids, mapF_ren, truncS, h, hb, c1, c2, c3, c4, mput_F', eqV_s]
abbrev VOK (E : Prog) : Prop := ∀ s : ByteArray, s.size < 9223372036854775807 → callP E f_utf8_ValidString [vs s] = some (vb (Lib.validD s.data.toList))
/-- A file with bytes behind its own. -/
def appS (cap : Int) (l : List FX) (down : Bool) (fuse : Int) (n : ByteArray) (b : List UInt8) : Int × Int × Bool × List FX :=
  if down = true then (12, fuse, down, l) else if labelGood n = false then (10, fuse, down, l) else match fndF n l with
    | none => if l.length = 256 then (8, fuse, down, l) else if cap - totF l < b.length then (13, fuse, down, l) else (if burnt fuse = true then 12 else 0, fuseD fuse, downD fuse down, putL ⟨n, BAl b, 0, false⟩ l)
    | some f => if cap - totF l < b.length then (13, fuse, down, l) else (if burnt fuse = true then 12 else 0, fuseD fuse, downD fuse down, putL ⟨n, f.b ++ BAl b, f.sf, f.sy⟩ l)
theorem nil_app (s : ByteArray) : (⟨#[]⟩ : ByteArray) ++ s = s := by
  apply ByteArray.ext
  simp
theorem fn_append (hE : Std E fns) (hv : VOK E) (hS : SOK E) (cap fuse : Int) (down : Bool) (l : List FX) (n : ByteArray) (b : Sl UInt8) (hf : 0 ≤ fuse ∧ fuse ≤ 9223372036854775807) (hn : n.size < 9223372036854775807)
    (hc : 0 ≤ cap ∧ cap ≤ 4611686018427387904 ∧ (totF l : Int) ≤ cap) :
    callL E f_store_Store_Append [.ref 0 0 0 0, vs n, b.av 1 byC] [] (sto cap fuse down l) = some (vi (appS cap l down fuse n b.list).1, sto cap (appS cap l down fuse n b.list).2.1 (appS cap l down fuse n b.list).2.2.1 (appS cap l down fuse n b.list).2.2.2) := by
  have h2 := fun l' => fn_burns hE cap fuse down l' hf
  have h3 := fn_free hS cap fuse down l hc
  have h4 := fn_labelGood hE hv n hn
  have hbs := BAl_size b.list
  rw [hE.runN rfl rfl]
  simp only [sto] at h2 h3
  cases down with
  | true =>
    cases h : fndF n l <;> simp -implicitDefEqProofs only [go_sem, reduceIte, reduceCtorEq, Nat.reduceEqDiff, Nat.reduceAdd, Nat.reduceSub, Nat.reduceLT, Nat.reduceLeDiff, Nat.reduceBEq, Nat.reduceMul, Nat.reduceBNe, Int.reduceEq, Int.reduceLT, Int.reduceLE, Int.reduceNe, Int.reduceToNat, ir_store_Store_Append, sto, mfind_F, h, Option.map_none, Option.map_some, FX.val, appS, mapF_ids, mapF_ren]
  | false =>
    cases hg : labelGood n with
    | false => cases h : fndF n l <;> simp -implicitDefEqProofs only [go_sem, reduceIte, reduceCtorEq, Nat.reduceEqDiff, Nat.reduceAdd, Nat.reduceSub, Nat.reduceLT, Nat.reduceLeDiff, Nat.reduceBEq, Nat.reduceMul, Nat.reduceBNe, Int.reduceEq, Int.reduceLT, Int.reduceLE, Int.reduceNe, Int.reduceToNat, ir_store_Store_Append, sto, mfind_F, h, Option.map_none, Option.map_some, FX.val, appS, mapF_ids, mapF_ren, h4, hg]
    | true =>
      cases h : fndF n l with
      | none =>
        by_cases c1 : l.length = 256
        · have c1' : ((l.length : Nat) : Int) = 256 := by omega
          simp -implicitDefEqProofs only [go_sem, reduceIte, reduceCtorEq, Nat.reduceEqDiff, Nat.reduceAdd, Nat.reduceSub, Nat.reduceLT, Nat.reduceLeDiff, Nat.reduceBEq, Nat.reduceMul, Nat.reduceBNe, Int.reduceEq, Int.reduceLT, Int.reduceLE, Int.reduceNe, Int.reduceToNat, ir_store_Store_Append, sto, mfind_F, h, Option.map_none, Option.map_some, FX.val, appS, mapF_ids, mapF_ren, h4, hg, mapF_len, c1, show ((256 : Nat) : Int) = 256 from rfl]
        · have c1' : ¬ ((l.length : Nat) : Int) = 256 := by omega
          by_cases c2 : cap - totF l < b.list.length
          · simp -implicitDefEqProofs only [go_sem, reduceIte, reduceCtorEq, Nat.reduceEqDiff, Nat.reduceAdd, Nat.reduceSub, Nat.reduceLT, Nat.reduceLeDiff, Nat.reduceBEq, Nat.reduceMul, Nat.reduceBNe, Int.reduceEq, Int.reduceLT, Int.reduceLE, Int.reduceNe, Int.reduceToNat, ir_store_Store_Append, sto, mfind_F, h, Option.map_none, Option.map_some, FX.val, appS, mapF_ids, mapF_ren, h4, hg, mapF_len, c1, c1', h3, ro_by, c2]
          · have c3 : ¬ (9223372036854775807 : Int) < (((#[] : Array UInt8).size + (BAl b.list).size : Nat) : Int) := by
              have : (#[] : Array UInt8).size = 0 := rfl
              omega
            cases hb : burnt fuse <;> rw [hb] at h2 <;> simp -implicitDefEqProofs only [go_sem, reduceIte, reduceCtorEq, Nat.reduceEqDiff, Nat.reduceAdd, Nat.reduceSub, Nat.reduceLT, Nat.reduceLeDiff, Nat.reduceBEq, Nat.reduceMul, Nat.reduceBNe, Int.reduceEq, Int.reduceLT, Int.reduceLE, Int.reduceNe, Int.reduceToNat, ir_store_Store_Append, sto, mfind_F, h, Option.map_none, Option.map_some, FX.val, appS, mapF_ids, mapF_ren, h4, hg, mapF_len, c1, c1', h3, ro_by, c2, ev_b2s, b2s_by, c3, nil_app, mput_F', eqV_s, h2, hb]
      | some f =>
        by_cases c2 : cap - totF l < b.list.length
        · simp -implicitDefEqProofs only [go_sem, reduceIte, reduceCtorEq, Nat.reduceEqDiff, Nat.reduceAdd, Nat.reduceSub, Nat.reduceLT, Nat.reduceLeDiff, Nat.reduceBEq, Nat.reduceMul, Nat.reduceBNe, Int.reduceEq, Int.reduceLT, Int.reduceLE, Int.reduceNe, Int.reduceToNat, ir_store_Store_Append, sto, mfind_F, h, Option.map_none, Option.map_some, FX.val, appS, mapF_ids, mapF_ren, h4, hg, mapF_len, h3, ro_by, c2]
        · have c3 : ¬ (9223372036854775807 : Int) < ((f.b.size + (BAl b.list).size : Nat) : Int) := by
            have := tot_mem (fnd_mem h).1
            omega
          cases hb : burnt fuse <;> rw [hb] at h2 <;> simp -implicitDefEqProofs only [go_sem, reduceIte, reduceCtorEq, Nat.reduceEqDiff, Nat.reduceAdd, Nat.reduceSub, Nat.reduceLT, Nat.reduceLeDiff, Nat.reduceBEq, Nat.reduceMul, Nat.reduceBNe, Int.reduceEq, Int.reduceLT, Int.reduceLE, Int.reduceNe, Int.reduceToNat, ir_store_Store_Append, sto, mfind_F, h, Option.map_none, Option.map_some, FX.val, appS, mapF_ids, mapF_ren, h4, hg, mapF_len, h3, ro_by, c2, ev_b2s, b2s_by, c3, mput_F', eqV_s, h2, hb]
/-- What is left of a file behind a crash. -/
def leftN (f : FX) (k : Int) : Int := f.sf + (if (f.b.size : Int) - f.sf < mx0 k then (f.b.size : Int) - f.sf else mx0 k)
theorem fn_left (hE : Std E fns) (f : FX) (k : Int) (h0 : 0 ≤ f.sf ∧ f.sf ≤ f.b.size) (hb : f.b.size ≤ 4611686018427387904) :
    callP E f_store_file_left [f.val, vi k] = some (.tup [.agg [vs (f.b.extract 0 (leftN f k).toNat), vi (leftN f k), vb true], vb (f.sy || decide (0 < leftN f k))]) := by
  have w1 : IntKind.i64.wrap ((f.b.size : Int) - f.sf) = (f.b.size : Int) - f.sf := by rw [IntKind.wrap_i64]; omega
  have w2 : IntKind.i64.wrap (leftN f k) = leftN f k ∧ 0 ≤ leftN f k ∧ leftN f k ≤ f.b.size := by
    rw [IntKind.wrap_i64]; unfold leftN mx0; split <;> split <;> omega
  obtain ⟨w2, w3, w4⟩ := w2
  rw [hE.run rfl rfl]
  unfold leftN mx0 at w2 w3 w4 ⊢
  cases hy : f.sy <;> simp -implicitDefEqProofs only [go_sem, reduceIte, reduceCtorEq, Nat.reduceEqDiff, Nat.reduceAdd, Nat.reduceSub, Nat.reduceLT, Nat.reduceLeDiff, Nat.reduceBEq, Nat.reduceMul, Nat.reduceBNe, Int.reduceEq, Int.reduceLT, Int.reduceLE, Int.reduceNe, Int.reduceToNat, ir_store_file_left, FX.val, w1, w2, w3, w4, hy]
end Go.Proofs.YtaodpgpepmlfbaaDoor.Ev
