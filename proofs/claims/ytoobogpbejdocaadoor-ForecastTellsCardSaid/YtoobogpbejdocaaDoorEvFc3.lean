import Derived.Test.YtoobogpbejdocaaDoorEvSa
import Derived.Test.YtoobogpbejdocaaDoorEvFc2
set_option linter.unusedVariables false
set_option linter.unusedSectionVars false
set_option linter.unusedSimpArgs false
namespace Go.Proofs.YtoobogpbejdocaaDoor.Ev
attribute [local congr] bind_congr_head
attribute [local go_sem] AV.cells AV.tuple elems boxQ callN_any compact_same compact_new aggOf
def fcA (s : LS) (d : DefT) (k : Int) (u : Bool) (e : Int) (p : PlanT) (tmo : Int) (P : List WnT) (h : Nat) (a now : Int) (st : Bool) : Store := match P with
  | [] => [.loop 1002400 [.ref 1 0 0 0, .ref 3 0 0 0, .ref 4 0 0 0, .ref 5 0 0 0, .ref 6 0 0 0] s, .box [.ref 2 0 0 0], .box [vs d.name, vi d.deadline, d.steps.av 12 StepT.cells, nilS, vi now, vb st], .box [vi k], .box [vb u], .box [vi e], .box [vi p.ret, vi p.base, vi p.fac, vi p.cap], .box [vi p.ret, vi p.base, vi p.fac, vi p.cap], .box [vi a], .box [vi tmo]]
  | x :: r => [.loop 1002400 [.ref 1 0 0 0, .ref 3 0 0 0, .ref 4 0 0 0, .ref 5 0 0 0, .ref 6 0 0 0] s, .box [.ref 2 0 0 0], .box [vs d.name, vi d.deadline, d.steps.av 12 StepT.cells, .own 10 h 0 (x :: r).length, vi now, vb st], .box [vi k], .box [vb u], .box [vi e], .box [vi p.ret, vi p.base, vi p.fac, vi p.cap], .box [vi p.ret, vi p.base, vi p.fac, vi p.cap], .box [vi a], .box [vi tmo], .row 5 h ((x :: r).map WnT.cells) false]
theorem fcA_nil (s : LS) (d : DefT) (k : Int) (u : Bool) (e : Int) (p : PlanT) (tmo : Int) (h : Nat) (a now : Int) (st : Bool) : fcA s d k u e p tmo [] h a now st = [.loop 1002400 [.ref 1 0 0 0, .ref 3 0 0 0, .ref 4 0 0 0, .ref 5 0 0 0, .ref 6 0 0 0] s, .box [.ref 2 0 0 0], .box [vs d.name, vi d.deadline, d.steps.av 12 StepT.cells, nilS, vi now, vb st], .box [vi k], .box [vb u], .box [vi e], .box [vi p.ret, vi p.base, vi p.fac, vi p.cap], .box [vi p.ret, vi p.base, vi p.fac, vi p.cap], .box [vi a], .box [vi tmo]] := rfl
theorem fcA_ne (s : LS) (d : DefT) (k : Int) (u : Bool) (e : Int) (p : PlanT) (tmo : Int) {P : List WnT} (hP : P ≠ []) (h : Nat) (a now : Int) (st : Bool) : fcA s d k u e p tmo P h a now st = [.loop 1002400 [.ref 1 0 0 0, .ref 3 0 0 0, .ref 4 0 0 0, .ref 5 0 0 0, .ref 6 0 0 0] s, .box [.ref 2 0 0 0], .box [vs d.name, vi d.deadline, d.steps.av 12 StepT.cells, .own 10 h 0 (P).length, vi now, vb st], .box [vi k], .box [vb u], .box [vi e], .box [vi p.ret, vi p.base, vi p.fac, vi p.cap], .box [vi p.ret, vi p.base, vi p.fac, vi p.cap], .box [vi a], .box [vi tmo], .row 5 h ((P).map WnT.cells) false] := by
  cases P with
  | nil => exact absurd rfl hP
  | cons x r => rfl
def kfA (X : Option (Sig × Env × Store)) : Option (AV × Store) := ((X.bind fun r => some (blkK [] 10 0 [] r)).bind (finK [])).bind fun q => some (compactV [] 10 q)
def enA (c n : Int) : Env := [(0, .yl 0), (1, .ref 7 0 0 0), (2, .ref 8 0 0 0), (3, .ref 9 0 0 0), (8, vi c), (9, vi n)]
def fcB (s : LS) (d : DefT) (k : Int) (u : Bool) (e : Int) (p : PlanT) (tmo : Int) (P : List WnT) (h : Nat) (a now : Int) (st : Bool) : Store := [.loop 1002400 [.ref 1 0 0 0, .ref 4 0 0 0, .ref 5 0 0 0, .ref 6 0 0 0, .ref 7 0 0 0] s, .box [.ref 2 0 0 0], .box [vs d.name, vi d.deadline, d.steps.av 12 StepT.cells, .own 3 h 0 (P).length, vi now, vb st], .row 5 h ((P).map WnT.cells) false, .box [vi k], .box [vb u], .box [vi e], .box [vi p.ret, vi p.base, vi p.fac, vi p.cap], .box [vi p.ret, vi p.base, vi p.fac, vi p.cap], .box [vi a], .box [vi tmo]]
def kfB (X : Option (Sig × Env × Store)) : Option (AV × Store) := ((X.bind fun r => some (blkK [] 11 0 [] r)).bind (finK [])).bind fun q => some (compactV [] 11 q)
def enB (c n : Int) : Env := [(0, .yl 0), (1, .ref 8 0 0 0), (2, .ref 9 0 0 0), (3, .ref 10 0 0 0), (8, vi c), (9, vi n)]
set_option maxHeartbeats 4000000 in
theorem it_A {E : Prog} (hE : Std E fns) (hlp : LpO E) (d : DefT) (k : Int) (u : Bool) (e : Int) (p : PlanT) (tmo : Int) (hp : planS p = true) (t1 : 1 ≤ tmo) (t2 : tmo ≤ 1099511627776) (now : Int) (st : Bool) {L : Env × Store → Option (Sig × Env × Store)}
    (hL : ∀ e st, L (e, st) = (IR.runL E.glob (callL E) [] ir_forecast_tries_1_L0 e st).bind (seqK fun e st => L (compact [] 10 [0, 1, 2, 3, 8, 9] e st))) :
    ∀ (m n : Nat) (a : Int) (P : List WnT) (h : Nat), ((n + m : Nat) : Int) = p.ret + 1 → 0 ≤ a → a ≤ 1099511627776 → P.length + m ≤ 9000 →
    ∃ (h' : Nat) (a' now' : Int) (st' : Bool) (fin : LS), kfA (L (enA (p.ret + 1) n, fcA .rdy d k u e p tmo P h a now st)) = some (.tup [], fcA fin d k u e p tmo (P ++ (trC p tmo k u e m n a).1) h' a' now' st') ∧
      ((fin = .done 1 ∧ now' = (trC p tmo k u e m n a).2 ∧ st' = decide (1099511627776 ≤ (trC p tmo k u e m n a).2)) ∨ (fin = .rdy ∧ (trC p tmo k u e m n a).2 = e ∧ now' = now ∧ st' = st))
  | 0, n, a, P, h, hm, a0, a1, hP => by
    have hc : (n : Int) = p.ret + 1 := by omega
    refine ⟨h, a, now, st, .rdy, ?_, .inr ⟨rfl, rfl, rfl, rfl⟩⟩
    have e1 : P ++ (trC p tmo k u e 0 n a).1 = P := by simp [trC]
    rw [e1, hL]
    have w : ¬ (n : Int) < p.ret + 1 := by omega
    by_cases hne : P = []
    · subst hne
      rw [fcA_nil]
      simp -implicitDefEqProofs only [go_sem, w, ↓reduceIte, enA, ir_forecast_tries_1_L0, kfA, WnT.cells, ro_step, ro_wn, gor_b, gand_b, Bool.or_true, Bool.true_or, Bool.or_false, Bool.false_or, Int.natCast_nonneg, List.length_append]
      try rfl
    · rw [fcA_ne _ _ _ _ _ _ _ hne]
      simp -implicitDefEqProofs only [go_sem, w, ↓reduceIte, enA, ir_forecast_tries_1_L0, kfA, WnT.cells, ro_step, ro_wn, gor_b, gand_b, Bool.or_true, Bool.true_or, Bool.or_false, Bool.false_or, Int.natCast_nonneg, List.length_append]
      try rfl
  | m + 1, n, a, P, h, hm, a0, a1, hP => by
    have w : (n : Int) < p.ret + 1 := by omega
    have hpo := plan_ok hp
    have q0 := hpo.r0; have q1 := hpo.r1
    have w6 : IntKind.i64.wrap ((n : Int) + 1) = (n : Int) + 1 := IntWalk.i64_in _ (by omega)
    have hz : callP E f_tick_Add [vi a, vi tmo] = some (vi (tickAdd a tmo)) := fn_tickAdd hE a tmo
    by_cases c0 : 1099511627776 ≤ a
    · have e1 : trC p tmo k u e (m + 1) n a = ([], e) := by rw [trC, if_pos c0]
      rw [e1]
      refine ⟨h, a, now, st, .rdy, ?_, .inr ⟨rfl, rfl, rfl, rfl⟩⟩
      rw [hL, List.append_nil]
      by_cases hne : P = []
      · subst hne
        rw [fcA_nil]
        simp -implicitDefEqProofs only [go_sem, w, w6, hz, c0, ↓reduceIte, enA, ir_forecast_tries_1_L0, kfA, WnT.cells, ro_step, ro_wn, gor_b, gand_b, Bool.or_true, Bool.true_or, Bool.or_false, Bool.false_or, Int.natCast_nonneg, List.length_append]
        try rfl
      · rw [fcA_ne _ _ _ _ _ _ _ hne]
        simp -implicitDefEqProofs only [go_sem, w, w6, hz, c0, ↓reduceIte, enA, ir_forecast_tries_1_L0, kfA, WnT.cells, ro_step, ro_wn, gor_b, gand_b, Bool.or_true, Bool.true_or, Bool.or_false, Bool.false_or, Int.natCast_nonneg, List.length_append]
        try rfl
    · rw [trC, if_neg c0]
      generalize hzz : tickAdd a tmo = z at *
      by_cases c1 : e ≤ a
      · rw [if_pos c1]
        by_cases hne : P = []
        · subst hne
          refine ⟨h, a, e, decide (1099511627776 ≤ e), .done 1, ?_, .inl ⟨rfl, rfl, rfl⟩⟩
          have hb := bAn_r1 hE hlp d k u e p tmo a (n : Int) z now st c1
          rw [hL, List.append_nil]
          rw [fcA_nil, fcA_nil]
          try simp only [WnT.cells] at hb
          simp -implicitDefEqProofs only [go_sem, w, w6, hz, hzz, c0, hb, ↓reduceIte, enA, ir_forecast_tries_1_L0, kfA, WnT.cells, ro_step, ro_wn, gor_b, gand_b, Bool.or_true, Bool.true_or, Bool.or_false, Bool.false_or, Int.natCast_nonneg, List.length_append]
          try rfl
        · refine ⟨h, a, e, decide (1099511627776 ≤ e), .done 1, ?_, .inl ⟨rfl, rfl, rfl⟩⟩
          have hb := bAr_r1 hE hlp d k u e p tmo a (n : Int) z now st P h (by omega) c1
          rw [hL, List.append_nil]
          rw [fcA_ne _ _ _ _ _ _ _ hne, fcA_ne _ _ _ _ _ _ _ hne]
          try simp only [WnT.cells] at hb
          simp -implicitDefEqProofs only [go_sem, w, w6, hz, hzz, c0, hb, ↓reduceIte, enA, ir_forecast_tries_1_L0, kfA, WnT.cells, ro_step, ro_wn, gor_b, gand_b, Bool.or_true, Bool.true_or, Bool.or_false, Bool.false_or, Int.natCast_nonneg, List.length_append]
          try rfl
      · rw [if_neg c1]
        by_cases c2 : e < z
        · rw [if_pos c2]
          by_cases hne : P = []
          · subst hne
            refine ⟨0, a, e, decide (1099511627776 ≤ e), .done 1, ?_, .inl ⟨rfl, rfl, rfl⟩⟩
            have hb := bAn_r2a hE hlp d k u e p tmo a (n : Int) z now st c1 c2 q0 q1
            rw [hL, List.nil_append, fcA_nil, fcA_ne _ _ _ _ _ _ _ (by simp)]
            simp only [List.map_cons, List.map_nil, List.length_cons, List.length_nil]
            try simp only [WnT.cells] at hb
            simp -implicitDefEqProofs only [go_sem, w, w6, hz, hzz, c0, hb, ↓reduceIte, enA, ir_forecast_tries_1_L0, kfA, WnT.cells, ro_step, ro_wn, gor_b, gand_b, Bool.or_true, Bool.true_or, Bool.or_false, Bool.false_or, Int.natCast_nonneg, List.length_append]
            try rfl
          · refine ⟨(h + 1), a, e, decide (1099511627776 ≤ e), .done 1, ?_, .inl ⟨rfl, rfl, rfl⟩⟩
            have hb := bAr_r2a hE hlp d k u e p tmo a (n : Int) z now st P h (by omega) c1 c2 q0 q1
            rw [hL, fcA_ne _ _ _ _ _ _ _ hne, fcA_ne _ _ _ _ _ _ _ (ne_app P _)]
            generalize P ++ [(⟨k, u, (n : Int) + 1, a, e⟩ : WnT)] = P2 at hb ⊢
            try simp only [WnT.cells] at hb
            simp -implicitDefEqProofs only [go_sem, w, w6, hz, hzz, c0, hb, ↓reduceIte, enA, ir_forecast_tries_1_L0, kfA, WnT.cells, ro_step, ro_wn, gor_b, gand_b, Bool.or_true, Bool.true_or, Bool.or_false, Bool.false_or, Int.natCast_nonneg, List.length_append]
            try rfl
        · rw [if_neg c2]
          by_cases c3 : z = e ∧ (n : Int) + 1 ≤ p.ret
          · rw [if_pos c3]
            by_cases hne : P = []
            · subst hne
              refine ⟨0, a, e, decide (1099511627776 ≤ e), .done 1, ?_, .inl ⟨rfl, rfl, rfl⟩⟩
              have hb := bAn_r2b hE hlp d k u e p tmo a (n : Int) z now st c1 c2 c3.1 c3.2 q0 q1
              rw [hL, List.nil_append, fcA_nil, fcA_ne _ _ _ _ _ _ _ (by simp)]
              simp only [List.map_cons, List.map_nil, List.length_cons, List.length_nil]
              try simp only [WnT.cells] at hb
              simp -implicitDefEqProofs only [go_sem, w, w6, hz, hzz, c0, hb, ↓reduceIte, enA, ir_forecast_tries_1_L0, kfA, WnT.cells, ro_step, ro_wn, gor_b, gand_b, Bool.or_true, Bool.true_or, Bool.or_false, Bool.false_or, Int.natCast_nonneg, List.length_append]
              try rfl
            · refine ⟨(h + 1), a, e, decide (1099511627776 ≤ e), .done 1, ?_, .inl ⟨rfl, rfl, rfl⟩⟩
              have hb := bAr_r2b hE hlp d k u e p tmo a (n : Int) z now st P h (by omega) c1 c2 c3.1 c3.2 q0 q1
              rw [hL, fcA_ne _ _ _ _ _ _ _ hne, fcA_ne _ _ _ _ _ _ _ (ne_app P _)]
              generalize P ++ [(⟨k, u, (n : Int) + 1, a, e⟩ : WnT)] = P2 at hb ⊢
              try simp only [WnT.cells] at hb
              simp -implicitDefEqProofs only [go_sem, w, w6, hz, hzz, c0, hb, ↓reduceIte, enA, ir_forecast_tries_1_L0, kfA, WnT.cells, ro_step, ro_wn, gor_b, gand_b, Bool.or_true, Bool.true_or, Bool.or_false, Bool.false_or, Int.natCast_nonneg, List.length_append]
              try rfl
          · rw [if_neg c3]
            by_cases c5 : (n : Int) = p.ret
            · rw [if_pos c5]
              by_cases hne : P = []
              · subst hne
                refine ⟨0, a, z, decide (1099511627776 ≤ z), .done 1, ?_, .inl ⟨rfl, rfl, rfl⟩⟩
                have hb := bAn_r3 hE hlp d k u e p tmo a (n : Int) z now st c1 c2 (by omega) c5 q0 q1
                rw [hL, List.nil_append, fcA_nil, fcA_ne _ _ _ _ _ _ _ (by simp)]
                simp only [List.map_cons, List.map_nil, List.length_cons, List.length_nil]
                try simp only [WnT.cells] at hb
                simp -implicitDefEqProofs only [go_sem, w, w6, hz, hzz, c0, hb, ↓reduceIte, enA, ir_forecast_tries_1_L0, kfA, WnT.cells, ro_step, ro_wn, gor_b, gand_b, Bool.or_true, Bool.true_or, Bool.or_false, Bool.false_or, Int.natCast_nonneg, List.length_append]
                try rfl
              · refine ⟨(h + 1), a, z, decide (1099511627776 ≤ z), .done 1, ?_, .inl ⟨rfl, rfl, rfl⟩⟩
                have hb := bAr_r3 hE hlp d k u e p tmo a (n : Int) z now st P h (by omega) c1 c2 (by omega) c5 q0 q1
                rw [hL, fcA_ne _ _ _ _ _ _ _ hne, fcA_ne _ _ _ _ _ _ _ (ne_app P _)]
                generalize P ++ [(⟨k, u, (n : Int) + 1, a, z⟩ : WnT)] = P2 at hb ⊢
                try simp only [WnT.cells] at hb
                simp -implicitDefEqProofs only [go_sem, w, w6, hz, hzz, c0, hb, ↓reduceIte, enA, ir_forecast_tries_1_L0, kfA, WnT.cells, ro_step, ro_wn, gor_b, gand_b, Bool.or_true, Bool.true_or, Bool.or_false, Bool.false_or, Int.natCast_nonneg, List.length_append]
                try rfl
            · rw [if_neg c5]
              have c3' : ¬ z = e := fun hh => c3 ⟨hh, by omega⟩
              have hw := fn_wait hE p hp n (by omega)
              simp only [PlanT.cells] at hw
              obtain ⟨wt1, wt2⟩ := wait_in hpo n
              obtain ⟨b1, b2, b3⟩ := tick_add a0 a1 t1 t2
              rw [hzz] at b1 b2 b3
              obtain ⟨g1, g2, g3⟩ := tick_add (a := z) (by omega) b2 wt1 wt2
              have hy : callP E f_tick_Add [vi z, vi (waitS p n)] = some (vi (tickAdd z (waitS p n))) := fn_tickAdd hE z (waitS p n)
              generalize tickAdd z (waitS p n) = y at *
              by_cases hne : P = []
              · subst hne
                obtain ⟨h', a', now', st', fin, ih, hd⟩ := it_A hE hlp d k u e p tmo hp t1 t2 now st hL m (n + 1) y ([(⟨k, u, (n : Int) + 1, a, z⟩ : WnT)]) 0 (by omega) (by omega) g2 (by simp only [List.length_append, List.length_cons, List.length_nil]; omega)
                refine ⟨h', a', now', st', fin, ?_, hd⟩
                have hb := bAn_r4 hE hlp d k u e p tmo a (n : Int) z now st c1 c2 c3' c5 q0 q1
                have key : L (enA (p.ret + 1) n, fcA .rdy d k u e p tmo [] h a now st) = L (enA (p.ret + 1) ((n + 1 : Nat) : Int), fcA .rdy d k u e p tmo ([(⟨k, u, (n : Int) + 1, a, z⟩ : WnT)]) 0 y now st) := by
                  rw [hL, fcA_nil, fcA_ne _ _ _ _ _ _ _ (by simp), Int.natCast_succ]
                  simp only [List.map_cons, List.map_nil, List.length_cons, List.length_nil]
                  try simp only [WnT.cells] at hb
                  simp -implicitDefEqProofs only [go_sem, w, w6, hz, hzz, c0, hb, hw, hy, ↓reduceIte, enA, ir_forecast_tries_1_L0, kfA, WnT.cells, ro_step, ro_wn, gor_b, gand_b, Bool.or_true, Bool.true_or, Bool.or_false, Bool.false_or, Int.natCast_nonneg, List.length_append]
                  try rfl
                rw [key, ih]
                try rfl
              · obtain ⟨h', a', now', st', fin, ih, hd⟩ := it_A hE hlp d k u e p tmo hp t1 t2 now st hL m (n + 1) y (P ++ [(⟨k, u, (n : Int) + 1, a, z⟩ : WnT)]) (h + 1) (by omega) (by omega) g2 (by simp only [List.length_append, List.length_cons, List.length_nil]; omega)
                refine ⟨h', a', now', st', fin, ?_, hd⟩
                have hb := bAr_r4 hE hlp d k u e p tmo a (n : Int) z now st P h (by omega) c1 c2 c3' c5 q0 q1
                have key : L (enA (p.ret + 1) n, fcA .rdy d k u e p tmo P h a now st) = L (enA (p.ret + 1) ((n + 1 : Nat) : Int), fcA .rdy d k u e p tmo (P ++ [(⟨k, u, (n : Int) + 1, a, z⟩ : WnT)]) (h + 1) y now st) := by
                  rw [hL, fcA_ne _ _ _ _ _ _ _ hne, fcA_ne _ _ _ _ _ _ _ (ne_app P _), Int.natCast_succ]
                  generalize P ++ [(⟨k, u, (n : Int) + 1, a, z⟩ : WnT)] = P2 at hb ⊢
                  try simp only [WnT.cells] at hb
                  simp -implicitDefEqProofs only [go_sem, w, w6, hz, hzz, c0, hb, hw, hy, ↓reduceIte, enA, ir_forecast_tries_1_L0, kfA, WnT.cells, ro_step, ro_wn, gor_b, gand_b, Bool.or_true, Bool.true_or, Bool.or_false, Bool.false_or, Int.natCast_nonneg, List.length_append]
                  try rfl
                rw [key, ih, List.append_assoc]
                try rfl
set_option maxHeartbeats 4000000 in
theorem it_B {E : Prog} (hE : Std E fns) (hlp : LpO E) (d : DefT) (k : Int) (u : Bool) (e : Int) (p : PlanT) (tmo : Int) (hp : planS p = true) (t1 : 1 ≤ tmo) (t2 : tmo ≤ 1099511627776) (now : Int) (st : Bool) {L : Env × Store → Option (Sig × Env × Store)}
    (hL : ∀ e st, L (e, st) = (IR.runL E.glob (callL E) [] ir_forecast_tries_1_L0 e st).bind (seqK fun e st => L (compact [] 11 [0, 1, 2, 3, 8, 9] e st))) :
    ∀ (m n : Nat) (a : Int) (P : List WnT) (h : Nat), ((n + m : Nat) : Int) = p.ret + 1 → 0 ≤ a → a ≤ 1099511627776 → P.length + m ≤ 9000 → P ≠ [] →
    ∃ (h' : Nat) (a' now' : Int) (st' : Bool) (fin : LS), kfB (L (enB (p.ret + 1) n, fcB .rdy d k u e p tmo P h a now st)) = some (.tup [], fcB fin d k u e p tmo (P ++ (trC p tmo k u e m n a).1) h' a' now' st') ∧
      ((fin = .done 1 ∧ now' = (trC p tmo k u e m n a).2 ∧ st' = decide (1099511627776 ≤ (trC p tmo k u e m n a).2)) ∨ (fin = .rdy ∧ (trC p tmo k u e m n a).2 = e ∧ now' = now ∧ st' = st))
  | 0, n, a, P, h, hm, a0, a1, hP, hne => by
    have hc : (n : Int) = p.ret + 1 := by omega
    refine ⟨h, a, now, st, .rdy, ?_, .inr ⟨rfl, rfl, rfl, rfl⟩⟩
    have e1 : P ++ (trC p tmo k u e 0 n a).1 = P := by simp [trC]
    rw [e1, hL]
    have w : ¬ (n : Int) < p.ret + 1 := by omega
    simp only [fcB]
    simp -implicitDefEqProofs only [go_sem, w, ↓reduceIte, enB, ir_forecast_tries_1_L0, kfB, WnT.cells, ro_step, ro_wn, gor_b, gand_b, Bool.or_true, Bool.true_or, Bool.or_false, Bool.false_or, Int.natCast_nonneg, List.length_append]
    try rfl
  | m + 1, n, a, P, h, hm, a0, a1, hP, hne => by
    have w : (n : Int) < p.ret + 1 := by omega
    have hpo := plan_ok hp
    have q0 := hpo.r0; have q1 := hpo.r1
    have w6 : IntKind.i64.wrap ((n : Int) + 1) = (n : Int) + 1 := IntWalk.i64_in _ (by omega)
    have hz : callP E f_tick_Add [vi a, vi tmo] = some (vi (tickAdd a tmo)) := fn_tickAdd hE a tmo
    by_cases c0 : 1099511627776 ≤ a
    · have e1 : trC p tmo k u e (m + 1) n a = ([], e) := by rw [trC, if_pos c0]
      rw [e1]
      refine ⟨h, a, now, st, .rdy, ?_, .inr ⟨rfl, rfl, rfl, rfl⟩⟩
      rw [hL, List.append_nil]
      simp only [fcB]
      simp -implicitDefEqProofs only [go_sem, w, w6, hz, c0, ↓reduceIte, enB, ir_forecast_tries_1_L0, kfB, WnT.cells, ro_step, ro_wn, gor_b, gand_b, Bool.or_true, Bool.true_or, Bool.or_false, Bool.false_or, Int.natCast_nonneg, List.length_append]
      try rfl
    · rw [trC, if_neg c0]
      generalize hzz : tickAdd a tmo = z at *
      by_cases c1 : e ≤ a
      · rw [if_pos c1]
        refine ⟨h, a, e, decide (1099511627776 ≤ e), .done 1, ?_, .inl ⟨rfl, rfl, rfl⟩⟩
        have hb := bBr_r1 hE hlp d k u e p tmo a (n : Int) z now st P h (by omega) c1
        rw [hL, List.append_nil]
        simp only [fcB]
        try simp only [WnT.cells] at hb
        simp -implicitDefEqProofs only [go_sem, w, w6, hz, hzz, c0, hb, ↓reduceIte, enB, ir_forecast_tries_1_L0, kfB, WnT.cells, ro_step, ro_wn, gor_b, gand_b, Bool.or_true, Bool.true_or, Bool.or_false, Bool.false_or, Int.natCast_nonneg, List.length_append]
        try rfl
      · rw [if_neg c1]
        by_cases c2 : e < z
        · rw [if_pos c2]
          refine ⟨(h + 1), a, e, decide (1099511627776 ≤ e), .done 1, ?_, .inl ⟨rfl, rfl, rfl⟩⟩
          have hb := bBr_r2a hE hlp d k u e p tmo a (n : Int) z now st P h (by omega) c1 c2 q0 q1
          rw [hL]
          simp only [fcB]
          generalize P ++ [(⟨k, u, (n : Int) + 1, a, e⟩ : WnT)] = P2 at hb ⊢
          try simp only [WnT.cells] at hb
          simp -implicitDefEqProofs only [go_sem, w, w6, hz, hzz, c0, hb, ↓reduceIte, enB, ir_forecast_tries_1_L0, kfB, WnT.cells, ro_step, ro_wn, gor_b, gand_b, Bool.or_true, Bool.true_or, Bool.or_false, Bool.false_or, Int.natCast_nonneg, List.length_append]
          try rfl
        · rw [if_neg c2]
          by_cases c3 : z = e ∧ (n : Int) + 1 ≤ p.ret
          · rw [if_pos c3]
            refine ⟨(h + 1), a, e, decide (1099511627776 ≤ e), .done 1, ?_, .inl ⟨rfl, rfl, rfl⟩⟩
            have hb := bBr_r2b hE hlp d k u e p tmo a (n : Int) z now st P h (by omega) c1 c2 c3.1 c3.2 q0 q1
            rw [hL]
            simp only [fcB]
            generalize P ++ [(⟨k, u, (n : Int) + 1, a, e⟩ : WnT)] = P2 at hb ⊢
            try simp only [WnT.cells] at hb
            simp -implicitDefEqProofs only [go_sem, w, w6, hz, hzz, c0, hb, ↓reduceIte, enB, ir_forecast_tries_1_L0, kfB, WnT.cells, ro_step, ro_wn, gor_b, gand_b, Bool.or_true, Bool.true_or, Bool.or_false, Bool.false_or, Int.natCast_nonneg, List.length_append]
            try rfl
          · rw [if_neg c3]
            by_cases c5 : (n : Int) = p.ret
            · rw [if_pos c5]
              refine ⟨(h + 1), a, z, decide (1099511627776 ≤ z), .done 1, ?_, .inl ⟨rfl, rfl, rfl⟩⟩
              have hb := bBr_r3 hE hlp d k u e p tmo a (n : Int) z now st P h (by omega) c1 c2 (by omega) c5 q0 q1
              rw [hL]
              simp only [fcB]
              generalize P ++ [(⟨k, u, (n : Int) + 1, a, z⟩ : WnT)] = P2 at hb ⊢
              try simp only [WnT.cells] at hb
              simp -implicitDefEqProofs only [go_sem, w, w6, hz, hzz, c0, hb, ↓reduceIte, enB, ir_forecast_tries_1_L0, kfB, WnT.cells, ro_step, ro_wn, gor_b, gand_b, Bool.or_true, Bool.true_or, Bool.or_false, Bool.false_or, Int.natCast_nonneg, List.length_append]
              try rfl
            · rw [if_neg c5]
              have c3' : ¬ z = e := fun hh => c3 ⟨hh, by omega⟩
              have hw := fn_wait hE p hp n (by omega)
              simp only [PlanT.cells] at hw
              obtain ⟨wt1, wt2⟩ := wait_in hpo n
              obtain ⟨b1, b2, b3⟩ := tick_add a0 a1 t1 t2
              rw [hzz] at b1 b2 b3
              obtain ⟨g1, g2, g3⟩ := tick_add (a := z) (by omega) b2 wt1 wt2
              have hy : callP E f_tick_Add [vi z, vi (waitS p n)] = some (vi (tickAdd z (waitS p n))) := fn_tickAdd hE z (waitS p n)
              generalize tickAdd z (waitS p n) = y at *
              obtain ⟨h', a', now', st', fin, ih, hd⟩ := it_B hE hlp d k u e p tmo hp t1 t2 now st hL m (n + 1) y (P ++ [(⟨k, u, (n : Int) + 1, a, z⟩ : WnT)]) (h + 1) (by omega) (by omega) g2 (by simp only [List.length_append, List.length_cons, List.length_nil]; omega) (ne_app P _)
              refine ⟨h', a', now', st', fin, ?_, hd⟩
              have hb := bBr_r4 hE hlp d k u e p tmo a (n : Int) z now st P h (by omega) c1 c2 c3' c5 q0 q1
              have key : L (enB (p.ret + 1) n, fcB .rdy d k u e p tmo P h a now st) = L (enB (p.ret + 1) ((n + 1 : Nat) : Int), fcB .rdy d k u e p tmo (P ++ [(⟨k, u, (n : Int) + 1, a, z⟩ : WnT)]) (h + 1) y now st) := by
                rw [hL, Int.natCast_succ]
                simp only [fcB]
                generalize P ++ [(⟨k, u, (n : Int) + 1, a, z⟩ : WnT)] = P2 at hb ⊢
                try simp only [WnT.cells] at hb
                simp -implicitDefEqProofs only [go_sem, w, w6, hz, hzz, c0, hb, hw, hy, ↓reduceIte, enB, ir_forecast_tries_1_L0, kfB, WnT.cells, ro_step, ro_wn, gor_b, gand_b, Bool.or_true, Bool.true_or, Bool.or_false, Bool.false_or, Int.natCast_nonneg, List.length_append]
                try rfl
              rw [key, ih, List.append_assoc]
              try rfl
end Go.Proofs.YtoobogpbejdocaaDoor.Ev
