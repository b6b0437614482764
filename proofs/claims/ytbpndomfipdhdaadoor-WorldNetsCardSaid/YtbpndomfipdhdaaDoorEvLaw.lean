/-
  A law that the evaluator answers true: what the row's walk asks.
-/
import Derived.Test.YtbpndomfipdhdaaDoorEvRead
import Derived.Test.YtbpndomfipdhdaaDoorEvPure
set_option linter.unusedVariables false
set_option linter.unusedSimpArgs false
namespace Go.Proofs.YtbpndomfipdhdaaDoor.Ev
open Go.RowKit

theorem ext_below_ctx {w : World} {D : Ctx} (hx : Ext (World.ctx w) D) : Below w.heap.size w D.w :=
  ⟨hx.os, hx.tape, hx.out, hx.size, fun k hk => hx.frame k hk fun i o h => by simp [World.ctx] at h⟩
theorem law_calls {P : Program} {E : Prog} (hm : P.follows .mixedOrders = true) (hG : GRo E.glob) (hp : PrimOK P E) (hs : PrimSc E) (hf : ∀ f fd, E.fn f = some fd → FnChk P f fd) {f : Nat} {l : List AV} {x : Value} {cargs : List Value} {w : World}
    (h : callP E f l = some (.v x)) (hg : GlobR (World.ctx w) E.glob) (hv : VRt (World.ctx w) l cargs) : Calls P f cargs.toArray w fun e w' => e = .returned x ∧ Below w.heap.size w w' := by
  unfold callP at h
  split at h
  · rename_i r st k
    have hr : r = .v x := by
      cases r <;> simp only [AV.snap] at h <;> first | exact (Option.some.inj h) | (cases h; done) | (split at h <;> first | (cases h; done) | (split at h <;> cases h))
    subst hr
    obtain ⟨_, hc⟩ := call_ok (C := World.ctx w) hm hG hp hs hf k (ctx_ok w) hg hv
    refine Calls.mono hc ?_
    intro e w' he
    cases e with
    | returned v =>
      obtain ⟨D, rfl, hx, _, _, hv⟩ := he
      exact ⟨by rw [VR_plain hv], ext_below_ctx hx⟩
    | panicked c => exact he.elim
    | outgrown => exact he.elim
  · cases h
end Go.Proofs.YtbpndomfipdhdaaDoor.Ev
