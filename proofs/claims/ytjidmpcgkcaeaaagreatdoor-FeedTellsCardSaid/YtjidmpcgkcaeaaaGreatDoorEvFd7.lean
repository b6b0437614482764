import Derived.Test.YtjidmpcgkcaeaaaGreatDoorEvSa
import Derived.Test.YtjidmpcgkcaeaaaGreatDoorEvFd6
set_option linter.unusedVariables false
set_option linter.unusedSimpArgs false
namespace Go.Proofs.YtjidmpcgkcaeaaaGreatDoor.Ev
attribute [local congr] bind_congr_head
attribute [local go_sem] AV.cells AV.tuple elems boxQ callN_any compact_same compact_new aggOf
theorem steps_good {E : Prog} (hE : Std E fns) {x y : StT} {l : List EvT} {T : List (StT × StT × CmT)} {b : Bool} (t : Steps E x y l T b) : b = true → (∀ v, v ∈ l → shortS v = 0) → ∀ v, v ∈ l → evGood v = true := by
  induction t with
  | nil => intro _ _ v h; cases h
  | stop => intro h; cases h
  | @go x y v r x' y' c T b d1 d2 q ok gr t ih =>
    intro hb hs w hw
    rcases List.mem_cons.1 hw with rfl | hw
    · cases hg : evGood w with
      | true => rfl
      | false =>
        obtain ⟨s1, s2⟩ := short_ev (hs w List.mem_cons_self)
        have h := ref_bad hE y w s1 s2 limS hg
        rw [d2] at h
        simp only [ansA, Option.some.injEq, AV.tup.injEq, List.cons.injEq, AV.v.injEq, Value.int.injEq, and_true, true_and] at h
        omega
    · exact ih hb (fun u hu => hs u (List.mem_cons_of_mem _ hu)) w hw
end Go.Proofs.YtjidmpcgkcaeaaaGreatDoor.Ev
