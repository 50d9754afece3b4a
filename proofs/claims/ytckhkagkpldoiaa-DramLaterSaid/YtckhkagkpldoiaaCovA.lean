/- FaultCovers in the mode 1. -/
import Derived.Test.YtckhkagkpldoiaaFlX
import Derived.Test.YtckhkagkpldoiaaRvX
import Derived.WalkKit
import Derived.Sort.CutIn
namespace Go.Proofs.Ytckhkagkpldoiaa
open Go.RowKit Go.Shelf
attribute [local go_sem] Oper.semAt_some
set_option linter.unusedVariables false
set_option linter.unusedSimpArgs false

section
variable {P : Program} {T : TypeId} {x y : Operand} {a c : Int} {w : World}
end
section
variable {k p0 p1 p2 p3 c b v mode q0 q1 q2 q3 : Int} {xs : List UInt8}
theorem fcov_bit (hm : mode = 1 ∨ mode = 2) (hk : k = 1 ∨ k = 2) (h0 : 0 ≤ b) (h1 : b < 576) : fcovers k p0 p1 p2 p3 c b v mode = ((b.toNat / 8 % chN mode : Nat) : Int) := by
  have e1 : whoseE mode b = 0 := if_pos ⟨h0, h1, hm⟩
  have e2 : whoseC mode b = b.toNat / 8 % chN mode := if_pos ⟨h0, h1, hm⟩
  unfold fcovers
  rw [e1, e2]
  rcases hk with rfl | rfl <;> rfl
theorem fcov_chip (hk : 3 ≤ k ∧ k ≤ 5) : fcovers k p0 p1 p2 p3 c b v mode = if 0 ≤ c ∧ c < chN mode then c else -1 := by
  have h : k = 3 ∨ k = 4 ∨ k = 5 := by omega
  have hb : fbelow c ((chN mode : Nat) : Int) = decide (0 ≤ c ∧ c < chN mode) := by unfold fbelow; rw [Bool.decide_and]
  unfold fcovers
  rw [hb]
  by_cases hc : 0 ≤ c ∧ c < chN mode
  · rw [if_pos hc, decide_eq_true hc]
    rcases h with rfl | rfl | rfl <;> rfl
  · rw [if_neg hc, decide_eq_false hc]
    rcases h with rfl | rfl | rfl <;> rfl
end
attribute [local irreducible] fapply fcovers fnarrow expo forceI chipB

end Go.Proofs.Ytckhkagkpldoiaa
