/- FaultCovers in the mode 1. -/
import Derived.Test.YtckhkagkpldoiaaFlX
import Derived.Test.YtckhkagkpldoiaaRvX
import Derived.WalkKit
import Derived.Sort.CutIn
namespace Go.Proofs.Ytckhkagkpldoiaa
open Go.RowKit Go.Shelf
attribute [local go_sem] Oper.semAt_some
set_option linter.unusedVariables false
set_option linter.unusedSimpArgs false

section
variable {P : Program} {T : TypeId} {x y : Operand} {a c : Int} {w : World}
theorem bin_quo_in (h0 : 0 ≤ a) (h1 : a ≤ 9223372036854775807) (h2 : 1 ≤ c) : (do eqGuard .quo T x y (.int .i64 a) (.int .i64 c); Go.binOp .quo T (.int .i64 a) (.int .i64 c) : Sem Value).run P w = .ok (.int .i64 (a / c)) w := by
  have h : c ≠ 0 := by omega
  simp [eqGuard, Go.binOp, Op.intDiv, h, IntWalk.i64_quo a c ⟨h0, h1, h2⟩]
theorem bin_rem_in (h0 : 0 ≤ a) (h2 : c ≠ 0) : (do eqGuard .rem T x y (.int .i64 a) (.int .i64 c); Go.binOp .rem T (.int .i64 a) (.int .i64 c) : Sem Value).run P w = .ok (.int .i64 (a % c)) w := by
  simp [eqGuard, Go.binOp, Op.intDiv, h2, Int.tmod_eq_emod_of_nonneg h0]
end
section
variable {k p0 p1 p2 p3 c b v mode q0 q1 q2 q3 : Int} {xs : List UInt8}
end
attribute [local irreducible] fapply fcovers fnarrow expo forceI chipB

end Go.Proofs.Ytckhkagkpldoiaa
