/- Several texts in one: FltA FltM. -/
import Derived.Test.YtckhkagkpldoiaaFltR
import Derived.WalkKit
import Derived.Sort.CutIn
namespace Go.Proofs.Ytckhkagkpldoiaa
open Go.RowKit Go.Shelf
attribute [local go_sem] Oper.semAt_some
set_option linter.unusedVariables false
set_option linter.unusedSimpArgs false

theorem ite_len {c : Bool} {xs ys : List UInt8} : (bif c then xs else ys).length = bif c then xs.length else ys.length := by cases c <;> rfl
theorem bif_self {α : Type} {c : Bool} {x : α} : (bif c then x else x) = x := by cases c <;> rfl
theorem fapply_len (k p0 p1 p2 p3 c b v mode q0 q1 q2 q3 : Int) (xs : List UInt8) : (fapply k p0 p1 p2 p3 c b v mode q0 q1 q2 q3 xs).length = xs.length := by
  unfold fapply
  simp only [ite_len, forceI_len, chipB_ln, bif_self]
end Go.Proofs.Ytckhkagkpldoiaa
namespace Go.Proofs.Ytckhkagkpldoiaa

end Go.Proofs.Ytckhkagkpldoiaa
