/- FaultCovers in the mode 1. -/
import Derived.Test.YtckhkagkpldoiaaFlX
import Derived.Test.YtckhkagkpldoiaaRvX
import Derived.WalkKit
import Derived.Sort.CutIn
namespace Go.Proofs.Ytckhkagkpldoiaa
open Go.RowKit Go.Shelf
attribute [local go_sem] Oper.semAt_some
set_option linter.unusedVariables false
set_option linter.unusedSimpArgs false

section
variable {P : Program} {T : TypeId} {x y : Operand} {a c : Int} {w : World}
end
section
variable {k p0 p1 p2 p3 c b v mode q0 q1 q2 q3 : Int} {xs : List UInt8}
end
attribute [local irreducible] fapply fcovers fnarrow expo forceI chipB

end Go.Proofs.Ytckhkagkpldoiaa
