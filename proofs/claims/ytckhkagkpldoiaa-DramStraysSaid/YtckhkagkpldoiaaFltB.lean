/- What a fault makes of one byte (the plain part of FltS). -/
import Derived.Test.YtckhkagkpldoiaaCovA
import Derived.Test.YtckhkagkpldoiaaFlX
namespace Go.Proofs.Ytckhkagkpldoiaa.E
open Go
set_option linter.unusedVariables false
section
variable {k p0 p1 p2 p3 c b v mode q0 q1 q2 q3 : Int} {xs : List UInt8}
end
end Go.Proofs.Ytckhkagkpldoiaa.E
