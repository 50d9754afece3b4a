/- Parameters that are slices of faults, of bools. -/
import Derived.Test.YtckhkagkpldoiaaDrA
import Derived.Test.YtckhkagkpldoiaaDrB
import Derived.Test.YtckhkagkpldoiaaEr
namespace Go.Proofs.Ytckhkagkpldoiaa.E
open Go Go.ChangeShapes Go.WideShapes Go.RowKit Go.Shelf
set_option linter.unusedVariables false
end Go.Proofs.Ytckhkagkpldoiaa.E
