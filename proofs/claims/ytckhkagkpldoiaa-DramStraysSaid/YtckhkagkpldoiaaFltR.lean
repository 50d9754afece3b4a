/- The document's geometries and faults: walks. -/
import Derived.Test.YtckhkagkpldoiaaFlt2
import Derived.WalkKit
import Derived.Sort.CutIn
import Derived.IntWalk
namespace Go.Proofs.Ytckhkagkpldoiaa
open Go.RowKit Go.Shelf
attribute [local go_sem] Oper.semAt_some
set_option linter.unusedVariables false
set_option linter.unusedSimpArgs false


end Go.Proofs.Ytckhkagkpldoiaa
