/- The reference's bit: a walk. -/
import Derived.Test.YtckhkagkpldoiaaBitW
namespace Go.Proofs.Ytckhkagkpldoiaa
open Go.RowKit

end Go.Proofs.Ytckhkagkpldoiaa
