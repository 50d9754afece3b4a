/- Several texts in one: BitM BitW BitR. -/
import Derived.Test.YtckhkagkpldoiaaRows
import Derived.WalkKit
import Derived.WalkSpells
import Derived.WalkLawsBesides
import Derived.Lib.Hide
namespace Go.Proofs.Ytckhkagkpldoiaa

/-- How many ones, with as many steps as there may be bits. -/
def pcTo : Nat → Nat → Nat
  | 0, _ => 0
  | k + 1, n => n % 2 + pcTo k (n / 2)
/-- How many ones a number below 2^64 has. -/
def pc (n : Nat) : Nat := pcTo 64 n
/-- The places of the ones, counted from i, with as many steps as there may be bits. -/
def onesTo : Nat → Nat → Nat → List Nat
  | 0, _, _ => []
  | k + 1, i, x => if x % 2 = 1 then i :: onesTo k (i + 1) (x / 2) else onesTo k (i + 1) (x / 2)
def ones (x : Nat) : List Nat := onesTo 64 0 x
end Go.Proofs.Ytckhkagkpldoiaa
namespace Go.Proofs.Ytckhkagkpldoiaa
open Go.RowKit

end Go.Proofs.Ytckhkagkpldoiaa
namespace Go.Proofs.Ytckhkagkpldoiaa
open Go.RowKit

end Go.Proofs.Ytckhkagkpldoiaa
