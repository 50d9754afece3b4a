/- Which numbers have so many ones. -/
import Derived.Test.YtdglhppcfdpcaaaBtX
namespace Go.Proofs.Ytdglhppcfdpcaaa
/-- Of the m numbers from x on those with k ones. -/
def chTo : Nat → Nat → Nat → List Nat
  | 0, _, _ => []
  | m + 1, x, k => if pc x = k then x :: chTo m (x + 1) k else chTo m (x + 1) k
def choose (n k : Nat) : List Nat := chTo (2 ^ n) 0 k
end Go.Proofs.Ytdglhppcfdpcaaa
