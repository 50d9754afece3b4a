/- FaultLasting. -/
import Derived.Test.YtckhkagkpldoiaaFaL
import Derived.Test.YtckhkagkpldoiaaErF
namespace Go.Proofs.Ytckhkagkpldoiaa
open Go Go.ChangeShapes Go.WideShapes Go.RowKit Go.Shelf
set_option linter.unusedVariables false
theorem FaultLasting_any (A : Option Addr) (n c : Nat) (L : List E.Fa) (hl : L.length = n) (stop : Int) (w : World) (hr : RdS 8 w A (L.map E.eFa)) :
    Calls Try.prog 5 #[.slice A n c, .int .i64 stop] w
      fun e w' => e = .returned (.bool true) ∧ Below w.heap.size w w' := by
  obtain ⟨bs, hb, hs⟩ := E.rdS_sr (en := E.eFa) (k := 8) (c := c) (fun _ => rfl) (by decide) hr hl
  exact (E.flast A n c L stop bs hs).belowR w hb
end Go.Proofs.Ytckhkagkpldoiaa
