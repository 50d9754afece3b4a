/- DeviceQuiet. -/
import Derived.Test.YtckhkagkpldoiaaRqD
import Derived.Test.YtckhkagkpldoiaaErQ
namespace Go.Proofs.Ytckhkagkpldoiaa
open Go Go.ChangeShapes Go.WideShapes Go.RowKit Go.Shelf
set_option linter.unusedVariables false
theorem DeviceQuiet_any (z0 z1 z2 z3 z4 mode : Int) (A : Option Addr) (n c : Nat) (L : List E.Oq) (hl : L.length = n) (hx : E.oqsIn L) (w : World) (hr : RdS 82 w A (L.map E.eOq)) :
    Calls Try.prog 14 #[.agg #[.int .i64 z0, .int .i64 z1, .int .i64 z2, .int .i64 z3, .int .i64 z4], .int .i64 mode, .slice A n c] w
      fun e w' => e = .returned (.bool true) ∧ Below w.heap.size w w' := by
  obtain ⟨bs, hb, hs⟩ := E.rdS_sr (en := E.eOq) (k := 82) (c := c) (fun _ => rfl) (by decide) hr hl
  exact (E.qquiet z0 z1 z2 z3 z4 mode _ L hx bs hs).belowR w hb
end Go.Proofs.Ytckhkagkpldoiaa
