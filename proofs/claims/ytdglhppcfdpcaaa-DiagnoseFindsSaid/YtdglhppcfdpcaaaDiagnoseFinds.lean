/- DiagnoseFinds. -/
import Derived.Test.YtdglhppcfdpcaaaTaU
import Derived.Test.YtdglhppcfdpcaaaErD
namespace Go.Proofs.Ytdglhppcfdpcaaa
open Go Go.ChangeShapes Go.WideShapes Go.RowKit Go.Shelf
set_option linter.unusedVariables false
theorem DiagnoseFinds_any (A : Option Addr) (n c : Nat) (L : List E.Sn) (hl : L.length = n) (w : World) (hr : RdS 5 w A (L.map E.eSn)) :
    Calls Try.prog 4 #[.slice A n c] w
      fun e w' => e = .returned (.bool true) ∧ Below w.heap.size w w' := by
  obtain ⟨bs, hb, hs⟩ := E.rdS_sr (en := E.eSn) (k := 5) (c := c) (fun _ => rfl) (by decide) hr hl
  exact (E.dfinds A n c L bs hs).belowR w hb
end Go.Proofs.Ytdglhppcfdpcaaa
