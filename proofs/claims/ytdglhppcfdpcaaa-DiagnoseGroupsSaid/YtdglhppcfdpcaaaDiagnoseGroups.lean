/- DiagnoseGroups. -/
import Derived.Test.YtdglhppcfdpcaaaTaQ
import Derived.Test.YtdglhppcfdpcaaaErD
namespace Go.Proofs.Ytdglhppcfdpcaaa
open Go Go.ChangeShapes Go.WideShapes Go.RowKit Go.Shelf
set_option linter.unusedVariables false
theorem DiagnoseGroups_any (A : Option Addr) (n c : Nat) (L : List Int) (hl : L.length = n) (stop : Int) (w : World) (hr : RdS 1 w A (L.map E.eI)) :
    Calls Try.prog 3 #[.slice A n c, .int .i64 stop] w
      fun e w' => e = .returned (.bool true) ∧ Below w.heap.size w w' := by
  obtain ⟨bs, hb, hs⟩ := E.rdS_sr (en := E.eI) (k := 1) (c := c) (fun _ => rfl) (by decide) hr hl
  exact (E.dgroups A n c L stop bs hs (Lib.hid E.anch27)).belowR w hb
end Go.Proofs.Ytdglhppcfdpcaaa
