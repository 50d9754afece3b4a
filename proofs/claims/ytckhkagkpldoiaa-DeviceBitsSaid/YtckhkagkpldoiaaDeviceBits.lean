/- DeviceBits. -/
import Derived.Test.YtckhkagkpldoiaaDvG
import Derived.Test.YtckhkagkpldoiaaErI
namespace Go.Proofs.Ytckhkagkpldoiaa
open Go Go.ChangeShapes Go.WideShapes Go.RowKit Go.Shelf
set_option linter.unusedVariables false
theorem DeviceBits_any (z0 z1 z2 z3 z4 mode u0 u1 u2 u3 : Int) (xs : List UInt8) (lx : xs.length = 72) (A : Option Addr) (n c : Nat) (L : List Int) (hl : L.length = n) (hx : ∀ b ∈ L, -9223372036854775808 ≤ b ∧ b ≤ 9223372036854775807) (w : World) (hr : RdS 1 w A (L.map E.eI)) :
    Calls Try.prog 13 #[.agg #[.int .i64 z0, .int .i64 z1, .int .i64 z2, .int .i64 z3, .int .i64 z4], .int .i64 mode, .agg #[.int .i64 u0, .int .i64 u1, .int .i64 u2, .int .i64 u3], .agg (rawV xs), .slice A n c] w
      fun e w' => e = .returned (.bool true) ∧ Below w.heap.size w w' := by
  rw [← E.rB_raw (n := 72) (xs := xs) lx]
  obtain ⟨bs, hb, hs⟩ := E.rdS_sr (en := E.eI) (k := 1) (c := c) (fun _ => rfl) (by decide) hr hl
  cases hg : gright z0 z1 z2 z3 z4
  · exact (E.vbitsG z0 z1 z2 z3 z4 mode u0 u1 u2 u3 xs lx _ L bs hs hg).belowR w hb
  cases hm : rightB mode
  · exact (E.vbitsM z0 z1 z2 z3 z4 mode u0 u1 u2 u3 xs lx _ L bs hs hg hm).belowR w hb
  exact (E.vbits z0 z1 z2 z3 z4 mode u0 u1 u2 u3 xs lx _ L hx bs hs hg hm).belowR w hb
end Go.Proofs.Ytckhkagkpldoiaa
