/- Unlike bits, by bits and by bytes: the same count. No program in sight. -/
import Derived.Test.YtjbpegmdbgkdlaaBitD
import Derived.Test.YtjbpegmdbgkdlaaBitDf
namespace Go.Proofs.Ytjbpegmdbgkdlaa
open Go.RowKit

theorem bitI_at (xs : List UInt8) (k t : Nat) (ht : t < 8) : bitI xs ((8 * k + t : Nat) : Int) = (xs.getD k 0).toNat / 2 ^ t % 2 := by
  rw [bitI_nat, show (8 * k + t) / 8 = k from by omega, show (8 * k + t) % 8 = t from by omega]
theorem par_if (a b : Nat) : (a % 2 + b % 2) % 2 = if a % 2 = b % 2 then 0 else 1 := by
  split <;> omega
theorem xor_bits (x y : UInt8) : (([0, 1, 2, 3, 4, 5, 6, 7].map fun t => if x.toNat / 2 ^ t % 2 = y.toNat / 2 ^ t % 2 then 0 else 1).foldl (· + ·) 0) = pc (x ^^^ y).toNat := by
  rw [← pcTo_eq 8 _ (UInt8.toNat_lt _) (by omega), UInt8.toNat_xor]
  simp only [List.map_cons, List.map_nil, List.foldl_cons, List.foldl_nil, pcTo, xor_half, xor_odd, par_if, Nat.div_div_eq_div_mul, Nat.pow_zero, Nat.div_one, Nat.reducePow, Nat.reduceMul]
  omega
theorem dfTo_eight (xs ys : List UInt8) (k : Nat) : dfTo xs ys (8 * k) = dfB xs ys k := by
  induction k with
  | zero => rfl
  | succ k ih =>
    have h := xor_bits (xs.getD k 0) (ys.getD k 0)
    simp only [List.map_cons, List.map_nil, List.foldl_cons, List.foldl_nil] at h
    have b := fun t ht => bitI_at xs k t ht
    have b' := fun t ht => bitI_at ys k t ht
    rw [show 8 * (k + 1) = 8 * k + 0 + 1 + 1 + 1 + 1 + 1 + 1 + 1 + 1 from by omega]
    simp only [dfTo]
    rw [show 8 * k + 0 + 1 + 1 + 1 + 1 + 1 + 1 + 1 = 8 * k + 7 from by omega, show 8 * k + 0 + 1 + 1 + 1 + 1 + 1 + 1 = 8 * k + 6 from by omega, show 8 * k + 0 + 1 + 1 + 1 + 1 + 1 = 8 * k + 5 from by omega, show 8 * k + 0 + 1 + 1 + 1 + 1 = 8 * k + 4 from by omega, show 8 * k + 0 + 1 + 1 + 1 = 8 * k + 3 from by omega, show 8 * k + 0 + 1 + 1 = 8 * k + 2 from by omega, show 8 * k + 0 + 1 = 8 * k + 1 from by omega]
    have b0 := b 0 (by omega)
    have b0' := b' 0 (by omega)
    rw [Nat.add_zero] at b0 b0'
    rw [b 7 (by omega), b 6 (by omega), b 5 (by omega), b 4 (by omega), b 3 (by omega), b 2 (by omega), b 1 (by omega), b0, b' 7 (by omega), b' 6 (by omega), b' 5 (by omega), b' 4 (by omega), b' 3 (by omega), b' 2 (by omega), b' 1 (by omega), b0', ih, dfB, ← h]
    omega
end Go.Proofs.Ytjbpegmdbgkdlaa
