/- The lowest bit of an int; bytes with one bit turned: plain facts. -/
import Derived.Test.YtckhkagkpldoiaaBitX
import Derived.Test.YtckhkagkpldoiaaBitG
namespace Go.Proofs.Ytckhkagkpldoiaa
open Go.RowKit

/-- The lowest bit of an int. -/
def lowI (a : Int) : Nat := (a % 2).toNat
theorem lowI_lt (a : Int) : lowI a < 2 := by unfold lowI; omega
theorem i64_and1L (a : Int) : bits .and .i64 a 1 = (lowI a : Int) := by
  show IntKind.i64.wrap ((BitVec.ofInt 64 a &&& BitVec.ofInt 64 1).toNat : Int) = _
  have h1 : (BitVec.ofInt 64 1).toNat = 1 := rfl
  rw [BitVec.toNat_and, h1, Nat.and_one_is_mod, BitVec.toNat_ofInt, IntKind.wrap_i64]
  unfold lowI
  omega
theorem flip_num : ∀ x, x < 256 → ∀ r, r < 8 → x ^^^ 2 ^ r = if x / 2 ^ r % 2 = 1 then x - 2 ^ r else x + 2 ^ r := by decide +kernel
theorem flip_lo : ∀ x, x < 256 → ∀ r, r < 8 → (x / 2 ^ r % 2 = 1 → 2 ^ r ≤ x) ∧ (x / 2 ^ r % 2 ≠ 1 → x + 2 ^ r < 256) := by decide +kernel
theorem pow8 {r : Nat} (h : r < 8) : 2 ^ r ≤ 128 := by
  have : 2 ^ r ≤ 2 ^ 7 := Nat.pow_le_pow_right (by omega) (by omega)
  omega
/-- A bit forced. -/
def forceI (xs : List UInt8) (b v : Int) : List UInt8 := if bitI xs b = lowI v then xs else flipI xs b
theorem forceI_len (xs : List UInt8) (b v : Int) : (forceI xs b v).length = xs.length := by
  unfold forceI
  split
  · rfl
  · exact flipI_length xs b
theorem flip_byte (x : UInt8) {r : Nat} (h : r < 8) : (x ^^^ UInt8.ofNat (2 ^ r)).toNat = x.toNat ^^^ 2 ^ r := by
  have := pow8 h
  rw [UInt8.toNat_xor, UInt8.toNat_ofNat', Nat.mod_eq_of_lt (by omega)]
end Go.Proofs.Ytckhkagkpldoiaa
