/- Bits of bytes that are turned: plain mathematics. No program in sight. -/
import Derived.Test.YtjbpegmdbgkdlaaBitPm
import Derived.Test.YtjbpegmdbgkdlaaBitF
namespace Go.Proofs.Ytjbpegmdbgkdlaa
open Go.RowKit

theorem bit_test (x t : Nat) : x / 2 ^ t % 2 = (x.testBit t).toNat := by
  rw [Nat.testBit_eq_decide_div_mod_eq]
  rcases Nat.mod_two_eq_zero_or_one (x / 2 ^ t) with h | h <;> rw [h] <;> rfl
theorem flip_bits (x r t : Nat) : (x ^^^ 2 ^ r) / 2 ^ t % 2 = if t = r then 1 - x / 2 ^ t % 2 else x / 2 ^ t % 2 := by
  rw [bit_test, bit_test, Nat.testBit_xor, Nat.testBit_two_pow]
  by_cases h : t = r
  · subst h; cases x.testBit t <;> simp
  · have : ¬ r = t := fun e => h e.symm
    simp [h, this]
theorem getD_setB (xs : List UInt8) (q k : Nat) (v : UInt8) (hq : q < xs.length) : (xs.set q v).getD k 0 = if q = k then v else xs.getD k 0 := by
  rw [List.getD_eq_getElem?_getD, List.getD_eq_getElem?_getD, List.getElem?_set]
  by_cases h : q = k
  · subst h; simp [hq]
  · simp [h]
theorem flipI_bit {xs : List UInt8} {p0 : Nat} (h : p0 / 8 < xs.length) (p : Nat) : bitI (flipI xs (p0 : Int)) (p : Int) = if p = p0 then 1 - bitI xs (p : Int) else bitI xs (p : Int) := by
  rw [flipI_in h, bitI_nat, bitI_nat, getD_setB _ _ _ _ h]
  by_cases hq : p0 / 8 = p / 8
  · have hl : p0 % 8 < 8 := by omega
    have h8 : 2 ^ (p0 % 8) < 2 ^ 8 := Nat.pow_lt_pow_right (by decide) hl
    rw [if_pos hq, UInt8.toNat_xor, UInt8.toNat_ofNat', Nat.mod_eq_of_lt h8, flip_bits, hq]
    by_cases hp : p = p0
    · subst hp; rw [if_pos rfl, if_pos rfl]
    · rw [if_neg (by omega), if_neg hp]
  · rw [if_neg hq, if_neg (by omega)]
theorem flipI_ne {xs : List UInt8} {p0 : Nat} (h : p0 / 8 < xs.length) : bitI (flipI xs (p0 : Int)) (p0 : Int) = 1 - bitI xs (p0 : Int) := by
  rw [flipI_bit h, if_pos rfl]
theorem dfTo_congr {xs ys xs' ys' : List UInt8} (k : Nat) (h : ∀ p, p < k → (bitI xs (p : Int) = bitI ys (p : Int) ↔ bitI xs' (p : Int) = bitI ys' (p : Int))) : dfTo xs ys k = dfTo xs' ys' k := by
  induction k with
  | zero => rfl
  | succ k ih =>
    rw [dfTo, dfTo, ih fun p hp => h p (by omega)]
    have h2 := h k (by omega)
    by_cases h3 : bitI xs (k : Int) = bitI ys (k : Int)
    · rw [if_pos h3, if_pos (h2.1 h3)]
    · rw [if_neg h3, if_neg (fun e => h3 (h2.2 e))]
theorem dfTo_self (xs : List UInt8) (k : Nat) : dfTo xs xs k = 0 := by
  induction k with
  | zero => rfl
  | succ k ih => rw [dfTo, ih, if_pos rfl]
theorem dfTo_flip {xs : List UInt8} {p0 : Nat} (h : p0 / 8 < xs.length) (k : Nat) : dfTo xs (flipI xs (p0 : Int)) k = if p0 < k then 1 else 0 := by
  induction k with
  | zero => rfl
  | succ k ih =>
    rw [dfTo, ih, flipI_bit h]
    have hl := bitI_lt xs (k : Int)
    by_cases hk : k = p0
    · subst hk
      rw [if_pos rfl, if_neg (by omega), if_neg (by omega), if_pos (by omega)]
    · rw [if_neg hk, if_pos rfl]
      by_cases h2 : p0 < k
      · rw [if_pos h2, if_pos (by omega)]
      · rw [if_neg h2, if_neg (by omega)]
theorem bitI_take (xs : List UInt8) (N p : Nat) (h : p < 8 * N) : bitI (xs.take N) (p : Int) = bitI xs (p : Int) := by
  rw [bitI_nat, bitI_nat, List.getD_eq_getElem?_getD, List.getD_eq_getElem?_getD, List.getElem?_take_of_lt (by omega)]
theorem dfTo_take (xs ys : List UInt8) (N : Nat) : dfTo (xs.take N) (ys.take N) (8 * N) = dfB xs ys N := by
  rw [← dfTo_eight]
  exact dfTo_congr _ fun p hp => by rw [bitI_take xs N p hp, bitI_take ys N p hp]
end Go.Proofs.Ytjbpegmdbgkdlaa
