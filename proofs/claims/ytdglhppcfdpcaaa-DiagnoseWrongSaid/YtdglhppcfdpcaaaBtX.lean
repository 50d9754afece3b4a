/- Several texts in one: BitM BitW BitR. -/
import Derived.Test.YtdglhppcfdpcaaaRows
import Derived.WalkKit
import Derived.WalkSpells
import Derived.WalkLawsBesides
import Derived.Lib.Hide
namespace Go.Proofs.Ytdglhppcfdpcaaa

/-- How many ones, with as many steps as there may be bits. -/
def pcTo : Nat → Nat → Nat
  | 0, _ => 0
  | k + 1, n => n % 2 + pcTo k (n / 2)
/-- How many ones a number below 2^64 has. -/
def pc (n : Nat) : Nat := pcTo 64 n
theorem pcTo_zero (k : Nat) : pcTo k 0 = 0 := by
  induction k with
  | zero => rfl
  | succ k ih => rw [pcTo]; simpa using ih
theorem pcTo_more (k : Nat) : ∀ n, n < 2 ^ k → ∀ d, pcTo (k + d) n = pcTo k n := by
  induction k with
  | zero =>
    intro n hn d
    obtain rfl : n = 0 := by omega
    rw [pcTo_zero, pcTo_zero]
  | succ k ih =>
    intro n hn d
    rw [show k + 1 + d = (k + d) + 1 from by omega, pcTo, pcTo, ih (n / 2) (by rw [Nat.pow_succ] at hn; omega) d]
theorem pcTo_eq (k : Nat) (n : Nat) (hn : n < 2 ^ k) (hk : k ≤ 64) : pcTo k n = pc n := by
  have := pcTo_more k n hn (64 - k)
  rw [show k + (64 - k) = 64 from by omega] at this
  exact this.symm
theorem pc_zero : pc 0 = 0 := pcTo_zero 64
theorem pcTo_le (k n : Nat) : pcTo k n ≤ k := by
  induction k generalizing n with
  | zero => exact Nat.le_refl 0
  | succ k ih => rw [pcTo]; have := ih (n / 2); omega
theorem pc_le (n : Nat) : pc n ≤ 64 := pcTo_le 64 n

theorem and_half (a b : Nat) : (a &&& b) / 2 = (a / 2) &&& (b / 2) := by
  have := @Nat.shiftRight_and_distrib 1 a b
  simpa [Nat.shiftRight_eq_div_pow] using this
theorem xor_half (a b : Nat) : (a ^^^ b) / 2 = (a / 2) ^^^ (b / 2) := by
  have := @Nat.shiftRight_xor_distrib 1 a b
  simpa [Nat.shiftRight_eq_div_pow] using this
theorem and_odd (a b : Nat) : (a &&& b) % 2 = (a % 2) * (b % 2) := by
  have h := @Nat.and_mod_two_pow a b 1
  rw [Nat.pow_one] at h
  rw [h]
  rcases Nat.mod_two_eq_zero_or_one a with ha | ha <;> rcases Nat.mod_two_eq_zero_or_one b with hb | hb <;> rw [ha, hb] <;> rfl
theorem xor_odd (a b : Nat) : (a ^^^ b) % 2 = (a % 2 + b % 2) % 2 := by
  have h := @Nat.xor_mod_two_pow a b 1
  rw [Nat.pow_one] at h
  rw [h]
  rcases Nat.mod_two_eq_zero_or_one a with ha | ha <;> rcases Nat.mod_two_eq_zero_or_one b with hb | hb <;> rw [ha, hb] <;> rfl
theorem pcTo_and_pred (k : Nat) : ∀ x, 0 < x → x < 2 ^ k → pcTo k x = pcTo k (x &&& (x - 1)) + 1 := by
  induction k with
  | zero => intro x h0 h; omega
  | succ k ih =>
    intro x h0 h
    rw [pcTo, pcTo, and_half, and_odd]
    rw [Nat.pow_succ] at h
    rcases Nat.mod_two_eq_zero_or_one x with hx | hx
    · have h1 : (x - 1) / 2 = x / 2 - 1 := by omega
      rw [h1, hx, Nat.zero_mul, Nat.zero_add, Nat.zero_add, ih (x / 2) (by omega) (by omega)]
    · have h1 : (x - 1) / 2 = x / 2 := by omega
      have h2 : (x - 1) % 2 = 0 := by omega
      rw [h1, h2, hx, Nat.and_self]
      omega
theorem pc_and_pred (x : Nat) (h0 : 0 < x) (h : x < 2 ^ 64) : pc x = pc (x &&& (x - 1)) + 1 := pcTo_and_pred 64 x h0 h
/-- The places of the ones, counted from i, with as many steps as there may be bits. -/
def onesTo : Nat → Nat → Nat → List Nat
  | 0, _, _ => []
  | k + 1, i, x => if x % 2 = 1 then i :: onesTo k (i + 1) (x / 2) else onesTo k (i + 1) (x / 2)
/-- Each place is at least i, less than i + k, and holds a one. -/
theorem onesTo_mem (k : Nat) : ∀ i x p, p ∈ onesTo k i x → i ≤ p ∧ p < i + k ∧ x / 2 ^ (p - i) % 2 = 1 := by
  induction k with
  | zero => intro i x p h; cases h
  | succ k ih =>
    intro i x p h
    have rest : p ∈ onesTo k (i + 1) (x / 2) → i ≤ p ∧ p < i + (k + 1) ∧ x / 2 ^ (p - i) % 2 = 1 := by
      intro h
      obtain ⟨h1, h2, h3⟩ := ih _ _ _ h
      refine ⟨by omega, by omega, ?_⟩
      rw [show p - i = (p - (i + 1)) + 1 from by omega, Nat.pow_succ, Nat.mul_comm, ← Nat.div_div_eq_div_mul]
      exact h3
    rw [onesTo] at h
    split at h
    · rename_i hx
      rcases List.mem_cons.1 h with rfl | h
      · refine ⟨Nat.le_refl _, by omega, ?_⟩
        rw [Nat.sub_self, Nat.pow_zero, Nat.div_one]; exact hx
      · exact rest h
    · exact rest h
def ones (x : Nat) : List Nat := onesTo 64 0 x
end Go.Proofs.Ytdglhppcfdpcaaa
namespace Go.Proofs.Ytdglhppcfdpcaaa
open Go.RowKit

end Go.Proofs.Ytdglhppcfdpcaaa
namespace Go.Proofs.Ytdglhppcfdpcaaa
open Go.RowKit

end Go.Proofs.Ytdglhppcfdpcaaa
