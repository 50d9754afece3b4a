/- Several texts in one: BitM BitW BitR. -/
import Derived.Test.YtdglhppcfdpcaaaRows
import Derived.WalkKit
import Derived.WalkSpells
import Derived.WalkLawsBesides
import Derived.Lib.Hide
namespace Go.Proofs.Ytdglhppcfdpcaaa

/-- How many ones, with as many steps as there may be bits. -/
def pcTo : Nat → Nat → Nat
  | 0, _ => 0
  | k + 1, n => n % 2 + pcTo k (n / 2)
/-- How many ones a number below 2^64 has. -/
def pc (n : Nat) : Nat := pcTo 64 n
theorem pcTo_zero (k : Nat) : pcTo k 0 = 0 := by
  induction k with
  | zero => rfl
  | succ k ih => rw [pcTo]; simpa using ih
theorem pcTo_more (k : Nat) : ∀ n, n < 2 ^ k → ∀ d, pcTo (k + d) n = pcTo k n := by
  induction k with
  | zero =>
    intro n hn d
    obtain rfl : n = 0 := by omega
    rw [pcTo_zero, pcTo_zero]
  | succ k ih =>
    intro n hn d
    rw [show k + 1 + d = (k + d) + 1 from by omega, pcTo, pcTo, ih (n / 2) (by rw [Nat.pow_succ] at hn; omega) d]
theorem pcTo_eq (k : Nat) (n : Nat) (hn : n < 2 ^ k) (hk : k ≤ 64) : pcTo k n = pc n := by
  have := pcTo_more k n hn (64 - k)
  rw [show k + (64 - k) = 64 from by omega] at this
  exact this.symm
theorem pc_step (n : Nat) (hn : n < 2 ^ 64) : pc n = n % 2 + pc (n / 2) := by
  have h := pcTo_more 63 (n / 2) (by omega) 1
  show n % 2 + pcTo 63 (n / 2) = n % 2 + pcTo 64 (n / 2)
  rw [h]
theorem pc_zero : pc 0 = 0 := pcTo_zero 64
theorem pcTo_le (k n : Nat) : pcTo k n ≤ k := by
  induction k generalizing n with
  | zero => exact Nat.le_refl 0
  | succ k ih => rw [pcTo]; have := ih (n / 2); omega
theorem pc_le (n : Nat) : pc n ≤ 64 := pcTo_le 64 n

theorem and_half (a b : Nat) : (a &&& b) / 2 = (a / 2) &&& (b / 2) := by
  have := @Nat.shiftRight_and_distrib 1 a b
  simpa [Nat.shiftRight_eq_div_pow] using this
theorem xor_half (a b : Nat) : (a ^^^ b) / 2 = (a / 2) ^^^ (b / 2) := by
  have := @Nat.shiftRight_xor_distrib 1 a b
  simpa [Nat.shiftRight_eq_div_pow] using this
theorem or_half (a b : Nat) : (a ||| b) / 2 = (a / 2) ||| (b / 2) := by
  have := @Nat.shiftRight_or_distrib 1 a b
  simpa [Nat.shiftRight_eq_div_pow] using this
theorem and_odd (a b : Nat) : (a &&& b) % 2 = (a % 2) * (b % 2) := by
  have h := @Nat.and_mod_two_pow a b 1
  rw [Nat.pow_one] at h
  rw [h]
  rcases Nat.mod_two_eq_zero_or_one a with ha | ha <;> rcases Nat.mod_two_eq_zero_or_one b with hb | hb <;> rw [ha, hb] <;> rfl
theorem xor_odd (a b : Nat) : (a ^^^ b) % 2 = (a % 2 + b % 2) % 2 := by
  have h := @Nat.xor_mod_two_pow a b 1
  rw [Nat.pow_one] at h
  rw [h]
  rcases Nat.mod_two_eq_zero_or_one a with ha | ha <;> rcases Nat.mod_two_eq_zero_or_one b with hb | hb <;> rw [ha, hb] <;> rfl
theorem or_odd (a b : Nat) : (a ||| b) % 2 = (a % 2 + b % 2 - (a % 2) * (b % 2)) := by
  have h := @Nat.or_mod_two_pow a b 1
  rw [Nat.pow_one] at h
  rw [h]
  rcases Nat.mod_two_eq_zero_or_one a with ha | ha <;> rcases Nat.mod_two_eq_zero_or_one b with hb | hb <;> rw [ha, hb] <;> rfl

theorem pcTo_and_pred (k : Nat) : ∀ x, 0 < x → x < 2 ^ k → pcTo k x = pcTo k (x &&& (x - 1)) + 1 := by
  induction k with
  | zero => intro x h0 h; omega
  | succ k ih =>
    intro x h0 h
    rw [pcTo, pcTo, and_half, and_odd]
    rw [Nat.pow_succ] at h
    rcases Nat.mod_two_eq_zero_or_one x with hx | hx
    · have h1 : (x - 1) / 2 = x / 2 - 1 := by omega
      rw [h1, hx, Nat.zero_mul, Nat.zero_add, Nat.zero_add, ih (x / 2) (by omega) (by omega)]
    · have h1 : (x - 1) / 2 = x / 2 := by omega
      have h2 : (x - 1) % 2 = 0 := by omega
      rw [h1, h2, hx, Nat.and_self]
      omega
theorem pc_and_pred (x : Nat) (h0 : 0 < x) (h : x < 2 ^ 64) : pc x = pc (x &&& (x - 1)) + 1 := pcTo_and_pred 64 x h0 h
theorem pcTo_xor (k : Nat) : ∀ a b, pcTo k (a ^^^ b) + 2 * pcTo k (a &&& b) = pcTo k a + pcTo k b := by
  induction k with
  | zero => intro a b; rfl
  | succ k ih =>
    intro a b
    have := ih (a / 2) (b / 2)
    rw [pcTo, pcTo, pcTo, pcTo, and_half, and_odd, xor_half, xor_odd]
    rcases Nat.mod_two_eq_zero_or_one a with ha | ha <;> rcases Nat.mod_two_eq_zero_or_one b with hb | hb <;> rw [ha, hb] <;> omega
theorem pc_xor (a b : Nat) : pc (a ^^^ b) + 2 * pc (a &&& b) = pc a + pc b := pcTo_xor 64 a b
theorem pcTo_or (k : Nat) : ∀ a b m, a ≤ m → m + 1 = 2 ^ k → pcTo k (a ||| b) = pcTo k a + pcTo k (b &&& (m - a)) := by
  induction k with
  | zero => intro a b m _ _; rfl
  | succ k ih =>
    intro a b m ha hm
    rw [Nat.pow_succ] at hm
    have := ih (a / 2) (b / 2) (m / 2) (by omega) (by omega)
    have h1 : (m - a) / 2 = m / 2 - a / 2 := by omega
    have h2 : (m - a) % 2 = 1 - a % 2 := by omega
    rw [pcTo, pcTo, pcTo, and_half, and_odd, or_half, or_odd, h1, h2]
    rcases Nat.mod_two_eq_zero_or_one a with ha' | ha' <;> rcases Nat.mod_two_eq_zero_or_one b with hb' | hb' <;> rw [ha', hb'] <;> omega
theorem pc_or (a b : Nat) (ha : a ≤ 18446744073709551615) : pc (a ||| b) = pc a + pc (b &&& (18446744073709551615 - a)) := pcTo_or 64 a b 18446744073709551615 ha rfl

/-- The places of the ones, counted from i, with as many steps as there may be bits. -/
def onesTo : Nat → Nat → Nat → List Nat
  | 0, _, _ => []
  | k + 1, i, x => if x % 2 = 1 then i :: onesTo k (i + 1) (x / 2) else onesTo k (i + 1) (x / 2)
theorem onesTo_zero (k i : Nat) : onesTo k i 0 = [] := by
  induction k generalizing i with
  | zero => rfl
  | succ k ih => rw [onesTo, if_neg (by omega)]; exact ih (i + 1)
theorem onesTo_length (k i x : Nat) : (onesTo k i x).length = pcTo k x := by
  induction k generalizing i x with
  | zero => rfl
  | succ k ih =>
    rw [onesTo, pcTo]
    split
    · rename_i h; rw [List.length_cons, ih, h]; omega
    · rename_i h; rw [ih, show x % 2 = 0 from by omega, Nat.zero_add]
theorem onesTo_more (k : Nat) : ∀ i x, x < 2 ^ k → ∀ d, onesTo (k + d) i x = onesTo k i x := by
  induction k with
  | zero =>
    intro i x hx d
    obtain rfl : x = 0 := by omega
    rw [onesTo_zero, onesTo_zero]
  | succ k ih =>
    intro i x hx d
    rw [show k + 1 + d = (k + d) + 1 from by omega, onesTo, onesTo, ih (i + 1) (x / 2) (by rw [Nat.pow_succ] at hx; omega) d]
/-- Each place is at least i, less than i + k, and holds a one. -/
theorem onesTo_mem (k : Nat) : ∀ i x p, p ∈ onesTo k i x → i ≤ p ∧ p < i + k ∧ x / 2 ^ (p - i) % 2 = 1 := by
  induction k with
  | zero => intro i x p h; cases h
  | succ k ih =>
    intro i x p h
    have rest : p ∈ onesTo k (i + 1) (x / 2) → i ≤ p ∧ p < i + (k + 1) ∧ x / 2 ^ (p - i) % 2 = 1 := by
      intro h
      obtain ⟨h1, h2, h3⟩ := ih _ _ _ h
      refine ⟨by omega, by omega, ?_⟩
      rw [show p - i = (p - (i + 1)) + 1 from by omega, Nat.pow_succ, Nat.mul_comm, ← Nat.div_div_eq_div_mul]
      exact h3
    rw [onesTo] at h
    split at h
    · rename_i hx
      rcases List.mem_cons.1 h with rfl | h
      · refine ⟨Nat.le_refl _, by omega, ?_⟩
        rw [Nat.sub_self, Nat.pow_zero, Nat.div_one]; exact hx
      · exact rest h
    · exact rest h
/-- They rise. -/
theorem onesTo_rise (k : Nat) : ∀ i x, (onesTo k i x).Pairwise (· < ·) := by
  induction k with
  | zero => intro i x; exact List.Pairwise.nil
  | succ k ih =>
    intro i x
    rw [onesTo]
    split
    · refine List.Pairwise.cons (fun p hp => ?_) (ih _ _)
      have := (onesTo_mem k _ _ p hp).1
      omega
    · exact ih _ _
theorem mem_onesTo (k : Nat) : ∀ i x p, i ≤ p → p < i + k → x / 2 ^ (p - i) % 2 = 1 → p ∈ onesTo k i x := by
  induction k with
  | zero => intro i x p h1 h2; omega
  | succ k ih =>
    intro i x p h1 h2 h3
    rw [onesTo]
    by_cases hp : p = i
    · subst hp
      rw [Nat.sub_self, Nat.pow_zero, Nat.div_one] at h3
      rw [if_pos h3]
      exact List.mem_cons_self
    · have h4 : p ∈ onesTo k (i + 1) (x / 2) := by
        refine ih _ _ _ (by omega) (by omega) ?_
        rw [show p - i = (p - (i + 1)) + 1 from by omega, Nat.pow_succ, Nat.mul_comm, ← Nat.div_div_eq_div_mul] at h3
        exact h3
      split
      · exact List.mem_cons_of_mem _ h4
      · exact h4
def ones (x : Nat) : List Nat := onesTo 64 0 x
end Go.Proofs.Ytdglhppcfdpcaaa
namespace Go.Proofs.Ytdglhppcfdpcaaa
open Go.RowKit

theorem ret_intB {k : IntKind} {a b : Int} (h : a = b) : Ending.returned (.int k a) = .returned (.int k b) := by rw [h]

set_option maxRecDepth 100000 in
theorem weight64 (a : Int) (x : Nat) (hx : a = x) (lx : x < 18446744073709551616) (w : World) :
    Calls Try.prog 79 #[.int .u64 a] w fun e w' => e = .returned (.int .i64 (pc x : Nat)) ∧ w = w' := by
  subst hx
  go_enter Try.func79, Try.ntmps79
  go_wp2
  go_loop [0, 3] (fun y n => ∃ z c : Nat, z < 18446744073709551616 ∧ c ≤ 64 ∧ y = .int .u64 z ∧ n = .int .i64 c ∧ c + pc z = pc x) (fun _ n => 65 - (intOf n).toNat)
  case atStart => exact ⟨x, 0, lx, by omega, rfl, rfl, by omega⟩
  case round =>
    obtain ⟨z, c, lz, lc, rfl, rfl, hs⟩ := hrel
    have HS := Lib.hid hs
    clear hs
    by_cases h0 : z = 0
    · subst h0
      go_wp2
      go_ret
      exact ⟨ret_intB (by have h1 := HS.out; rw [pc_zero] at h1; omega), rfl⟩
    · have g0 : ((z : Int) != 0) = true := by rw [bne_iff_ne]; omega
      have hle : z &&& (z - 1) ≤ z := Nat.and_le_left
      have hand : bits .and .u64 (z : Int) ((z : Int) - 1) = ((z &&& (z - 1) : Nat) : Int) := by
        rw [show (z : Int) - 1 = ((z - 1 : Nat) : Int) from by omega]
        exact u64_and_nat z (z - 1) (by omega) (by omega)
      have hpc := pc_and_pred z (by omega) (by omega)
      have hp0 := pc_le x
      have HP := Lib.hid hpc
      have HP0 := Lib.hid hp0
      have l1 : 1 ≤ z := by omega
      clear hpc hp0
      go_wp2
      go_round
      case rel => exact ⟨z &&& (z - 1), c + 1, by omega, by have := HS.out; have := HP.out; have := HP0.out; omega, rfl, by go_num, by have := HS.out; have := HP.out; omega⟩
      case measure => have := HS.out; have := HP.out; have := HP0.out; simp [intOf]; omega
set_option maxRecDepth 100000 in
theorem weight8 (a : Int) (x : Nat) (hx : a = x) (lx : x < 256) (w : World) :
    Calls Try.prog 97 #[.int .u8 a] w fun e w' => e = .returned (.int .i64 (pc x : Nat)) ∧ w = w' := by
  subst hx
  go_enter Try.func97, Try.ntmps97
  go_wp2
  go_loop [0, 3] (fun y n => ∃ z c : Nat, z < 256 ∧ c ≤ 64 ∧ y = .int .u8 z ∧ n = .int .i64 c ∧ c + pc z = pc x) (fun _ n => 65 - (intOf n).toNat)
  case atStart => exact ⟨x, 0, lx, by omega, rfl, rfl, by omega⟩
  case round =>
    obtain ⟨z, c, lz, lc, rfl, rfl, hs⟩ := hrel
    have HS := Lib.hid hs
    clear hs
    by_cases h0 : z = 0
    · subst h0
      go_wp2
      go_ret
      exact ⟨ret_intB (by have h1 := HS.out; rw [pc_zero] at h1; omega), rfl⟩
    · have g0 : ((z : Int) != 0) = true := by rw [bne_iff_ne]; omega
      have hle : z &&& (z - 1) ≤ z := Nat.and_le_left
      have hand : bits .and .u8 (z : Int) ((z : Int) - 1) = ((z &&& (z - 1) : Nat) : Int) := by
        rw [show (z : Int) - 1 = ((z - 1 : Nat) : Int) from by omega]
        exact u8_and_nat z (z - 1) (by omega) (by omega)
      have hpc := pc_and_pred z (by omega) (by omega)
      have hp0 := pc_le x
      have HP := Lib.hid hpc
      have HP0 := Lib.hid hp0
      have l1 : 1 ≤ z := by omega
      clear hpc hp0
      go_wp2
      go_round
      case rel => exact ⟨z &&& (z - 1), c + 1, by omega, by have := HS.out; have := HP.out; have := HP0.out; omega, rfl, by go_num, by have := HS.out; have := HP.out; omega⟩
      case measure => have := HS.out; have := HP.out; have := HP0.out; simp [intOf]; omega

theorem div_pow_succ (x k : Nat) : x / 2 ^ (k + 1) = x / 2 ^ k / 2 := by rw [Nat.pow_succ, ← Nat.div_div_eq_div_mul]
end Go.Proofs.Ytdglhppcfdpcaaa
namespace Go.Proofs.Ytdglhppcfdpcaaa
open Go.RowKit

end Go.Proofs.Ytdglhppcfdpcaaa
