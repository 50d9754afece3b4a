/- The reference's bit: a walk. -/
import Derived.Test.YthfncfcajjecbaaBitW
namespace Go.Proofs.Ythfncfcajjecbaa
open Go.RowKit

theorem refBit (a i : Int) (x p : Nat) (hx : a = x) (hi : i = p) (lx : x < 18446744073709551616) (lp : p < 9223372036854775808) (w : World) :
    Calls Try.prog 28 #[.int .u64 a, .int .i64 i] w fun e w' => e = .returned (.int .i64 (x / 2 ^ p % 2 : Nat)) ∧ w = w' := by
  subst hx hi
  go_enter Try.func28, Try.ntmps28
  go_wp2
  go_loop [0, 5] (fun y k => ∃ z c : Nat, c ≤ p ∧ z < 18446744073709551616 ∧ y = .int .u64 z ∧ k = .int .i64 c ∧ z = x / 2 ^ c) (fun _ k => p - (intOf k).toNat)
  case atStart => exact ⟨x, 0, by omega, lx, rfl, rfl, by rw [Nat.pow_zero, Nat.div_one]⟩
  case round =>
    obtain ⟨z, c, lc, lz, rfl, rfl, hz⟩ := hrel
    have HZ := Lib.hid hz
    clear hz
    by_cases hlt : c < p
    · go_wp2
      go_round
      case rel => exact ⟨z / 2, c + 1, by omega, by omega, by go_num, by go_num, by rw [div_pow_succ, HZ.out]⟩
      case measure => simp [intOf]; omega
    · obtain rfl : c = p := by omega
      go_wp2
      go_ret
      exact ⟨ret_intB (by have h := congrArg (fun t : Nat => ((t % 2 : Nat) : Int)) HZ.out; simpa using h), rfl⟩
end Go.Proofs.Ythfncfcajjecbaa
