/- Weights and parities: walks. -/
import Derived.Test.YtckhkagkpldoiaaRows
import Derived.Test.YtckhkagkpldoiaaBitM
import Derived.WalkKit
import Derived.WalkSpells
import Derived.WalkLawsBesides
import Derived.Lib.Hide
namespace Go.Proofs.Ytckhkagkpldoiaa
open Go.RowKit

theorem ret_intB {k : IntKind} {a b : Int} (h : a = b) : Ending.returned (.int k a) = .returned (.int k b) := by rw [h]

set_option maxRecDepth 100000 in
theorem weight8 (a : Int) (x : Nat) (hx : a = x) (lx : x < 256) (w : World) :
    Calls Try.prog 109 #[.int .u8 a] w fun e w' => e = .returned (.int .i64 (pc x : Nat)) ∧ w = w' := by
  subst hx
  go_enter Try.func109, Try.ntmps109
  go_wp2
  go_loop [0, 3] (fun y n => ∃ z c : Nat, z < 256 ∧ c ≤ 64 ∧ y = .int .u8 z ∧ n = .int .i64 c ∧ c + pc z = pc x) (fun _ n => 65 - (intOf n).toNat)
  case atStart => exact ⟨x, 0, lx, by omega, rfl, rfl, by omega⟩
  case round =>
    obtain ⟨z, c, lz, lc, rfl, rfl, hs⟩ := hrel
    have HS := Lib.hid hs
    clear hs
    by_cases h0 : z = 0
    · subst h0
      go_wp2
      go_ret
      exact ⟨ret_intB (by have h1 := HS.out; rw [pc_zero] at h1; omega), rfl⟩
    · have g0 : ((z : Int) != 0) = true := by rw [bne_iff_ne]; omega
      have hle : z &&& (z - 1) ≤ z := Nat.and_le_left
      have hand : bits .and .u8 (z : Int) ((z : Int) - 1) = ((z &&& (z - 1) : Nat) : Int) := by
        rw [show (z : Int) - 1 = ((z - 1 : Nat) : Int) from by omega]
        exact u8_and_nat z (z - 1) (by omega) (by omega)
      have hpc := pc_and_pred z (by omega) (by omega)
      have hp0 := pc_le x
      have HP := Lib.hid hpc
      have HP0 := Lib.hid hp0
      have l1 : 1 ≤ z := by omega
      clear hpc hp0
      go_wp2
      go_round
      case rel => exact ⟨z &&& (z - 1), c + 1, by omega, by have := HS.out; have := HP.out; have := HP0.out; omega, rfl, by go_num, by have := HS.out; have := HP.out; omega⟩
      case measure => have := HS.out; have := HP.out; have := HP0.out; simp [intOf]; omega

theorem div_pow_succ (x k : Nat) : x / 2 ^ (k + 1) = x / 2 ^ k / 2 := by rw [Nat.pow_succ, ← Nat.div_div_eq_div_mul]
end Go.Proofs.Ytckhkagkpldoiaa
