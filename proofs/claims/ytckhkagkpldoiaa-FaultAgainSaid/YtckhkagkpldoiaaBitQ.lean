/- The reference's weight: a walk. -/
import Derived.Test.YtckhkagkpldoiaaBitW
namespace Go.Proofs.Ytckhkagkpldoiaa
open Go.RowKit

/-- The reference's weight. -/
theorem refWeight (a : Int) (x : Nat) (hx : a = x) (lx : x < 18446744073709551616) (w : World) :
    Calls Try.prog 71 #[.int .u64 a] w fun e w' => e = .returned (.int .i64 (pc x : Nat)) ∧ w = w' := by
  subst hx
  go_enter Try.func71, Try.ntmps71
  go_wp2
  go_loop [0, 3] (fun y n => ∃ z c : Nat, z < 18446744073709551616 ∧ y = .int .u64 z ∧ n = .int .i64 c ∧ c + pc z = pc x) (fun y _ => (intOf y).toNat)
  case atStart => exact ⟨x, 0, lx, rfl, rfl, by omega⟩
  case round =>
    obtain ⟨z, c, lz, rfl, rfl, hs⟩ := hrel
    have hc : c ≤ 64 := by have := pc_le x; omega
    have HS := Lib.hid hs
    clear hs
    by_cases h0 : z = 0
    · subst h0
      go_wp2
      go_ret
      exact ⟨ret_intB (by have h1 := HS.out; rw [pc_zero] at h1; omega), rfl⟩
    · have hp := pc_step z lz
      have HP := Lib.hid hp
      have l1 : 0 < z := by omega
      clear hp
      go_wp2
      go_round
      case rel => exact ⟨z / 2, c + z % 2, by omega, by go_num, by go_num, by have := HS.out; have := HP.out; omega⟩
      case measure => simp [intOf]; omega
end Go.Proofs.Ytckhkagkpldoiaa
