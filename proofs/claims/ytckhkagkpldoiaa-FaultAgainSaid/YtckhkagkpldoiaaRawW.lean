/- Raw bytes: modes, words and chips: walks. -/
import Derived.Test.YtckhkagkpldoiaaArrO
import Derived.Test.YtckhkagkpldoiaaArr
import Derived.Test.YtckhkagkpldoiaaBitG
import Derived.WalkKit
import Derived.Lib.Hide
import Derived.Laws.AppendOwn
import Derived.StillTailTactics
namespace Go.Proofs.Ytckhkagkpldoiaa
open Go.RowKit

def chN (mode : Int) : Nat := if mode = 1 then 9 else if mode = 2 then 36 else 0
def wdN (mode : Int) : Nat := if mode = 1 then 8 else if mode = 2 then 2 else 0
theorem modes (mode : Int) : mode = 1 ∨ mode = 2 ∨ (mode ≠ 1 ∧ mode ≠ 2) := by omega

theorem refChips_any (mode : Int) (w : World) : Calls Try.prog 28 #[.int .i64 mode] w fun e w' => e = .returned (.int .i64 (chN mode : Nat)) ∧ w = w' := by
  rcases modes mode with rfl | rfl | ⟨h1, h2⟩
  · go_enter Try.func28, Try.ntmps28
    go_wp2
    go_ret
    exact ⟨rfl, rfl⟩
  · go_enter Try.func28, Try.ntmps28
    go_wp2
    go_ret
    exact ⟨rfl, rfl⟩
  · have q1 : (mode == 1) = false := by rw [beq_eq_false_iff_ne]; exact h1
    have q2 : (mode == 2) = false := by rw [beq_eq_false_iff_ne]; exact h2
    have HE := Lib.hid (show chN mode = 0 by unfold chN; first | rw [if_neg h1, if_neg h2] | simp [h1, h2])
    clear h1 h2
    go_enter Try.func28, Try.ntmps28
    go_wp2
    go_ret
    exact ⟨by rw [HE.out]; rfl, rfl⟩
theorem chips_any (mode : Int) (w : World) : Calls Try.prog 64 #[.int .i64 mode] w fun e w' => e = .returned (.int .i64 (chN mode : Nat)) ∧ w = w' := by
  rcases modes mode with rfl | rfl | ⟨h1, h2⟩
  · go_enter Try.func64, Try.ntmps64
    go_wp2
    go_ret
    exact ⟨rfl, rfl⟩
  · go_enter Try.func64, Try.ntmps64
    go_wp2
    go_ret
    exact ⟨rfl, rfl⟩
  · have q1 : (mode == 1) = false := by rw [beq_eq_false_iff_ne]; exact h1
    have q2 : (mode == 2) = false := by rw [beq_eq_false_iff_ne]; exact h2
    have HE := Lib.hid (show chN mode = 0 by unfold chN; first | rw [if_neg h1, if_neg h2] | simp [h1, h2])
    clear h1 h2
    go_enter Try.func64, Try.ntmps64
    go_wp2
    go_ret
    exact ⟨by rw [HE.out]; rfl, rfl⟩
def rightB (mode : Int) : Bool := mode == 1 || mode == 2
theorem right_any (mode : Int) (w : World) : Calls Try.prog 60 #[.int .i64 mode] w fun e w' => e = .returned (.bool (rightB mode)) ∧ w = w' := by
  rcases modes mode with rfl | rfl | ⟨h1, h2⟩
  · go_enter Try.func60, Try.ntmps60
    go_wp2
    go_ret
    exact ⟨rfl, rfl⟩
  · go_enter Try.func60, Try.ntmps60
    go_wp2
    go_ret
    exact ⟨rfl, rfl⟩
  · have q1 : (mode == 1) = false := by rw [beq_eq_false_iff_ne]; exact h1
    have q2 : (mode == 2) = false := by rw [beq_eq_false_iff_ne]; exact h2
    have HE := Lib.hid (show rightB mode = false by unfold rightB; first | rw [if_neg h1, if_neg h2] | simp [h1, h2])
    clear h1 h2
    go_enter Try.func60, Try.ntmps60
    go_wp2
    go_ret
    exact ⟨by rw [HE.out]; rfl, rfl⟩
theorem words_any (mode : Int) (w : World) : Calls Try.prog 100 #[.int .i64 mode] w fun e w' => e = .returned (.int .i64 (wdN mode : Nat)) ∧ w = w' := by
  have HR := Lib.hid (right_any mode w)
  have HC := Lib.hid (chips_any mode w)
  rcases modes mode with rfl | rfl | ⟨h1, h2⟩
  case' inr.inr =>
    have HE := Lib.hid (show wdN mode = 0 by unfold wdN; rw [if_neg h1, if_neg h2])
    have hr : rightB mode = false := by unfold rightB; simp [h1, h2]
    rw [hr] at HR
    clear h1 h2 hr HC
    go_enter Try.func100, Try.ntmps100
    go_wp2_with fail
    refine HR.out.mono ?_
    rintro e w' ⟨rfl, rfl⟩
    go_wp2
    go_ret
    exact ⟨by rw [HE.out]; rfl, rfl⟩
  · rw [show rightB 1 = true from rfl] at HR
    rw [show chN 1 = 9 from rfl, show ((9 : Nat) : Int) = 9 from rfl] at HC
    have HE := Lib.hid (show wdN 1 = 8 from rfl)
    go_enter Try.func100, Try.ntmps100
    go_wp2_with fail
    refine HR.out.mono ?_
    rintro e w' ⟨rfl, rfl⟩
    go_wp2_with fail
    refine HC.out.mono ?_
    rintro e w' ⟨rfl, rfl⟩
    go_wp2
    go_ret
    exact ⟨by rw [HE.out]; rfl, rfl⟩
  · rw [show rightB 2 = true from rfl] at HR
    rw [show chN 2 = 36 from rfl, show ((36 : Nat) : Int) = 36 from rfl] at HC
    have HE := Lib.hid (show wdN 2 = 2 from rfl)
    go_enter Try.func100, Try.ntmps100
    go_wp2_with fail
    refine HR.out.mono ?_
    rintro e w' ⟨rfl, rfl⟩
    go_wp2_with fail
    refine HC.out.mono ?_
    rintro e w' ⟨rfl, rfl⟩
    go_wp2
    go_ret
    exact ⟨by rw [HE.out]; rfl, rfl⟩
end Go.Proofs.Ytckhkagkpldoiaa
