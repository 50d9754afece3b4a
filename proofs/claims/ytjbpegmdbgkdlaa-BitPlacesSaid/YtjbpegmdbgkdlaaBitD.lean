/- The reference's count of unlike bits: a walk. -/
import Derived.Test.YtjbpegmdbgkdlaaBitG
namespace Go.Proofs.Ytjbpegmdbgkdlaa
open Go.RowKit

/-- How many of the first k bits are unlike. -/
def dfTo (xs ys : List UInt8) : Nat → Nat
  | 0 => 0
  | k + 1 => dfTo xs ys k + if bitI xs (k : Int) = bitI ys (k : Int) then 0 else 1
theorem dfTo_le (xs ys : List UInt8) (k : Nat) : dfTo xs ys k ≤ k := by
  induction k with
  | zero => exact Nat.le_refl 0
  | succ k ih => rw [dfTo]; split <;> omega

set_option maxRecDepth 100000 in
theorem refDiffer_any (A B : Option Addr) (n m c d : Nat) (xs ys : List UInt8) (hn : xs.length = n) (hm : ys.length = m) (bn : n ≤ 140737488355328) (bm : m ≤ maxLen) (w : World) (hx : RdB w A xs) (hy : RdB w B ys) :
    Calls Try.prog 9 #[.slice A n c, .slice B m d] w fun e w' => e = .returned (.int .i64 (dfTo xs ys (8 * n) : Nat)) ∧ w = w' := by
  have GX := Lib.hid (fun i h0 h1 => refGet_any A n c xs hn (by unfold maxLen; omega) i h0 h1 w hx)
  have GY := Lib.hid (fun i h0 h1 => refGet_any B m d ys hm bm i h0 h1 w hy)
  clear hx hy hn hm bm
  go_enter Try.func9, Try.ntmps9
  go_wp2
  go_loop [5, 6] (fun s i => ∃ k : Nat, k ≤ 8 * n ∧ i = .int .i64 k ∧ s = .int .i64 (dfTo xs ys k : Nat)) (fun _ i => 8 * n - (intOf i).toNat)
  case atStart => exact ⟨0, Nat.zero_le _, rfl, rfl⟩
  case round =>
    obtain ⟨k, hk, rfl, rfl⟩ := hrel
    by_cases hlt : k < 8 * n
    · have hdl := dfTo_le xs ys k
      obtain ⟨C, hC⟩ : ∃ C, dfTo xs ys k = C := ⟨_, rfl⟩
      obtain ⟨P, hP⟩ : ∃ P, bitI xs (k : Int) = P := ⟨_, rfl⟩
      obtain ⟨Q, hQ⟩ : ∃ Q, bitI ys (k : Int) = Q := ⟨_, rfl⟩
      have RX := GX.out (k : Int) (by omega) (by omega)
      have RY := GY.out (k : Int) (by omega) (by omega)
      have hst : dfTo xs ys (k + 1) = C + if P = Q then 0 else 1 := by rw [dfTo, hC, hP, hQ]
      rw [hP] at RX
      rw [hQ] at RY
      rw [hC] at hdl ⊢
      have HX := Lib.hid RX
      have HY := Lib.hid RY
      have HS := Lib.hid hst
      have hlt2 : (k : Int) < 8 * (n : Int) := by omega
      clear hC hP hQ RX RY hst
      by_cases hpq : P = Q
      · have hb : ((P : Int) == (Q : Int)) = true := by rw [hpq]; exact beq_self_eq_true _
        have HP := Lib.hid hpq
        clear hpq
        go_wp2_with fail
        refine HX.out.mono ?_
        rintro e w' ⟨rfl, rfl⟩
        go_wp2_with fail
        refine HY.out.mono ?_
        rintro e w' ⟨rfl, rfl⟩
        go_wp2
        go_round
        case rel => exact ⟨k + 1, by omega, by go_num, by rw [HS.out, if_pos HP.out]; rfl⟩
        case measure => simp [intOf]; omega
      · have hb : ((P : Int) == (Q : Int)) = false := by rw [beq_eq_false_iff_ne]; omega
        have HP := Lib.hid hpq
        clear hpq
        go_wp2_with fail
        refine HX.out.mono ?_
        rintro e w' ⟨rfl, rfl⟩
        go_wp2_with fail
        refine HY.out.mono ?_
        rintro e w' ⟨rfl, rfl⟩
        go_wp2
        go_round
        case rel => exact ⟨k + 1, by omega, by go_num, by rw [HS.out, if_neg HP.out]; go_num⟩
        case measure => simp [intOf]; omega
    · obtain rfl : k = 8 * n := by omega
      obtain ⟨C, hC⟩ : ∃ C, dfTo xs ys (8 * n) = C := ⟨_, rfl⟩
      rw [hC]
      have HC := Lib.hid hC
      clear hC
      go_wp2
      go_ret
      exact ⟨by rw [HC.out]; rfl, rfl⟩
end Go.Proofs.Ytjbpegmdbgkdlaa
