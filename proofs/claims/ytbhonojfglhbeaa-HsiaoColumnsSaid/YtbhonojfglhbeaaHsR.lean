/- The document's columns, syndromes and verdicts of layer 4: walks. -/
import Derived.Test.YtbhonojfglhbeaaHsL
import Derived.Test.YtbhonojfglhbeaaBitQ
import Derived.Laws.Rows
import Derived.Deep.WholeRow
namespace Go.Proofs.Ytbhonojfglhbeaa
open Go.RowKit

theorem chTo_getD (m x k n : Nat) : (chTo (m + 1) x k).getD n 0 = if pc x = k then (if n = 0 then x else (chTo m (x + 1) k).getD (n - 1) 0) else (chTo m (x + 1) k).getD n 0 := by
  rw [chTo]
  by_cases h : pc x = k
  · rw [if_pos h, if_pos h]
    cases n with
    | zero => rfl
    | succ n => rw [if_neg (by omega)]; rfl
  · rw [if_neg h, if_neg h]
set_option maxRecDepth 100000 in
theorem nth_any (k n : Nat) (hk : k ≤ 64) (hn : n ≤ 1000) (w : World) :
    Calls Try.prog 27 #[.int .i64 (k : Int), .int .i64 (n : Int)] w fun e w' => e = .returned (.int .u8 ((choose 8 k).getD n 0 : Nat)) ∧ w = w' := by
  obtain ⟨R, hR⟩ : ∃ R, (choose 8 k).getD n 0 = R := ⟨_, rfl⟩
  rw [hR]
  have hR2 : (chTo 256 0 k).getD n 0 = R := hR
  have HR := Lib.hid hR2
  clear hR hR2
  go_enter Try.func27, Try.ntmps27
  go_wp2
  go_loop [1, 5] (fun n x => ∃ m y : Nat, y ≤ 256 ∧ m ≤ 1000 ∧ n = .int .i64 m ∧ x = .int .i64 y ∧ (chTo (256 - y) y k).getD m 0 = R) (fun _ x => 256 - (intOf x).toNat)
  case atStart => exact ⟨n, 0, by omega, hn, rfl, rfl, HR.out⟩
  case round =>
    obtain ⟨m, y, hy, hm, rfl, rfl, hd⟩ := hrel
    by_cases hlt : y < 256
    · rw [show 256 - y = (255 - y) + 1 by omega, chTo_getD] at hd
      have RW := refWeight (y : Int) y rfl (by omega) w
      obtain ⟨P, hP⟩ : ∃ P, pc y = P := ⟨_, rfl⟩
      rw [hP] at RW hd
      have HW := Lib.hid RW
      by_cases hpk : P = k
      · rw [if_pos hpk] at hd
        by_cases hm0 : m = 0
        · rw [if_pos hm0] at hd
          subst hpk hm0
          have HD := Lib.hid hd
          clear RW hP hd
          go_wp2_with fail
          refine HW.out.mono ?_
          rintro e w' ⟨rfl, rfl⟩
          go_wp2
          go_ret
          exact ⟨by rw [← HD.out]; rfl, rfl⟩
        · rw [if_neg hm0] at hd
          have q0 : ((m : Int) == 0) = false := by rw [beq_eq_false_iff_ne]; omega
          have m1 : 1 ≤ m := by omega
          subst hpk
          have HD := Lib.hid hd
          clear RW hP hd hm0
          go_wp2_with fail
          refine HW.out.mono ?_
          rintro e w' ⟨rfl, rfl⟩
          go_wp2
          go_round
          case rel => exact ⟨m - 1, y + 1, by omega, by omega, by congr 1; omega, by go_num, by rw [show 256 - (y + 1) = 255 - y by omega]; exact HD.out⟩
          case measure => simp [intOf]; omega
      · rw [if_neg hpk] at hd
        have q0 : ((P : Int) == (k : Int)) = false := by rw [beq_eq_false_iff_ne]; omega
        have HD := Lib.hid hd
        clear RW hP hd hpk
        go_wp2_with fail
        refine HW.out.mono ?_
        rintro e w' ⟨rfl, rfl⟩
        go_wp2
        go_round
        case rel => exact ⟨m, y + 1, by omega, hm, rfl, by go_num, by rw [show 256 - (y + 1) = 255 - y by omega]; exact HD.out⟩
        case measure => simp [intOf]; omega
    · obtain rfl : y = 256 := by omega
      have HD := Lib.hid (show 0 = R from hd)
      clear hd
      rw [show ((256 : Nat) : Int) = 256 from rfl]
      go_wp2
      go_ret
      exact ⟨by rw [← HD.out]; rfl, rfl⟩

theorem nth_col0 : (∀ i, i < 56 → (choose 8 3).getD i 0 = hcolL.getD i 0) ∧ (∀ i, i < 8 → (choose 8 5).getD i 0 = hcolL.getD (56 + i) 0) ∧ (∀ i, i < 8 → (choose 8 1).getD i 0 = hcolL.getD (64 + i) 0) ∧ (∀ i, i < 2 → (choose 8 5).getD (8 + i) 0 = hcolL.getD (72 + i) 0) := by decide +kernel
set_option maxRecDepth 100000 in
theorem refColumn_any (a : Int) (h0 : -9223372036854775808 ≤ a) (h1 : a ≤ 9223372036854775807) (w : World) :
    Calls Try.prog 15 #[.int .i64 a] w fun e w' => e = .returned (.int .u8 (colI a : Nat)) ∧ w = w' := by
  by_cases hn : 0 ≤ a
  · obtain ⟨i, rfl⟩ := Int.eq_ofNat_of_zero_le hn
    have hc : ∀ j, j = i → col i = hcolL.getD j 0 := by rintro j rfl; unfold col; rw [hcols_eq]
    by_cases hlt : i < 56
    · have hE := (hc i rfl).trans (nth_col0.1 i hlt).symm
      have N0 := nth_any 3 i (by omega) (by omega) w
      obtain ⟨R, hR⟩ : ∃ R, (choose 8 3).getD i 0 = R := ⟨_, rfl⟩
      rw [hR] at N0
      have NN := Lib.hid N0
      have q1 : (i : Int) < 56 := by omega
      have q2 : ¬ (73 : Int) < (i : Int) := by omega
      clear N0 hc
      have HE := Lib.hid (show colI (i : Int) = R by unfold colI; rw [if_pos (by omega), ← hR]; exact hE)
      clear hE hR hlt
      go_enter Try.func15, Try.ntmps15
      go_wp2_with fail
      refine NN.out.mono ?_
      rintro e w' ⟨rfl, rfl⟩
      go_wp2
      go_ret
      exact ⟨by rw [HE.out]; rfl, rfl⟩
    · by_cases hlt2 : i < 64
      · have hE := (hc (56 + (i - 56)) (by omega)).trans (nth_col0.2.1 (i - 56) (by omega)).symm
        have N0 := nth_any 5 (i - 56) (by omega) (by omega) w
        obtain ⟨R, hR⟩ : ∃ R, (choose 8 5).getD (i - 56) 0 = R := ⟨_, rfl⟩
        rw [hR, show ((i - 56 : Nat) : Int) = (i : Int) - 56 by omega] at N0
        have NN := Lib.hid N0
        have q1 : ¬ (i : Int) < 56 := by omega
        have q2 : ¬ (73 : Int) < (i : Int) := by omega
        have q3 : (i : Int) < 64 := by omega
        clear N0 hc
        have HE := Lib.hid (show colI (i : Int) = R by unfold colI; rw [if_pos (by omega), ← hR]; exact hE)
        clear hE hR hlt
        go_enter Try.func15, Try.ntmps15
        go_wp2_with fail
        refine NN.out.mono ?_
        rintro e w' ⟨rfl, rfl⟩
        go_wp2
        go_ret
        exact ⟨by rw [HE.out]; rfl, rfl⟩
      · by_cases hlt3 : i < 72
        · have hE := (hc (64 + (i - 64)) (by omega)).trans (nth_col0.2.2.1 (i - 64) (by omega)).symm
          have N0 := nth_any 1 (i - 64) (by omega) (by omega) w
          obtain ⟨R, hR⟩ : ∃ R, (choose 8 1).getD (i - 64) 0 = R := ⟨_, rfl⟩
          rw [hR, show ((i - 64 : Nat) : Int) = (i : Int) - 64 by omega] at N0
          have NN := Lib.hid N0
          have q1 : ¬ (i : Int) < 56 := by omega
          have q2 : ¬ (73 : Int) < (i : Int) := by omega
          have q3 : ¬ (i : Int) < 64 := by omega
          have q4 : (i : Int) < 72 := by omega
          clear N0 hc
          have HE := Lib.hid (show colI (i : Int) = R by unfold colI; rw [if_pos (by omega), ← hR]; exact hE)
          clear hE hR hlt
          go_enter Try.func15, Try.ntmps15
          go_wp2_with fail
          refine NN.out.mono ?_
          rintro e w' ⟨rfl, rfl⟩
          go_wp2
          go_ret
          exact ⟨by rw [HE.out]; rfl, rfl⟩
        · by_cases hlt4 : i < 74
          · have hE := (hc (72 + (i - 72)) (by omega)).trans (nth_col0.2.2.2 (i - 72) (by omega)).symm
            rw [show 8 + (i - 72) = i - 64 by omega] at hE
            have N0 := nth_any 5 (i - 64) (by omega) (by omega) w
            obtain ⟨R, hR⟩ : ∃ R, (choose 8 5).getD (i - 64) 0 = R := ⟨_, rfl⟩
            rw [hR, show ((i - 64 : Nat) : Int) = (i : Int) - 64 by omega] at N0
            have NN := Lib.hid N0
            have q1 : ¬ (i : Int) < 56 := by omega
            have q2 : ¬ (73 : Int) < (i : Int) := by omega
            have q3 : ¬ (i : Int) < 64 := by omega
            have q4 : ¬ (i : Int) < 72 := by omega
            clear N0 hc
            have HE := Lib.hid (show colI (i : Int) = R by unfold colI; rw [if_pos (by omega), ← hR]; exact hE)
            clear hE hR hlt
            go_enter Try.func15, Try.ntmps15
            go_wp2_with fail
            refine NN.out.mono ?_
            rintro e w' ⟨rfl, rfl⟩
            go_wp2
            go_ret
            exact ⟨by rw [HE.out]; rfl, rfl⟩
          · have q2 : (73 : Int) < (i : Int) := by omega
            have HE := Lib.hid (show colI (i : Int) = 0 by unfold colI; rw [if_neg (by omega)])
            clear hc hlt hlt2 hlt3 hlt4
            go_enter Try.func15, Try.ntmps15
            go_wp2
            go_ret
            exact ⟨by rw [HE.out]; rfl, rfl⟩
  · have HE := Lib.hid (show colI a = 0 by unfold colI; rw [if_neg (by omega)])
    go_enter Try.func15, Try.ntmps15
    go_wp2
    go_ret
    exact ⟨by rw [HE.out]; rfl, rfl⟩
end Go.Proofs.Ytbhonojfglhbeaa
