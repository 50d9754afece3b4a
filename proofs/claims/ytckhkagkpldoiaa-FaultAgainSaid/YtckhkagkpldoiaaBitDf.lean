/- bit.Differ: a walk. -/
import Derived.Test.YtckhkagkpldoiaaBitX
import Derived.Test.YtckhkagkpldoiaaBitW
namespace Go.Proofs.Ytckhkagkpldoiaa
open Go.RowKit

/-- The unlike bits of the first k pairs of bytes. -/
def dfB (xs ys : List UInt8) : Nat → Nat
  | 0 => 0
  | k + 1 => dfB xs ys k + pc (xs.getD k 0 ^^^ ys.getD k 0).toNat
theorem dfB_comm (xs ys : List UInt8) (k : Nat) : dfB xs ys k = dfB ys xs k := by
  induction k with
  | zero => rfl
  | succ k ih => rw [dfB, dfB, ih, UInt8.xor_comm]
theorem dfB_le (xs ys : List UInt8) (k : Nat) : dfB xs ys k ≤ 64 * k := by
  induction k with
  | zero => exact Nat.le_refl 0
  | succ k ih => rw [dfB]; have := pc_le (xs.getD k 0 ^^^ ys.getD k 0).toNat; omega
def dI (xs ys : List UInt8) : Nat := 8 * (max xs.length ys.length - min xs.length ys.length) + dfB xs ys (min xs.length ys.length)

set_option maxRecDepth 100000 in
theorem differ_any (A B : Option Addr) (n m c d : Nat) (xs ys : List UInt8) (hn : xs.length = n) (hm : ys.length = m) (bn : n ≤ 200) (bm : m ≤ 200) (w : World) (hx : RdB w A xs) (hy : RdB w B ys) :
    Calls Try.prog 108 #[.slice A n c, .slice B m d] w fun e w' => e = .returned (.int .i64 (dI xs ys : Nat)) ∧ w = w' := by
  by_cases hlt : m < n
  · have hd : dI xs ys = 8 * (n - m) + dfB ys xs m := by unfold dI; rw [hn, hm, dfB_comm, show max n m - min n m = n - m from by omega, show min n m = m from by omega]
    have HD := Lib.hid hd
    have HX := Lib.hid hy
    have HY := Lib.hid hx
    have HN := Lib.hid hm
    have HM := Lib.hid hn
    have hle : m ≤ n := by omega
    obtain ⟨D0, hD0⟩ : ∃ D0, n - m = D0 := ⟨_, rfl⟩
    have hsub : (n : Int) - (m : Int) = (D0 : Int) := by omega
    have hDl : D0 ≤ 200 := by omega
    rw [hD0] at hd
    have HD2 := Lib.hid hd
    clear hx hy hn hm hd HD hD0
    go_enter Try.func108, Try.ntmps108
    go_wp2
    clear hsub
    go_loop [5, 23] (fun s i => ∃ k : Nat, k ≤ m ∧ i = .int .i64 k ∧ s = .int .i64 ((8 * D0 + dfB ys xs k : Nat) : Int)) (fun _ i => m - (intOf i).toNat)
    case atStart => exact ⟨0, Nat.zero_le _, rfl, by rw [dfB]; go_num⟩
    case round =>
      obtain ⟨k, hk, rfl, rfl⟩ := hrel
      have hdl := dfB_le ys xs k
      by_cases hl : k < m
      · obtain ⟨b1, o1, hA1, _, hc1⟩ := HX.out k (by have := HN.out; omega)
        obtain ⟨b2, o2, hA2, _, hc2⟩ := HY.out k (by have := HM.out; omega)
        subst hA1 hA2
        obtain ⟨x, hx⟩ : ∃ x, ys.getD k 0 = x := ⟨_, rfl⟩
        obtain ⟨y, hy⟩ : ∃ y, xs.getD k 0 = y := ⟨_, rfl⟩
        obtain ⟨C, hC⟩ : ∃ C, 8 * D0 + dfB ys xs k = C := ⟨_, rfl⟩
        have hCl : C ≤ 20000 := by omega
        have hst : 8 * D0 + dfB ys xs (k + 1) = C + pc (x ^^^ y).toNat := by rw [dfB, hx, hy]; omega
        have hz := u8_xorF x y
        have lz : (x ^^^ y).toNat < 256 := UInt8.toNat_lt _
        obtain ⟨z, hz2⟩ : ∃ z, (x ^^^ y).toNat = z := ⟨_, rfl⟩
        obtain ⟨P, hP⟩ : ∃ P, pc z = P := ⟨_, rfl⟩
        have hPl : P ≤ 64 := by rw [← hP]; exact pc_le z
        rw [hz2] at hst hz lz
        have RW := weight8 (z : Int) z rfl lz w
        rw [hP] at hst RW
        rw [hx] at hc1
        rw [hy] at hc2
        rw [hC]
        have HW := Lib.hid RW
        have HS := Lib.hid hst
        clear hx hy hC hst hz2 hP RW hdl
        have i0 : (0 : Int) ≤ (k : Int) := by omega
        have i1 : (k : Int) < (m : Int) := by omega
        have i2 : (k : Int) < (n : Int) := by omega
        go_wp2_with fail
        refine HW.out.mono ?_
        rintro e w' ⟨rfl, rfl⟩
        go_wp2
        go_round
        case rel => exact ⟨k + 1, by omega, by go_num, by rw [HS.out]; go_num⟩
        case measure => simp [intOf]; omega
      · obtain rfl : k = m := by omega
        obtain ⟨C, hC⟩ : ∃ C, 8 * D0 + dfB ys xs k = C := ⟨_, rfl⟩
        rw [hC]
        have HC := Lib.hid hC
        clear hC hdl
        go_wp2
        go_ret
        exact ⟨by rw [HD2.out, HC.out]; rfl, rfl⟩
  · have hd : dI xs ys = 8 * (m - n) + dfB xs ys n := by unfold dI; rw [hn, hm, show max n m - min n m = m - n from by omega, show min n m = n from by omega]
    have HD := Lib.hid hd
    have HX := Lib.hid hx
    have HY := Lib.hid hy
    have HN := Lib.hid hn
    have HM := Lib.hid hm
    have hle : n ≤ m := by omega
    obtain ⟨D0, hD0⟩ : ∃ D0, m - n = D0 := ⟨_, rfl⟩
    have hsub : (m : Int) - (n : Int) = (D0 : Int) := by omega
    have hDl : D0 ≤ 200 := by omega
    rw [hD0] at hd
    have HD2 := Lib.hid hd
    clear hx hy hn hm hd HD hD0
    go_enter Try.func108, Try.ntmps108
    go_wp2
    clear hsub
    go_loop [5, 23] (fun s i => ∃ k : Nat, k ≤ n ∧ i = .int .i64 k ∧ s = .int .i64 ((8 * D0 + dfB xs ys k : Nat) : Int)) (fun _ i => n - (intOf i).toNat)
    case atStart => exact ⟨0, Nat.zero_le _, rfl, by rw [dfB]; go_num⟩
    case round =>
      obtain ⟨k, hk, rfl, rfl⟩ := hrel
      have hdl := dfB_le xs ys k
      by_cases hl : k < n
      · obtain ⟨b1, o1, hA1, _, hc1⟩ := HX.out k (by have := HN.out; omega)
        obtain ⟨b2, o2, hA2, _, hc2⟩ := HY.out k (by have := HM.out; omega)
        subst hA1 hA2
        obtain ⟨x, hx⟩ : ∃ x, xs.getD k 0 = x := ⟨_, rfl⟩
        obtain ⟨y, hy⟩ : ∃ y, ys.getD k 0 = y := ⟨_, rfl⟩
        obtain ⟨C, hC⟩ : ∃ C, 8 * D0 + dfB xs ys k = C := ⟨_, rfl⟩
        have hCl : C ≤ 20000 := by omega
        have hst : 8 * D0 + dfB xs ys (k + 1) = C + pc (x ^^^ y).toNat := by rw [dfB, hx, hy]; omega
        have hz := u8_xorF x y
        have lz : (x ^^^ y).toNat < 256 := UInt8.toNat_lt _
        obtain ⟨z, hz2⟩ : ∃ z, (x ^^^ y).toNat = z := ⟨_, rfl⟩
        obtain ⟨P, hP⟩ : ∃ P, pc z = P := ⟨_, rfl⟩
        have hPl : P ≤ 64 := by rw [← hP]; exact pc_le z
        rw [hz2] at hst hz lz
        have RW := weight8 (z : Int) z rfl lz w
        rw [hP] at hst RW
        rw [hx] at hc1
        rw [hy] at hc2
        rw [hC]
        have HW := Lib.hid RW
        have HS := Lib.hid hst
        clear hx hy hC hst hz2 hP RW hdl
        have i0 : (0 : Int) ≤ (k : Int) := by omega
        have i1 : (k : Int) < (n : Int) := by omega
        have i2 : (k : Int) < (m : Int) := by omega
        go_wp2_with fail
        refine HW.out.mono ?_
        rintro e w' ⟨rfl, rfl⟩
        go_wp2
        go_round
        case rel => exact ⟨k + 1, by omega, by go_num, by rw [HS.out]; go_num⟩
        case measure => simp [intOf]; omega
      · obtain rfl : k = n := by omega
        obtain ⟨C, hC⟩ : ∃ C, 8 * D0 + dfB xs ys k = C := ⟨_, rfl⟩
        rw [hC]
        have HC := Lib.hid hC
        clear hC hdl
        go_wp2
        go_ret
        exact ⟨by rw [HD2.out, HC.out]; rfl, rfl⟩
end Go.Proofs.Ytckhkagkpldoiaa
