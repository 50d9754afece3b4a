/- raw.unlike: a walk. -/
import Derived.Test.YtckhkagkpldoiaaBitDf
import Derived.Test.YtckhkagkpldoiaaRawW
namespace Go.Proofs.Ytckhkagkpldoiaa
open Go.RowKit

/-- The unlike bytes of the first k pairs. -/
def ulB (xs ys : List UInt8) : Nat → Nat
  | 0 => 0
  | k + 1 => ulB xs ys k + if xs.getD k 0 = ys.getD k 0 then 0 else 1
theorem ulB_le (xs ys : List UInt8) (k : Nat) : ulB xs ys k ≤ k := by
  induction k with
  | zero => exact Nat.le_refl 0
  | succ k ih => rw [ulB]; split <;> omega
def ul (mode : Int) (xs ys : List UInt8) : Nat := if mode = 1 then dI xs ys else ulB xs ys xs.length

set_option maxRecDepth 100000 in
theorem unlike_any (mode : Int) (A B : Option Addr) (n c d : Nat) (xs ys : List UInt8) (hn : xs.length = n) (hm : ys.length = n) (bn : n ≤ 200) (w : World) (hx : RdB w A xs) (hy : RdB w B ys) :
    Calls Try.prog 101 #[.int .i64 mode, .slice A n c, .slice B n d] w fun e w' => e = .returned (.int .i64 (ul mode xs ys : Nat)) ∧ w = w' := by
  by_cases h1 : mode = 1
  · subst h1
    have HU := Lib.hid (show ul 1 xs ys = dI xs ys from if_pos rfl)
    have HD := Lib.hid (differ_any A B n n c d xs ys hn hm bn bn w hx hy)
    obtain ⟨D, hD⟩ : ∃ D, dI xs ys = D := ⟨_, rfl⟩
    rw [hD] at HU HD
    clear hx hy hn hm hD
    go_enter Try.func101, Try.ntmps101
    go_wp2_with fail
    refine HD.out.mono ?_
    rintro e w' ⟨rfl, rfl⟩
    go_wp2
    go_ret
    exact ⟨by rw [HU.out]; rfl, rfl⟩
  · have q1 : (mode == 1) = false := by rw [beq_eq_false_iff_ne]; exact h1
    have HU := Lib.hid (show ul mode xs ys = ulB xs ys n by unfold ul; rw [if_neg h1, hn])
    have HX := Lib.hid hx
    have HY := Lib.hid hy
    have HN := Lib.hid hn
    have HM := Lib.hid hm
    clear hx hy hn hm h1
    go_enter Try.func101, Try.ntmps101
    go_wp2
    go_loop [7, 17] (fun s i => ∃ k : Nat, k ≤ n ∧ i = .int .i64 k ∧ s = .int .i64 ((ulB xs ys k : Nat) : Int)) (fun _ i => n - (intOf i).toNat)
    case atStart => exact ⟨0, Nat.zero_le _, rfl, rfl⟩
    case round =>
      obtain ⟨k, hk, rfl, rfl⟩ := hrel
      have hul := ulB_le xs ys k
      obtain ⟨C, hC⟩ : ∃ C, ulB xs ys k = C := ⟨_, rfl⟩
      rw [hC] at hul ⊢
      by_cases hl : k < n
      · obtain ⟨b1, o1, hA1, _, hc1⟩ := HX.out k (by have := HN.out; omega)
        obtain ⟨b2, o2, hA2, _, hc2⟩ := HY.out k (by have := HM.out; omega)
        subst hA1 hA2
        by_cases hxy : xs.getD k 0 = ys.getD k 0
        · have HS := Lib.hid (show ulB xs ys (k + 1) = C by rw [ulB, hC, if_pos hxy]; omega)
          rw [hxy] at hc1
          obtain ⟨y, hy⟩ : ∃ y, (ys.getD k 0).toNat = y := ⟨_, rfl⟩
          rw [hy] at hc1 hc2
          clear hxy hy hC
          go_wp2
          go_round
          case rel => exact ⟨k + 1, by omega, by go_num, by rw [HS.out]⟩
          case measure => simp [intOf]; omega
        · have HS := Lib.hid (show ulB xs ys (k + 1) = C + 1 by rw [ulB, hC, if_neg hxy])
          have hne : (xs.getD k 0).toNat ≠ (ys.getD k 0).toNat := fun h => hxy (UInt8.toNat_inj.1 h)
          obtain ⟨x, hx⟩ : ∃ y, (xs.getD k 0).toNat = y := ⟨_, rfl⟩
          obtain ⟨y, hy⟩ : ∃ y, (ys.getD k 0).toNat = y := ⟨_, rfl⟩
          rw [hx] at hc1 hne
          rw [hy] at hc2 hne
          have q2 : ((x : Int) != (y : Int)) = true := by rw [bne_iff_ne]; omega
          clear hxy hx hy hC hne
          go_wp2
          go_round
          case rel => exact ⟨k + 1, by omega, by go_num, by rw [HS.out]; go_num⟩
          case measure => simp [intOf]; omega
      · obtain rfl : k = n := by omega
        have HC := Lib.hid hC
        clear hC
        go_wp2
        go_ret
        exact ⟨by rw [HU.out, HC.out]; rfl, rfl⟩
end Go.Proofs.Ytckhkagkpldoiaa
