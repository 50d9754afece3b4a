/- What the reference's product and power do: walks. -/
import Derived.Test.YtdgflbbffimpkaaRows
import Derived.Test.YtdgflbbffimpkaaGfM2
import Derived.WalkKit
import Derived.WalkSpells
import Derived.WalkLawsBesides
import Derived.Lib.Hide
namespace Go.Proofs.Ytdgflbbffimpkaa
open Go.RowKit

theorem ret_intR {k : IntKind} {a b : Int} (h : a = b) : Ending.returned (.int k a) = .returned (.int k b) := by rw [h]
theorem ofInt_i64 (a : Nat) (ha : a < 9223372036854775808) : (BitVec.ofInt 64 (a : Int)).toNat = a := by
  rw [BitVec.ofInt_natCast, BitVec.toNat_ofNat]; exact Nat.mod_eq_of_lt (by omega)
theorem i64_xor_nat (a b : Nat) (ha : a < 9223372036854775808) (hb : b < 9223372036854775808) : bits .xor .i64 (a : Int) (b : Int) = ((a ^^^ b : Nat) : Int) := by
  have hx : a ^^^ b < 2 ^ 63 := Nat.xor_lt_two_pow (by omega) (by omega)
  show IntKind.i64.wrap ((BitVec.ofInt 64 (a : Int) ^^^ BitVec.ofInt 64 (b : Int)).toNat : Int) = _
  rw [BitVec.toNat_xor, ofInt_i64 a ha, ofInt_i64 b hb, IntKind.wrap_i64]
  omega
theorem u8_and1 : ∀ b : Nat, b < 256 → bits .and .u8 (b : Int) 1 = ((b % 2 : Nat) : Int) := by decide +kernel

theorem refMul_any (a c : Int) (x y : Nat) (hx : a = x) (hy : c = y) (lx : x < 256) (ly : y < 256) (w : World) :
    Calls Try.prog 23 #[.int .u8 a, .int .u8 c] w fun e w' => e = .returned (.int .u8 (gmulN x y)) ∧ w = w' := by
  subst hx hy
  go_enter Try.func23, Try.ntmps23
  go_wp2
  go_loop [1, 5, 6, 7] (fun b p t i => ∃ k bb pp tt : Nat, k ≤ 8 ∧ bb < 256 ∧ tt < 256 * 2 ^ k ∧ pp < 32768 ∧ b = .int .u8 bb ∧ p = .int .i64 pp ∧ t = .int .i64 tt ∧ i = .int .i64 k ∧ rm1 (8 - k) tt bb pp = rm1 8 x y 0)
    (fun _ _ _ i => 8 - (intOf i).toNat)
  case atStart => exact ⟨0, y, 0, x, by omega, ly, by omega, by omega, rfl, rfl, rfl, rfl, rfl⟩
  case round =>
    obtain ⟨k, bb, pp, tt, hk, hb, ht, hp, rfl, rfl, rfl, rfl, hr⟩ := hrel
    have hk2 : 2 ^ k ≤ 256 := Nat.pow_le_pow_right (n := 2) (by omega) hk
    have ht2 : tt ≤ 65536 := by omega
    by_cases hlt : k < 8
    · have hk3 : 2 ^ k ≤ 128 := Nat.pow_le_pow_right (n := 2) (i := k) (j := 7) (by omega) (by omega)
      have ht3 : tt < 32768 := by omega
      have hand := u8_and1 bb hb
      have hxor := i64_xor_nat pp tt (by omega) (by omega)
      have hx15 : pp ^^^ tt < 32768 := Nat.xor_lt_two_pow (n := 15) hp ht3
      have hstep : rm1 (8 - k) tt bb pp = rm1 (8 - (k + 1)) (tt * 2) (bb / 2) (pp ^^^ (if bb % 2 = 1 then tt else 0)) := by
        rw [show 8 - k = (8 - (k + 1)) + 1 from by omega]; rfl
      rw [hstep] at hr
      have ht4 : tt * 2 < 256 * 2 ^ (k + 1) := by rw [Nat.pow_succ]; omega
      have HR := Lib.hid hr
      have HT := Lib.hid ht4
      clear hr hstep ht hk2 hk3 ht4
      go_wp2
      · have hodd : ((bb : Int) % 2 == 1) = true := by assumption
        have hodd2 : bb % 2 = 1 := by rw [beq_iff_eq] at hodd; omega
        go_round
        case rel => exact ⟨k + 1, bb / 2, pp ^^^ tt, tt * 2, by omega, by omega, HT.out, hx15, by go_num, rfl, by go_num, by go_num, by rw [← HR.out, if_pos hodd2]⟩
        case measure => simp [intOf]; omega
      · have hodd : ((bb : Int) % 2 == 1) = false := by assumption
        have hodd2 : ¬ bb % 2 = 1 := by rw [beq_eq_false_iff_ne] at hodd; omega
        go_round
        case rel => exact ⟨k + 1, bb / 2, pp, tt * 2, by omega, by omega, HT.out, hp, by go_num, rfl, by go_num, by go_num, by rw [← HR.out, if_neg hodd2, Nat.xor_zero]⟩
        case measure => simp [intOf]; omega
    · obtain rfl : k = 8 := by omega
      have hr2 : rm2 7 pp = gmulN x y := by
        rw [← rmulN_eq x y lx ly, rmulN, ← hr]; rfl
      have HR := Lib.hid hr2
      clear hr hr2 hk ht hk2 ht2
      go_wp2
      go_loop [5, 8] (fun p i => ∃ r q : Nat, r ≤ 7 ∧ q < 32768 ∧ p = .int .i64 q ∧ i = .int .i64 ((r : Int) + 7) ∧ rm2 r q = gmulN x y)
        (fun _ i => (intOf i).toNat)
      case atStart => exact ⟨7, pp, by omega, hp, rfl, rfl, HR.out⟩
      case round =>
        obtain ⟨r, q, hr7, hq, rfl, rfl, hr⟩ := hrel
        have HR2 := Lib.hid hr
        clear HR hr
        by_cases hr0 : 1 ≤ r
        · go_wp2
          go_loop [9, 10] (fun t i => ∃ k u : Nat, k ≤ r + 7 ∧ u = 2 ^ k ∧ t = .int .i64 u ∧ i = .int .i64 k) (fun _ i => r + 7 - (intOf i).toNat)
          case atStart => exact ⟨0, 1, by omega, rfl, rfl, rfl⟩
          case round =>
            obtain ⟨k, u, hk, hu, rfl, rfl⟩ := hrel
            have hu2 : u ≤ 16384 := by rw [hu]; exact Nat.pow_le_pow_right (n := 2) (j := 14) (by omega) (by omega)
            have hu3 : 1 ≤ u := by rw [hu]; exact Nat.one_le_two_pow
            have HU := Lib.hid hu
            clear hu
            by_cases hlt : k < r + 7
            · go_wp2
              go_round
              case rel => exact ⟨k + 1, u * 2, by omega, by rw [HU.out, Nat.pow_succ], by go_num, by go_num⟩
              case measure => simp [intOf]; omega
            · obtain rfl : k = r + 7 := by omega
              obtain ⟨n, rfl⟩ : ∃ n, r = n + 1 := ⟨r - 1, by omega⟩
              have hd : 285 * u / 256 = 285 * 2 ^ n := by
                rw [HU.out, show n + 1 + 7 = n + 8 from by omega, Nat.pow_add]
                omega
              have hd2 : 285 * u / 256 < 32768 := by omega
              have hxor : bits .xor .i64 (q : Int) (285 * (u : Int) / 256) = ((q ^^^ (285 * u / 256) : Nat) : Int) := by
                rw [← i64_xor_nat q (285 * u / 256) (by omega) (by omega)]
                congr 1
              have hxl : q ^^^ (285 * u / 256) < 32768 := Nat.xor_lt_two_pow (n := 15) hq hd2
              have htb : q.testBit (n + 8) = decide (q / u % 2 = 1) := by
                rw [HU.out, show n + 1 + 7 = n + 8 from by omega, Nat.testBit_eq_decide_div_mod_eq]
              have HD := Lib.hid hd
              have HTB := Lib.hid htb
              clear hd htb hlt hk
              have hw64 : wrap64 ((q : Int) / u) = ((q / u : Nat) : Int) := by
                rw [← Int.natCast_ediv]
                have hle := Nat.div_le_self q u
                obtain ⟨d, hd⟩ : ∃ d, q / u = d := ⟨_, rfl⟩
                rw [hd] at hle ⊢
                unfold wrap64
                omega
              obtain ⟨d, hd⟩ : ∃ d, q / u = d := ⟨_, rfl⟩
              have HQ := Lib.hid hd
              rw [hd] at hw64
              clear hd
              by_cases hbit : d % 2 = 1
              · have hT : ((wrap64 ((q : Int) / u)).tmod 2 == 1) = true := by
                  rw [hw64, beq_iff_eq, Int.tmod_eq_emod_of_nonneg (by omega)]
                  omega
                clear hw64
                have HB := Lib.hid hbit
                clear hbit
                go_wp2
                refine ⟨⟨n, _, by omega, hxl, rfl, by go_num, ?_⟩, by simp [intOf]; omega⟩
                rw [← HR2.out, rm2, HTB.out, HQ.out, decide_eq_true HB.out, HD.out]
                simp
              · have hT : ((wrap64 ((q : Int) / u)).tmod 2 == 1) = false := by
                  rw [hw64, beq_eq_false_iff_ne, Int.tmod_eq_emod_of_nonneg (by omega)]
                  omega
                clear hw64
                have HB := Lib.hid hbit
                clear hbit
                go_wp2
                refine ⟨⟨n, q, by omega, hq, rfl, by go_num, ?_⟩, by simp [intOf]; omega⟩
                rw [← HR2.out, rm2, HTB.out, HQ.out, decide_eq_false HB.out]
                simp
        · obtain rfl : r = 0 := by omega
          have hq2 : q = gmulN x y := HR2.out
          have hlt := gmulN_lt x y
          have HQ2 := Lib.hid hq2
          clear hq2
          go_wp2
          go_ret
          have := HQ2.out
          exact ⟨ret_intR (by omega), rfl⟩

end Go.Proofs.Ytdgflbbffimpkaa
