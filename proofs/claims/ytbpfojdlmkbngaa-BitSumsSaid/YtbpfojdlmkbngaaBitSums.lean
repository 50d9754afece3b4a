/- BitSums, walked: for every a, b the law returns true. -/
import Derived.Test.YtbpfojdlmkbngaaBitA
import Derived.Test.YtbpfojdlmkbngaaBitP
import Derived.OpenShut
namespace Go.Proofs.Ytbpfojdlmkbngaa
open Go.RowKit

theorem lit_u64 {a : Int} (h : (Lit.int .u64 a).wf = true) : ∃ x : Nat, a = x ∧ x < 18446744073709551616 := by
  have h2 := bounds_u64 h
  obtain ⟨n, rfl⟩ := Int.eq_ofNat_of_zero_le (a := a) (by omega)
  exact ⟨n, rfl, by omega⟩
theorem i64_xorS (a b : Nat) (ha : a < 9223372036854775808) (hb : b < 9223372036854775808) : bits .xor .i64 (a : Int) (b : Int) = ((a ^^^ b : Nat) : Int) := by
  have hx : a ^^^ b < 2 ^ 63 := Nat.xor_lt_two_pow (by omega) (by omega)
  have h2 : ∀ c : Nat, c < 9223372036854775808 → (BitVec.ofInt 64 (c : Int)).toNat = c := by
    intro c hc
    rw [BitVec.ofInt_natCast, BitVec.toNat_ofNat]; exact Nat.mod_eq_of_lt (by omega)
  show IntKind.i64.wrap ((BitVec.ofInt 64 (a : Int) ^^^ BitVec.ofInt 64 (b : Int)).toNat : Int) = _
  rw [BitVec.toNat_xor, h2 a ha, h2 b hb, IntKind.wrap_i64]
  omega
theorem xor_par (a b c d : Nat) (h : c + 2 * d = a + b) : c % 2 = (a % 2) ^^^ (b % 2) := by
  have hc : c % 2 = (a % 2 + b % 2) % 2 := by omega
  rw [hc]
  rcases Nat.mod_two_eq_zero_or_one a with ha | ha <;> rcases Nat.mod_two_eq_zero_or_one b with hb | hb <;> rw [ha, hb] <;> rfl

set_option maxRecDepth 100000 in
set_option maxHeartbeats 1000000 in
theorem BitSums_walk (a0 a1 : Int) (w : World) (w0 : (Lit.int .u64 a0).wf = true) (w1 : (Lit.int .u64 a1).wf = true) :
    Calls Try.prog 4 #[.int .u64 a0, .int .u64 a1] w fun e w' => e = .returned (.bool true) ∧ Below w.heap.size w w' := by
  obtain ⟨x, rfl, lx⟩ := lit_u64 w0
  obtain ⟨y, rfl, ly⟩ := lit_u64 w1
  clear w0 w1
  have h1 := pc_xor x y
  have h2 := pc_or x y (by omega)
  have h3 := xor_par _ _ _ _ h1
  have p1 := pc_le x
  have p2 := pc_le y
  have p3 := pc_le (x &&& y)
  have p4 := pc_le (y &&& (18446744073709551615 - x))
  have lxy : x ^^^ y < 18446744073709551616 := Nat.xor_lt_two_pow (n := 64) lx ly
  have lay : x &&& y < 18446744073709551616 := Nat.lt_of_le_of_lt Nat.and_le_left lx
  have loy : x ||| y < 18446744073709551616 := Nat.or_lt_two_pow (n := 64) lx ly
  have lny : y &&& (18446744073709551615 - x) < 18446744073709551616 := Nat.lt_of_le_of_lt Nat.and_le_left ly
  have e1 := u64_xor_nat x y lx ly
  have e2 := u64_and_nat x y lx ly
  have e3 := u64_or_nat x y lx ly
  have e4 := u64_andNot_nat y x ly lx
  have e5 := i64_xorS (pc x % 2) (pc y % 2) (by omega) (by omega)
  obtain ⟨P, hP⟩ : ∃ P, pc (x ^^^ y) = P := ⟨_, rfl⟩
  obtain ⟨A, hA⟩ : ∃ A, pc (x &&& y) = A := ⟨_, rfl⟩
  obtain ⟨X, hX⟩ : ∃ X, pc x = X := ⟨_, rfl⟩
  obtain ⟨Y, hY⟩ : ∃ Y, pc y = Y := ⟨_, rfl⟩
  obtain ⟨O, hO⟩ : ∃ O, pc (x ||| y) = O := ⟨_, rfl⟩
  obtain ⟨N, hN⟩ : ∃ N, pc (y &&& (18446744073709551615 - x)) = N := ⟨_, rfl⟩
  obtain ⟨z1, hz1⟩ : ∃ z, x ^^^ y = z := ⟨_, rfl⟩
  obtain ⟨z2, hz2⟩ : ∃ z, x &&& y = z := ⟨_, rfl⟩
  obtain ⟨z3, hz3⟩ : ∃ z, x ||| y = z := ⟨_, rfl⟩
  obtain ⟨z4, hz4⟩ : ∃ z, y &&& (18446744073709551615 - x) = z := ⟨_, rfl⟩
  rw [hz1] at hP e1 lxy h1 h3
  rw [hz2] at hA e2 lay h1 p3
  rw [hz3] at hO e3 loy h2
  rw [hz4] at hN e4 lny h2 p4
  rw [hP] at h1 h3
  rw [hA] at h1 p3
  rw [hX] at h1 h2 h3 p1 e5
  rw [hY] at h1 h3 p2 e5
  rw [hO, hN] at h2
  rw [hN] at p4
  obtain ⟨pp, hpp⟩ : ∃ p, P % 2 = p := ⟨_, rfl⟩
  obtain ⟨px, hpx⟩ : ∃ p, X % 2 = p := ⟨_, rfl⟩
  obtain ⟨py, hpy⟩ : ∃ p, Y % 2 = p := ⟨_, rfl⟩
  rw [hpp, hpx, hpy] at h3
  rw [hpx, hpy] at e5
  have c1 : ((pp : Int) == ((px ^^^ py : Nat) : Int)) = true := by rw [h3]; exact beq_self_eq_true _
  have c2 : ((P : Int) == (X : Int) + Y - 2 * (A : Int)) = true := by rw [beq_iff_eq]; omega
  have c3 : ((O : Int) == (X : Int) + N) = true := by rw [beq_iff_eq]; omega
  have W1 := fun w => weight64 (z1 : Int) z1 rfl lxy w
  have W2 := fun w => weight64 (z2 : Int) z2 rfl lay w
  have W3 := fun w => weight64 (z3 : Int) z3 rfl loy w
  have W4 := fun w => weight64 (z4 : Int) z4 rfl lny w
  have WX := fun w => weight64 (x : Int) x rfl lx w
  have WY := fun w => weight64 (y : Int) y rfl ly w
  have P1 := fun w => parity64 (z1 : Int) z1 rfl lxy w
  have PX := fun w => parity64 (x : Int) x rfl lx w
  have PY := fun w => parity64 (y : Int) y rfl ly w
  rw [hP] at W1 P1
  rw [hpp] at P1
  rw [hA] at W2
  rw [hO] at W3
  rw [hN] at W4
  rw [hX] at WX PX
  rw [hY] at WY PY
  rw [hpx] at PX
  rw [hpy] at PY
  have HW1 := Lib.hid W1
  have HW2 := Lib.hid W2
  have HW3 := Lib.hid W3
  have HW4 := Lib.hid W4
  have HWX := Lib.hid WX
  have HWY := Lib.hid WY
  have HP1 := Lib.hid P1
  have HPX := Lib.hid PX
  have HPY := Lib.hid PY
  clear h1 h2 h3 W1 W2 W3 W4 WX WY P1 PX PY hP hA hX hY hO hN hz1 hz2 hz3 hz4 hpp hpx hpy
  go_enter Try.func4, Try.ntmps4
  go_wp2_with fail
  refine (anchor3_any w).mono ?_
  rintro e wA ⟨rfl, hBel⟩
  have HB := Lib.hid hBel
  clear hBel
  go_wp2_with fail
  refine (HP1.out _).mono ?_
  rintro e w2 ⟨rfl, rfl⟩
  go_wp2_with fail
  refine (HPX.out _).mono ?_
  rintro e w2 ⟨rfl, rfl⟩
  go_wp2_with fail
  refine (HPY.out _).mono ?_
  rintro e w2 ⟨rfl, rfl⟩
  go_wp2_with fail
  refine (HW1.out _).mono ?_
  rintro e w2 ⟨rfl, rfl⟩
  go_wp2_with fail
  refine (HWX.out _).mono ?_
  rintro e w2 ⟨rfl, rfl⟩
  go_wp2_with fail
  refine (HWY.out _).mono ?_
  rintro e w2 ⟨rfl, rfl⟩
  go_wp2_with fail
  refine (HW2.out _).mono ?_
  rintro e w2 ⟨rfl, rfl⟩
  go_wp2_with fail
  refine (HW3.out _).mono ?_
  rintro e w2 ⟨rfl, rfl⟩
  go_wp2_with fail
  refine (HWX.out _).mono ?_
  rintro e w2 ⟨rfl, rfl⟩
  go_wp2_with fail
  refine (HW4.out _).mono ?_
  rintro e w2 ⟨rfl, rfl⟩
  go_wp2
  go_ret
  exact ⟨rfl, HB.out⟩
end Go.Proofs.Ytbpfojdlmkbngaa
