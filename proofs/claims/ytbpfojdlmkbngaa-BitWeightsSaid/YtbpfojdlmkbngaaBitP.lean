/- Parities: walks. -/
import Derived.Test.YtbpfojdlmkbngaaBitW
namespace Go.Proofs.Ytbpfojdlmkbngaa
open Go.RowKit

theorem i64_and1 (n : Nat) (h : n < 9223372036854775808) : bits .and .i64 (n : Int) 1 = ((n % 2 : Nat) : Int) := by
  have hx : n &&& 1 < 2 ^ 63 := Nat.and_lt_two_pow _ (by omega)
  have h2 : ∀ c : Nat, c < 9223372036854775808 → (BitVec.ofInt 64 (c : Int)).toNat = c := by
    intro c hc
    rw [BitVec.ofInt_natCast, BitVec.toNat_ofNat]; exact Nat.mod_eq_of_lt (by omega)
  show IntKind.i64.wrap ((BitVec.ofInt 64 (n : Int) &&& BitVec.ofInt 64 ((1 : Nat) : Int)).toNat : Int) = _
  rw [BitVec.toNat_and, h2 n h, h2 1 (by omega), IntKind.wrap_i64, Nat.and_one_is_mod]
  omega
theorem parity64 (a : Int) (x : Nat) (hx : a = x) (lx : x < 18446744073709551616) (w : World) :
    Calls Try.prog 13 #[.int .u64 a] w fun e w' => e = .returned (.int .i64 (pc x % 2 : Nat)) ∧ w = w' := by
  subst hx
  have h1 := i64_and1 (pc x) (by have := pc_le x; omega)
  go_enter Try.func13, Try.ntmps13
  go_wp2_with fail
  refine (weight64 _ x rfl lx _).mono ?_
  rintro e w2 ⟨rfl, rfl⟩
  go_wp2
  go_ret
  exact ⟨rfl, rfl⟩

theorem parity8 (a : Int) (x : Nat) (hx : a = x) (lx : x < 256) (w : World) :
    Calls Try.prog 18 #[.int .u8 a] w fun e w' => e = .returned (.int .i64 (pc x % 2 : Nat)) ∧ w = w' := by
  subst hx
  have h1 := i64_and1 (pc x) (by have := pc_le x; omega)
  go_enter Try.func18, Try.ntmps18
  go_wp2_with fail
  refine (weight8 _ x rfl lx _).mono ?_
  rintro e w2 ⟨rfl, rfl⟩
  go_wp2
  go_ret
  exact ⟨rfl, rfl⟩
end Go.Proofs.Ytbpfojdlmkbngaa
