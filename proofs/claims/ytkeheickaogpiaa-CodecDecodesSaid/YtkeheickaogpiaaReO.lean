/- Laws of operations: shifts, bytes, words. No program in sight. -/
import Derived.Test.YtkeheickaogpiaaReC
import Derived.Test.YtkeheickaogpiaaRsQ
import Derived.IntWalk
namespace Go.Proofs.Ytkeheickaogpiaa
open Go Go.RowKit Go.Shelf
section
variable {P : Program} {T : TypeId} {x y : Operand} {w : World}
theorem bin_shr_i64 {yk : IntKind} {a : Int} (n : Nat) (hn : n ≤ 64) : (sBin .shr T x y (.int .i64 a) (.int yk (n : Int))).run P w = .ok (.int .i64 (a / 2 ^ n)) w := by
  unfold sBin
  simp only [Sem.run_bind, eqGuard_shr, Sem.run_pure, Result.andThen_ok, binOp_shr, shift_shr_i64 _ _ _ (Int.natCast_nonneg n) (by omega), Int.toNat_natCast]
theorem bin_shr_u64 {yk : IntKind} {a : Nat} (n : Nat) (hn : n ≤ 64) : (sBin .shr T x y (.int .u64 (a : Int)) (.int yk (n : Int))).run P w = .ok (.int .u64 ((a / 2 ^ n : Nat) : Int)) w := by
  unfold sBin
  simp only [Sem.run_bind, eqGuard_shr, Sem.run_pure, Result.andThen_ok, binOp_shr, shift_shr_u64 _ _ _ (Int.natCast_nonneg n) (by omega), Int.toNat_natCast]
  push_cast
  rfl
theorem bin_shl_u64 {yk : IntKind} {a : Nat} (n : Nat) (hn : n ≤ 64) (ha : a * 2 ^ n < 18446744073709551616) : (sBin .shl T x y (.int .u64 (a : Int)) (.int yk (n : Int))).run P w = .ok (.int .u64 ((a * 2 ^ n : Nat) : Int)) w := by
  unfold sBin
  have h1 : IntKind.u64.wrap ((a : Int) * 2 ^ n) = ((a * 2 ^ n : Nat) : Int) := by
    rw [show ((a : Int) * 2 ^ n) = ((a * 2 ^ n : Nat) : Int) by push_cast; rfl, IntKind.wrap_u64]
    omega
  simp only [Sem.run_bind, eqGuard_shl, Sem.run_pure, Result.andThen_ok, binOp_shl, shift_shl_u64 _ _ _ (Int.natCast_nonneg n) (by omega), Int.toNat_natCast, h1]
theorem u64_orN (a b : Nat) (ha : a < 18446744073709551616) (hb : b < 18446744073709551616) : bits .or .u64 (a : Int) (b : Int) = ((a ||| b : Nat) : Int) := by
  have h8 : ∀ c : Nat, c < 18446744073709551616 → (BitVec.ofInt 64 (c : Int)).toNat = c := by
    intro c hc
    rw [BitVec.ofInt_natCast, BitVec.toNat_ofNat]; exact Nat.mod_eq_of_lt (by omega)
  have hx : a ||| b < 2 ^ 64 := Nat.or_lt_two_pow ha hb
  show IntKind.u64.wrap ((BitVec.ofInt 64 (a : Int) ||| BitVec.ofInt 64 (b : Int)).toNat : Int) = _
  rw [BitVec.toNat_or, h8 a ha, h8 b hb, IntKind.wrap_u64]
  omega
theorem u64_xorN (a b : Nat) (ha : a < 18446744073709551616) (hb : b < 18446744073709551616) : bits .xor .u64 (a : Int) (b : Int) = ((a ^^^ b : Nat) : Int) := by
  have h8 : ∀ c : Nat, c < 18446744073709551616 → (BitVec.ofInt 64 (c : Int)).toNat = c := by
    intro c hc
    rw [BitVec.ofInt_natCast, BitVec.toNat_ofNat]; exact Nat.mod_eq_of_lt (by omega)
  have hx : a ^^^ b < 2 ^ 64 := Nat.xor_lt_two_pow ha hb
  show IntKind.u64.wrap ((BitVec.ofInt 64 (a : Int) ^^^ BitVec.ofInt 64 (b : Int)).toNat : Int) = _
  rw [BitVec.toNat_xor, h8 a ha, h8 b hb, IntKind.wrap_u64]
  omega
theorem u8_andB (a b : UInt8) : bits .and .u8 (a.toNat : Int) (b.toNat : Int) = ((a &&& b).toNat : Int) := by
  have h8 : ∀ c : Nat, c < 256 → (BitVec.ofInt 8 (c : Int)).toNat = c := by
    intro c hc
    rw [BitVec.ofInt_natCast, BitVec.toNat_ofNat]; exact Nat.mod_eq_of_lt (by omega)
  show IntKind.u8.wrap ((BitVec.ofInt 8 (a.toNat : Int) &&& BitVec.ofInt 8 (b.toNat : Int)).toNat : Int) = _
  rw [BitVec.toNat_and, h8 _ a.toNat_lt, h8 _ b.toNat_lt, ← UInt8.toNat_and]
  exact IntWalk.u8_in _ (by have := (a &&& b).toNat_lt; omega)
theorem u8_orB (a b : UInt8) : bits .or .u8 (a.toNat : Int) (b.toNat : Int) = ((a ||| b).toNat : Int) := by
  have h8 : ∀ c : Nat, c < 256 → (BitVec.ofInt 8 (c : Int)).toNat = c := by
    intro c hc
    rw [BitVec.ofInt_natCast, BitVec.toNat_ofNat]; exact Nat.mod_eq_of_lt (by omega)
  show IntKind.u8.wrap ((BitVec.ofInt 8 (a.toNat : Int) ||| BitVec.ofInt 8 (b.toNat : Int)).toNat : Int) = _
  rw [BitVec.toNat_or, h8 _ a.toNat_lt, h8 _ b.toNat_lt, ← UInt8.toNat_or]
  exact IntWalk.u8_in _ (by have := (a ||| b).toNat_lt; omega)
theorem bin_or_u64 {a b : Nat} (ha : a < 18446744073709551616) (hb : b < 18446744073709551616) : (sBin .or T x y (.int .u64 (a : Int)) (.int .u64 (b : Int))).run P w = .ok (.int .u64 ((a ||| b : Nat) : Int)) w := by
  rw [← u64_orN a b ha hb]; rfl
theorem bin_xor_u64 {a b : Nat} (ha : a < 18446744073709551616) (hb : b < 18446744073709551616) : (sBin .xor T x y (.int .u64 (a : Int)) (.int .u64 (b : Int))).run P w = .ok (.int .u64 ((a ^^^ b : Nat) : Int)) w := by
  rw [← u64_xorN a b ha hb]; rfl
theorem bin_and_u8 (a b : UInt8) : (sBin .and T x y (.int .u8 (a.toNat : Int)) (.int .u8 (b.toNat : Int))).run P w = .ok (.int .u8 ((a &&& b).toNat : Int)) w := by
  rw [← u8_andB a b]; rfl
theorem bin_or_u8 (a b : UInt8) : (sBin .or T x y (.int .u8 (a.toNat : Int)) (.int .u8 (b.toNat : Int))).run P w = .ok (.int .u8 ((a ||| b).toNat : Int)) w := by
  rw [← u8_orB a b]; rfl
/-- Numbers as other numbers. -/
theorem cvt_u8u64 {S T : TypeId} (hS : P.underlying S = some (.int .u8)) (hT : P.underlying T = some (.int .u64)) {c : UInt8} : (convert S T (.int .u8 (c.toNat : Int))).run P w = .ok (.int .u64 (c.toNat : Int)) w := by
  have h : IntKind.u64.wrap (c.toNat : Int) = (c.toNat : Int) := by rw [IntKind.wrap_u64]; have := c.toNat_lt; omega
  simp only [convert, Sem.run_bind, run_underlying hS, run_underlying hT, Result.andThen_ok, Conv.intToInt, h, Sem.run_pure]
theorem cvt_u64u8 {S T : TypeId} (hS : P.underlying S = some (.int .u64)) (hT : P.underlying T = some (.int .u8)) {c : Nat} : (convert S T (.int .u64 (c : Int))).run P w = .ok (.int .u8 ((UInt8.ofNat c).toNat : Int)) w := by
  have h : IntKind.u8.wrap (c : Int) = ((UInt8.ofNat c).toNat : Int) := by rw [IntKind.wrap_u8, UInt8.toNat_ofNat']; omega
  simp only [convert, Sem.run_bind, run_underlying hS, run_underlying hT, Result.andThen_ok, Conv.intToInt, h, Sem.run_pure]
theorem cvt_i64u {S T : TypeId} (hS : P.underlying S = some (.int .i64)) (hT : P.underlying T = some (.int .u64)) {c : Nat} (hc : c < 18446744073709551616) : (convert S T (.int .i64 (c : Int))).run P w = .ok (.int .u64 (c : Int)) w := by
  have h : IntKind.u64.wrap (c : Int) = (c : Int) := by rw [IntKind.wrap_u64]; omega
  simp only [convert, Sem.run_bind, run_underlying hS, run_underlying hT, Result.andThen_ok, Conv.intToInt, h, Sem.run_pure]
end
end Go.Proofs.Ytkeheickaogpiaa
