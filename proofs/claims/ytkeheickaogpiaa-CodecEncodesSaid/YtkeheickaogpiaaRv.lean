/- Laws of operations: quotients and remainders, numbers' low bits. No program in sight. -/
import Derived.Test.YtkeheickaogpiaaRz
import Derived.Test.YtkeheickaogpiaaReY
import Derived.IntWalk
namespace Go.Proofs.Ytkeheickaogpiaa
open Go Go.RowKit Go.Shelf
section
variable {P : Program} {T : TypeId} {x y : Operand} {w : World}
theorem intDiv_quo {k : IntKind} {a d : Nat} (hd : 0 < d) (hw : k.wrap ((a / d : Nat) : Int) = ((a / d : Nat) : Int)) : Op.intDiv .quo k (a : Int) (d : Int) = pure (.int k ((a / d : Nat) : Int)) := by
  unfold Op.intDiv
  rw [if_neg (by omega), ← hw, Int.ofNat_tdiv]
theorem intDiv_rem {k : IntKind} {a d : Nat} (hd : 0 < d) : Op.intDiv .rem k (a : Int) (d : Int) = pure (.int k ((a % d : Nat) : Int)) := by
  unfold Op.intDiv
  rw [if_neg (by omega), Int.ofNat_tmod]
theorem bin_quo_u64 {a d : Nat} (hd : 0 < d) (ha : a < 18446744073709551616) : (sBin .quo T x y (.int .u64 (a : Int)) (.int .u64 (d : Int))).run P w = .ok (.int .u64 ((a / d : Nat) : Int)) w := by
  have h : a / d ≤ a := Nat.div_le_self a d
  have e := congrArg (fun (s : Sem Value) => s.run P w) (intDiv_quo (k := .u64) (a := a) hd (by generalize a / d = q at h ⊢; rw [IntKind.wrap_u64]; omega))
  exact e
theorem bin_rem_u64 {a d : Nat} (hd : 0 < d) : (sBin .rem T x y (.int .u64 (a : Int)) (.int .u64 (d : Int))).run P w = .ok (.int .u64 ((a % d : Nat) : Int)) w :=
  congrArg (fun (s : Sem Value) => s.run P w) (intDiv_rem (k := .u64) (a := a) hd)
theorem bin_rem_i64 {a d : Nat} (hd : 0 < d) : (sBin .rem T x y (.int .i64 (a : Int)) (.int .i64 (d : Int))).run P w = .ok (.int .i64 ((a % d : Nat) : Int)) w :=
  congrArg (fun (s : Sem Value) => s.run P w) (intDiv_rem (k := .i64) (a := a) hd)
theorem bin_add_u64 {a b : Nat} (h : a + b < 18446744073709551616) : (sBin .add T x y (.int .u64 (a : Int)) (.int .u64 (b : Int))).run P w = .ok (.int .u64 ((a + b : Nat) : Int)) w := by
  have h1 : IntKind.u64.wrap ((a : Int) + b) = ((a + b : Nat) : Int) := by rw [IntKind.wrap_u64]; omega
  rw [← h1]; rfl
theorem bin_mul_u64 {a b : Nat} (h : a * b < 18446744073709551616) : (sBin .mul T x y (.int .u64 (a : Int)) (.int .u64 (b : Int))).run P w = .ok (.int .u64 ((a * b : Nat) : Int)) w := by
  have h1 : IntKind.u64.wrap ((a : Int) * b) = ((a * b : Nat) : Int) := by rw [← Int.natCast_mul, IntKind.wrap_u64]; omega
  rw [← h1]; rfl
/-- An int as a uint64. -/
def u64N (x : Int) : Nat := (x % 18446744073709551616).toNat
theorem u64N_lt (x : Int) : u64N x < 18446744073709551616 := by unfold u64N; omega
theorem cvt_i64w {S : TypeId} {a : Int} (hS : P.underlying S = some (.int .i64)) (hT : P.underlying T = some (.int .u64)) : (convert S T (.int .i64 a)).run P w = .ok (.int .u64 ((u64N a : Nat) : Int)) w := by
  have h : IntKind.u64.wrap a = ((u64N a : Nat) : Int) := by rw [IntKind.wrap_u64]; unfold u64N; omega
  simp only [convert, Sem.run_bind, run_underlying hS, run_underlying hT, Result.andThen_ok, Conv.intToInt, h, Sem.run_pure]
theorem cvt_u64i {S : TypeId} {a : Nat} (hS : P.underlying S = some (.int .u64)) (hT : P.underlying T = some (.int .i64)) (ha : a < 9223372036854775808) : (convert S T (.int .u64 (a : Int))).run P w = .ok (.int .i64 (a : Int)) w := by
  have h : IntKind.i64.wrap (a : Int) = (a : Int) := by rw [IntKind.wrap_i64]; omega
  simp only [convert, Sem.run_bind, run_underlying hS, run_underlying hT, Result.andThen_ok, Conv.intToInt, h, Sem.run_pure]
end
end Go.Proofs.Ytkeheickaogpiaa
