/- Slices of byte slices: 'x[:n]', 'x[k:]', 'x[k:n]'. -/
import Derived.Test.YtdgflbbffimpkaaMemP
namespace Go.Proofs.Ytdgflbbffimpkaa
open Go.RowKit

theorem addr_add0 (A : Option Addr) (s : Nat) : A.map (·.add (0 * s)) = A := by
  cases A with
  | none => rfl
  | some a =>
    obtain ⟨b, o, spot⟩ := a
    rw [Nat.zero_mul]
    simp [Addr.add]
theorem slice_low (A : Option Addr) (n c N : Nat) (h : N ≤ c) (w : World) :
    (Instr.slice 52 (.slice A n c) none (some (.int .i64 (N : Int))) none).run Try.prog w = .ok (.slice A N c) w := by
  rw [run_slice_h (P := Try.prog) (w := w) (t := 52) (a := A) (len := n) (cap := c) (by kernel_rfl) (kh := .i64) (h := (N : Int)) (by omega) (by omega)]
  simp only [sliced, Int.toNat_natCast, Nat.sub_zero, addr_add0, ite_self]
  kernel_rfl
theorem sliceAt_low (A : Option Addr) (n c N : Nat) (h : N ≤ c) (w : World) :
    (Instr.sliceAt 52 (.slice A n c) none (some (.int .i64 (N : Int))) none).run Try.prog w = .ok (.slice A N c) w :=
  (run_sliceAt_slice (P := Try.prog) (w := w) (t := 52) _ _ _ _ (by kernel_rfl)).trans (slice_low A n c N h w)
end Go.Proofs.Ytdgflbbffimpkaa
