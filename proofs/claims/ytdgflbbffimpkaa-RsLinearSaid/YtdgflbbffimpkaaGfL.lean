/- The anchor of the statements of layer 1. -/
import Derived.Test.YtdgflbbffimpkaaGfN
import Derived.OpenShut
namespace Go.Proofs.Ytdgflbbffimpkaa
open Go.RowKit

theorem lit_u8 {a : Int} (h : (Lit.int .u8 a).wf = true) : ∃ x : Nat, a = x ∧ x < 256 := by
  have h2 := bounds_u8 h
  obtain ⟨n, rfl⟩ := Int.eq_ofNat_of_zero_le (a := a) (by omega)
  exact ⟨n, rfl, by omega⟩

end Go.Proofs.Ytdgflbbffimpkaa
