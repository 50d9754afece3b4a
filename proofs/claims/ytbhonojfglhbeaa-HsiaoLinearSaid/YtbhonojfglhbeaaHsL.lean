/- The statements of layer 4: what their walks share. -/
import Derived.Test.YtbhonojfglhbeaaHsT
import Derived.OpenShut
namespace Go.Proofs.Ytbhonojfglhbeaa
open Go.RowKit

theorem lit_u64h {a : Int} (h : (Lit.int .u64 a).wf = true) : ∃ x : Nat, a = x ∧ x < 18446744073709551616 := by
  have h2 := bounds_u64 h
  obtain ⟨n, rfl⟩ := Int.eq_ofNat_of_zero_le (a := a) (by omega)
  exact ⟨n, rfl, by omega⟩
theorem lit_u8h {a : Int} (h : (Lit.int .u8 a).wf = true) : ∃ x : Nat, a = x ∧ x < 256 := by
  have h2 := bounds_u8 h
  obtain ⟨n, rfl⟩ := Int.eq_ofNat_of_zero_le (a := a) (by omega)
  exact ⟨n, rfl, by omega⟩
theorem lit_i64h {a : Int} (h : (Lit.int .i64 a).wf = true) : -9223372036854775808 ≤ a ∧ a ≤ 9223372036854775807 := bounds_i64 h
theorem HS.new {w w1 : World} (hc : CodeAt w1 w.heap.size) (hb : Below w.heap.size w w1) : HS w w.heap.size w1 := ⟨hb, hc⟩
end Go.Proofs.Ytbhonojfglhbeaa
