/- The statements of layer 4: what their walks share. -/
import Derived.Test.YtbhonojfglhbeaaHsT
import Derived.OpenShut
namespace Go.Proofs.Ytbhonojfglhbeaa
open Go.RowKit

theorem lit_u64h {a : Int} (h : (Lit.int .u64 a).wf = true) : ∃ x : Nat, a = x ∧ x < 18446744073709551616 := by
  have h2 := bounds_u64 h
  obtain ⟨n, rfl⟩ := Int.eq_ofNat_of_zero_le (a := a) (by omega)
  exact ⟨n, rfl, by omega⟩
theorem lit_u8h {a : Int} (h : (Lit.int .u8 a).wf = true) : ∃ x : Nat, a = x ∧ x < 256 := by
  have h2 := bounds_u8 h
  obtain ⟨n, rfl⟩ := Int.eq_ofNat_of_zero_le (a := a) (by omega)
  exact ⟨n, rfl, by omega⟩
theorem lit_i64h {a : Int} (h : (Lit.int .i64 a).wf = true) : -9223372036854775808 ≤ a ∧ a ≤ 9223372036854775807 := bounds_i64 h
theorem HS.new {w w1 : World} (hc : CodeAt w1 w.heap.size) (hb : Below w.heap.size w w1) : HS w w.heap.size w1 := ⟨hb, hc⟩
theorem low_nat {x : Nat} (h : x < 2) : low (x : Int) = x := by unfold low; omega
theorem low_flip {x : Nat} (h : x < 2) : low (1 - (x : Int)) = 1 - x := by unfold low; omega
theorem mark_flip {x : Nat} (h : x < 2) : mark (1 - x) 72 ^^^ mark x 72 = col 72 := by
  have : x = 0 ∨ x = 1 := by omega
  rcases this with rfl | rfl
  · exact Nat.xor_zero _
  · exact Nat.zero_xor _
/-- Read without the poison's bit that was laid. -/
theorem marks_poison (d : Nat) (x : Nat) : chk d x 0 ^^^ chk d x 1 = col 73 := by
  rw [← chk_xor, Nat.xor_self, Nat.xor_self]
  unfold chk
  rw [show cs 0 = 0 from csTo_zero 64 0]
  exact Nat.zero_xor _
theorem marks_astray (d : Nat) {x : Nat} (h : x < 2) : chk d (1 - x) 0 ^^^ chk d x 0 = col 72 := by
  rw [← chk_xor, Nat.xor_self, Nat.xor_self]
  unfold chk
  rw [show cs 0 = 0 from csTo_zero 64 0, mark_xor, mark_flip h]
  exact (Nat.xor_zero _).trans (Nat.zero_xor _)
theorem turn_chk (d k i x : Nat) (hi : i < 72) : chk (tD d i) x 0 ^^^ tK k i = (chk d x 0 ^^^ k) ^^^ col i := by
  have hx : ∀ y, mark y 72 = mark (low (y : Int)) 72 := fun y => by unfold mark low; rw [show ((y : Int) % 2).toNat % 2 = y % 2 by omega]
  have h := syn_turn d k (x : Int) 0 i (by omega)
  have e3 : tA (x : Int) i = x := if_neg (by omega)
  have e4 : tP 0 i = 0 := if_neg (by omega)
  rw [e3, e4, show low 0 = 0 from rfl] at h
  unfold chk at h ⊢
  rw [← hx] at h
  exact h
theorem two_even0 : ∀ i, i < 74 → ∀ j, j < 74 → i ≠ j → hcolL.getD i 0 ^^^ hcolL.getD j 0 ≠ 0 := by decide +kernel
theorem two_lost {i j : Nat} (hi : i < 74) (hj : j < 74) (h : i ≠ j) : verdict (col i ^^^ col j) = (4, -1) := by
  have h0 : col i ^^^ col j ≠ 0 := by
    unfold col; rw [hcols_eq]; exact two_even0 i hi j hj h
  have hlt : col i ^^^ col j < 256 := Nat.xor_lt_two_pow (n := 8) (col_lt i) (col_lt j)
  have hpc := pc_xor (col i) (col j)
  have h1 := col_odd hi
  have h2 := col_odd hj
  have he := at_even hlt (by omega)
  unfold verdict
  rw [if_neg h0, if_pos he]
theorem verdict_72 : verdict (col 72) = (3, -1) := by
  unfold verdict
  rw [if_neg (by have := col_pos (i := 72) (by omega); omega), at_col (by omega)]
  rfl
theorem verdict_73 : verdict (col 73) = (2, -1) := by
  unfold verdict
  rw [if_neg (by have := col_pos (i := 73) (by omega); omega), at_col (by omega)]
  rfl
end Go.Proofs.Ytbhonojfglhbeaa
