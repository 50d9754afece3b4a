/- Bytes turned: plain facts. -/
import Derived.Test.YtckhkagkpldoiaaBitG
namespace Go.Proofs.Ytckhkagkpldoiaa
open Go.RowKit

/-- A list of bytes with bit i turned; beyond it: as it was. -/
def flipI (xs : List UInt8) (i : Int) : List UInt8 := if 0 ≤ i ∧ i.toNat / 8 < xs.length then xs.set (i.toNat / 8) (xs.getD (i.toNat / 8) 0 ^^^ UInt8.ofNat (2 ^ (i.toNat % 8))) else xs
theorem flipI_length (xs : List UInt8) (i : Int) : (flipI xs i).length = xs.length := by unfold flipI; split <;> simp
theorem flipI_out {xs : List UInt8} {i : Int} (h : ¬ (0 ≤ i ∧ i.toNat / 8 < xs.length)) : flipI xs i = xs := if_neg h
theorem flipI_in {xs : List UInt8} {p : Nat} (h : p / 8 < xs.length) : flipI xs (p : Int) = xs.set (p / 8) (xs.getD (p / 8) 0 ^^^ UInt8.ofNat (2 ^ (p % 8))) := by
  unfold flipI; rw [if_pos ⟨by omega, h⟩]; rfl

theorem set_cells {cs : Array Value} {xs : List UInt8} (h : ∀ k, k < xs.length → cs[k]? = some (.int .u8 ((xs.getD k 0).toNat : Int))) (q : Nat) (v : UInt8) :
    ∀ k, k < (xs.set q v).length → (cs.setIfInBounds q (.int .u8 (v.toNat : Int)))[k]? = some (.int .u8 (((xs.set q v).getD k 0).toNat : Int)) := by
  intro k hk
  rw [List.length_set] at hk
  have h2 := h k hk
  have hsz : k < cs.size := (Array.getElem?_eq_some_iff.1 h2).1
  rw [Array.getElem?_setIfInBounds, List.getD_eq_getElem?_getD, List.getElem?_set]
  by_cases hkq : q = k
  · rw [if_pos hkq, if_pos hkq, if_pos (by omega), if_pos (by omega)]; rfl
  · rw [if_neg hkq, if_neg hkq, h2, List.getD_eq_getElem?_getD]
theorem u8_xorF (a b : UInt8) : bits .xor .u8 (a.toNat : Int) (b.toNat : Int) = ((a ^^^ b).toNat : Int) := by
  have ha := a.toNat_lt
  have hb := b.toNat_lt
  have h8 : ∀ c : Nat, c < 256 → (BitVec.ofInt 8 (c : Int)).toNat = c := by
    intro c hc
    rw [BitVec.ofInt_natCast, BitVec.toNat_ofNat]; exact Nat.mod_eq_of_lt (by omega)
  have hx : a.toNat ^^^ b.toNat < 2 ^ 8 := Nat.xor_lt_two_pow ha hb
  show IntKind.u8.wrap ((BitVec.ofInt 8 (a.toNat : Int) ^^^ BitVec.ofInt 8 (b.toNat : Int)).toNat : Int) = _
  rw [BitVec.toNat_xor, h8 _ ha, h8 _ hb, UInt8.toNat_xor]
  exact IntWalk.u8_in _ (by omega)
end Go.Proofs.Ytckhkagkpldoiaa
