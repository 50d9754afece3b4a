/- The places of unlike bits, as a list. No program in sight. -/
import Derived.Test.YtjbpegmdbgkdlaaBitDp
namespace Go.Proofs.Ytjbpegmdbgkdlaa
open Go.RowKit

def plTo (xs ys : List UInt8) : Nat → List Nat
  | 0 => []
  | k + 1 => plTo xs ys k ++ (ones (xs.getD k 0 ^^^ ys.getD k 0).toNat).map fun t => 8 * k + t
theorem ones_len (z : Nat) : (ones z).length = pc z := by unfold ones pc; exact onesTo_length 64 0 z
theorem plTo_length (xs ys : List UInt8) (k : Nat) : (plTo xs ys k).length = dfB xs ys k := by
  induction k with
  | zero => rfl
  | succ k ih => rw [plTo, List.length_append, List.length_map, ih, dfB, ones_len]
theorem xor_bit (x y p : Nat) (h : (x ^^^ y) / 2 ^ p % 2 = 1) : x / 2 ^ p % 2 ≠ y / 2 ^ p % 2 := by
  have h1 : (x ^^^ y).testBit p = true := by rw [Nat.testBit_eq_decide_div_mod_eq, h]; rfl
  rw [Nat.testBit_xor, Nat.testBit_eq_decide_div_mod_eq, Nat.testBit_eq_decide_div_mod_eq] at h1
  intro he
  rw [he] at h1
  simp at h1
theorem ones8_mem {z p : Nat} (hz : z < 256) (h : p ∈ ones z) : p < 8 ∧ z / 2 ^ p % 2 = 1 := by
  obtain ⟨_, _, h3⟩ := onesTo_mem 64 0 z p h
  rw [Nat.sub_zero] at h3
  refine ⟨?_, h3⟩
  rcases Nat.lt_or_ge p 8 with h8 | h8
  · exact h8
  · have : 2 ^ 8 ≤ 2 ^ p := Nat.pow_le_pow_right (by omega) h8
    rw [Nat.div_eq_of_lt (by omega)] at h3
    omega
theorem plTo_mem (xs ys : List UInt8) (k : Nat) : ∀ p, p ∈ plTo xs ys k → p < 8 * k ∧ bitI xs (p : Int) ≠ bitI ys (p : Int) := by
  induction k with
  | zero => intro p hp; cases hp
  | succ k ih =>
    intro p hp
    rw [plTo, List.mem_append] at hp
    rcases hp with hp | hp
    · have := ih p hp; exact ⟨by omega, this.2⟩
    · obtain ⟨t, ht, rfl⟩ := List.mem_map.1 hp
      obtain ⟨h1, h2⟩ := ones8_mem (UInt8.toNat_lt _) ht
      rw [UInt8.toNat_xor] at h2
      exact ⟨by omega, by rw [bitI_at xs k t h1, bitI_at ys k t h1]; exact xor_bit _ _ _ h2⟩
theorem plTo_rise (xs ys : List UInt8) (k : Nat) : (plTo xs ys k).Pairwise (· < ·) := by
  induction k with
  | zero => exact List.Pairwise.nil
  | succ k ih =>
    rw [plTo, List.pairwise_append]
    refine ⟨ih, ?_, ?_⟩
    · rw [List.pairwise_map]
      exact (onesTo_rise 64 0 _).imp (fun h => by omega)
    · intro a ha b hb
      obtain ⟨t, _, rfl⟩ := List.mem_map.1 hb
      have := (plTo_mem xs ys k a ha).1
      omega
theorem plTo_pre (xs ys : List UInt8) (q d : Nat) : ∃ r, plTo xs ys (q + d) = plTo xs ys q ++ r := by
  induction d with
  | zero => exact ⟨[], by rw [List.append_nil]; rfl⟩
  | succ d ih =>
    obtain ⟨r, hr⟩ := ih
    exact ⟨r ++ _, by rw [← Nat.add_assoc, plTo, hr, List.append_assoc]⟩
theorem plTo_get (xs ys : List UInt8) {q N t p : Nat} (hq : q < N) (h : (ones (xs.getD q 0 ^^^ ys.getD q 0).toNat)[t]? = some p) : (plTo xs ys N)[dfB xs ys q + t]? = some (8 * q + p) := by
  obtain ⟨r, hr⟩ := plTo_pre xs ys (q + 1) (N - (q + 1))
  rw [show q + 1 + (N - (q + 1)) = N from by omega, plTo, List.append_assoc] at hr
  have ht := (List.getElem?_eq_some_iff.1 h).1
  rw [hr, ← plTo_length, List.getElem?_append_right (by omega), Nat.add_sub_cancel_left, List.getElem?_append_left (by rw [List.length_map]; exact ht), List.getElem?_map, h]
  rfl
end Go.Proofs.Ytjbpegmdbgkdlaa
