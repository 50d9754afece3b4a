/- Bytes, numbers, rows that are filled: plain laws for the codec. No program in sight. -/
import Derived.Test.YtkeheickaogpiaaReY
import Derived.Test.YtkeheickaogpiaaRwB
namespace Go.Proofs.Ytkeheickaogpiaa
open Go Go.RowKit Go.Shelf
/-- The number of k bytes of a row, from off on, the lowest first. -/
def numO (xs : List UInt8) (off : Nat) : Nat → Nat
  | 0 => 0
  | k + 1 => numO xs off k ||| (xs.getD (off + k) 0).toNat * 2 ^ (8 * k)
theorem byte_sh {b : UInt8} {k : Nat} (hk : k < 8) : b.toNat * 2 ^ (8 * k) < 18446744073709551616 := by
  have h1 := b.toNat_lt
  have h2 : 2 ^ (8 * k) ≤ 2 ^ 56 := Nat.pow_le_pow_right (by decide) (by omega)
  calc b.toNat * 2 ^ (8 * k) ≤ 255 * 2 ^ 56 := Nat.mul_le_mul (by omega) h2
    _ < 18446744073709551616 := by decide
theorem numO_lt (xs : List UInt8) (off k : Nat) : numO xs off k < 2 ^ (8 * k) := by
  induction k with
  | zero => simp [numO]
  | succ k ih =>
    have h1 := (xs.getD (off + k) 0).toNat_lt
    unfold numO
    refine Nat.or_lt_two_pow (Nat.lt_of_lt_of_le ih (Nat.pow_le_pow_right (by decide) (by omega))) ?_
    rw [show 8 * (k + 1) = 8 + 8 * k by omega, Nat.pow_add]
    exact Nat.mul_lt_mul_of_pos_right (by omega) (Nat.pow_pos (by decide))
theorem numO_add (xs : List UInt8) (off k : Nat) : numO xs off (k + 1) = numO xs off k + 256 ^ k * (xs.getD (off + k) 0).toNat := by
  rw [show numO xs off (k + 1) = numO xs off k ||| (xs.getD (off + k) 0).toNat * 2 ^ (8 * k) from rfl]
  have h := Nat.two_pow_add_eq_or_of_lt (numO_lt xs off k) (xs.getD (off + k) 0).toNat
  rw [Nat.mul_comm, Nat.or_comm, ← h, Nat.add_comm, show (256 : Nat) = 2 ^ 8 from rfl, ← Nat.pow_mul]
theorem numO_lt64 (xs : List UInt8) (off : Nat) {k : Nat} (hk : k ≤ 8) : numO xs off k < 18446744073709551616 := by
  have h1 := numO_lt xs off k
  have h2 : 2 ^ (8 * k) ≤ 2 ^ 64 := Nat.pow_le_pow_right (by decide) (by omega)
  have : (2 : Nat) ^ 64 = 18446744073709551616 := by decide
  omega
/-- A row of N bytes whose first n are told. -/
def fillL (N : Nat) (f : Nat → UInt8) (n : Nat) : List UInt8 := (List.range N).map fun i => if i < n then f i else 0
theorem fillL_len (N : Nat) (f : Nat → UInt8) (n : Nat) : (fillL N f n).length = N := by unfold fillL; rw [List.length_map, List.length_range]
theorem fillL_get {N : Nat} {f : Nat → UInt8} {n i : Nat} (h : i < N) : (fillL N f n).getD i 0 = if i < n then f i else 0 := by
  unfold fillL
  rw [List.getD_eq_getElem?_getD, List.getElem?_map, List.getElem?_range h]
  rfl
theorem fillL_set {N : Nat} {f : Nat → UInt8} {n : Nat} (h : n < N) : (fillL N f n).set n (f n) = fillL N f (n + 1) := by
  apply List.ext_getElem?
  intro i
  rw [List.getElem?_set]
  rcases Nat.lt_or_ge i N with hi | hi
  · unfold fillL
    simp only [List.length_map, List.length_range, List.getElem?_map, List.getElem?_range hi, Option.map_some]
    by_cases e : n = i
    · subst e; rw [if_pos rfl, if_pos h, if_pos (by omega)]
    · rw [if_neg e]
      by_cases e2 : i < n
      · rw [if_pos e2, if_pos (by omega)]
      · rw [if_neg e2, if_neg (by omega)]
  · rw [List.getElem?_eq_none (l := fillL N f (n + 1)) (by rw [fillL_len]; exact hi), List.getElem?_eq_none (l := fillL N f n) (by rw [fillL_len]; exact hi), fillL_len]
    rw [if_neg (by omega)]
theorem fillL_zero (N : Nat) (f : Nat → UInt8) : fillL N f 0 = List.replicate N 0 := by
  apply List.ext_getElem?
  intro i
  rcases Nat.lt_or_ge i N with hi | hi
  · unfold fillL
    simp [hi]
  · rw [List.getElem?_eq_none (by rw [fillL_len]; exact hi), List.getElem?_eq_none (by simpa using hi)]
theorem fillL_congr {N : Nat} {f g : Nat → UInt8} {n : Nat} (h : ∀ i, i < n → i < N → f i = g i) : fillL N f n = fillL N g n := by
  unfold fillL
  refine List.map_congr_left fun i hi => ?_
  split
  · rename_i hn; exact h i hn (List.mem_range.1 hi)
  · rfl
end Go.Proofs.Ytkeheickaogpiaa
