/- Raw bytes put together out of their words; how often each byte was met: plain mathematics. -/
import Derived.Test.YtckhkagkpldoiaaRawD
namespace Go.Proofs.Ytckhkagkpldoiaa
open Go.RowKit

def wholeP (mode : Int) (xs : List UInt8) (k : Nat) : List UInt8 := xs.take (chN mode * k) ++ zero72.drop (chN mode * k)
theorem wholeP_zero (mode : Int) (xs : List UInt8) : wholeP mode xs 0 = zero72 := by unfold wholeP; simp
theorem wholeP_len {mode : Int} {xs : List UInt8} (h : xs.length = 72) {k : Nat} (_hk : k ≤ wdN mode) : (wholeP mode xs k).length = 72 := by
  unfold wholeP
  rw [List.length_append, List.length_take, List.length_drop, h, show zero72.length = 72 from rfl]
  omega
theorem wholeP_succ {mode : Int} {xs : List UInt8} (h : xs.length = 72) {k : Nat} (hk : k < wdN mode) : putB mode (wholeP mode xs k) (k : Int) (wordB mode xs (k : Int)) = wholeP mode xs (k + 1) := by
  obtain ⟨_, hf, _⟩ := mode_fit hk
  have hw : wordB mode xs (k : Int) = (xs.drop (chN mode * k)).take (chN mode) := if_pos ⟨by omega, by omega⟩
  have hl : (wordB mode xs (k : Int)).length = chN mode := by rw [hw, List.length_take, List.length_drop]; omega
  unfold putB
  rw [if_pos ⟨⟨by omega, by omega⟩, hl⟩, hw, Int.toNat_natCast]
  unfold wholeP
  have e1 : (xs.take (chN mode * k)).length = chN mode * k := by rw [List.length_take]; omega
  rw [List.take_append_of_le_length (by omega), List.take_take, Nat.min_self, List.drop_append, List.drop_eq_nil_of_le (show (xs.take (chN mode * k)).length ≤ chN mode * k + chN mode by omega), e1, List.nil_append, List.drop_drop, Nat.mul_succ,
    show chN mode * k + (chN mode * k + chN mode - chN mode * k) = chN mode * k + chN mode by omega, List.take_add]
theorem wholeP_all {mode : Int} {xs : List UInt8} (h : xs.length = 72) (hm : mode = 1 ∨ mode = 2) : wholeP mode xs (wdN mode) = xs := by
  have e : chN mode * wdN mode = 72 := by rcases hm with rfl | rfl <;> rfl
  unfold wholeP
  rw [e, List.take_of_length_le (by omega), show zero72.drop 72 = [] from rfl, List.append_nil]

def seenN (n c j i : Nat) : Nat := if i % n < c ∨ (i % n = c ∧ i / n < j) then 1 else 0
def seenA (n c j : Nat) : Array Value := ((List.range 72).map fun i => Value.int .i64 ((seenN n c j i : Nat) : Int)).toArray
theorem seenA_size (n c j : Nat) : (seenA n c j).size = 72 := by unfold seenA; simp
theorem seenA_get (n c j : Nat) {i : Nat} (h : i < 72) : (seenA n c j)[i]? = some (.int .i64 ((seenN n c j i : Nat) : Int)) := by
  unfold seenA
  rw [List.getElem?_toArray, List.getElem?_map, List.getElem?_range h]
  rfl
theorem seenN_at {n c j : Nat} (h : c < n) : seenN n c j (n * j + c) = 0 := by
  have e1 : (n * j + c) % n = c := by rw [Nat.mul_add_mod, Nat.mod_eq_of_lt h]
  have e2 : (n * j + c) / n = j := by rw [Nat.mul_add_div (by omega), Nat.div_eq_of_lt h, Nat.add_zero]
  unfold seenN
  rw [e1, e2, if_neg (by omega)]
theorem seenN_succ {n c j i : Nat} (h : c < n) : seenN n c (j + 1) i = if i = n * j + c then 1 else seenN n c j i := by
  have e1 : (n * j + c) % n = c := by rw [Nat.mul_add_mod, Nat.mod_eq_of_lt h]
  have e2 : (n * j + c) / n = j := by rw [Nat.mul_add_div (by omega), Nat.div_eq_of_lt h, Nat.add_zero]
  have hd := Nat.div_add_mod i n
  unfold seenN
  by_cases e : i = n * j + c
  · subst e
    rw [e1, e2, if_pos rfl, if_pos (by omega)]
  · rw [if_neg e]
    have : ¬ (i % n = c ∧ i / n = j) := fun ⟨h1, h2⟩ => by rw [h1, h2] at hd; exact e hd.symm
    congr 1
    refine propext ⟨fun h => ?_, fun h => ?_⟩ <;> omega
theorem seenA_set {n c j : Nat} (h : c < n) (hp : n * j + c < 72) : (seenA n c j).setIfInBounds (n * j + c) (.int .i64 1) = seenA n c (j + 1) := by
  apply Array.ext_getElem?
  intro i
  rw [Array.getElem?_setIfInBounds, seenA_size]
  rcases Nat.lt_or_ge i 72 with hi | hi
  · rw [seenA_get _ _ _ hi, seenA_get _ _ _ hi, seenN_succ h]
    by_cases e : n * j + c = i
    · rw [if_pos e, if_pos hp, if_pos e.symm]; rfl
    · rw [if_neg e, if_neg (Ne.symm e)]
  · rw [if_neg (by omega), Array.getElem?_eq_none (by rw [seenA_size]; exact hi), Array.getElem?_eq_none (by rw [seenA_size]; exact hi)]
theorem seenA_congr {n c j c' j' : Nat} (h : ∀ i, i < 72 → seenN n c j i = seenN n c' j' i) : seenA n c j = seenA n c' j' := by
  unfold seenA
  congr 1
  refine List.map_congr_left fun i hi => ?_
  rw [h i (List.mem_range.1 hi)]
theorem seenA_next {n c d : Nat} (h : n * d = 72) : seenA n c d = seenA n (c + 1) 0 := seenA_congr fun i hi => by
  have : i / n < d := Nat.div_lt_of_lt_mul (by omega)
  unfold seenN
  obtain ⟨q, hq⟩ : ∃ q, i / n = q := ⟨_, rfl⟩
  rw [hq] at this ⊢
  congr 1
  refine propext ⟨fun h => ?_, fun h => ?_⟩ <;> omega
def seen0 : Array Value := (List.replicate 72 (Value.int .i64 0)).toArray
theorem seenA_zero (n : Nat) : seenA n 0 0 = seen0 := by
  unfold seenA seen0
  congr 1
  rw [show (fun i => Value.int .i64 ((seenN n 0 0 i : Nat) : Int)) = fun _ => Value.int .i64 0 from funext fun i => by unfold seenN; rw [if_neg (fun h => by rcases h with h | ⟨_, h⟩ <;> exact absurd h (Nat.not_lt_zero _))]; rfl]
  rfl
theorem seenN_last {n i : Nat} (h : 0 < n) : seenN n n 0 i = 1 := by
  unfold seenN
  rw [if_pos (.inl (Nat.mod_lt _ h))]
theorem alRaw : ∀ w : World, (Instr.alloc 41 true (.tuple #[])).run Try.prog w = .ok (.pointer (some ⟨w.heap.size, 0, none⟩)) (w.alloc (.cells (rawV zero72) 41)) := fun _ => by kernel_rfl
end Go.Proofs.Ytckhkagkpldoiaa
