/- How much raw bytes are exposed to one another: plain mathematics. -/
import Derived.Test.YtdglhppcfdpcaaaBtX
import Derived.Test.YtdglhppcfdpcaaaGw
set_option linter.unusedVariables false
namespace Go.Proofs.Ytdglhppcfdpcaaa.E
open Go Go.RowKit
def chN (mode : Int) : Nat := if mode = 1 then 9 else if mode = 2 then 36 else 0
def wdN (mode : Int) : Nat := if mode = 1 then 8 else if mode = 2 then 2 else 0
/-- What one pair of bytes costs. -/
def cst (mode : Int) (a b : UInt8) : Nat := if mode = 1 then pc (a ^^^ b).toNat else if a = b then 0 else 1
theorem pc_eq0 {n : Nat} (h : n < 2 ^ 64) : pc n = 0 ↔ n = 0 := by
  constructor
  · intro h0
    rcases Nat.eq_zero_or_pos n with h1 | h1
    · exact h1
    · have := pc_and_pred n h1 h
      omega
  · rintro rfl; exact pc_zero
theorem u8_xor_self (a : UInt8) : a ^^^ a = 0 := by
  apply UInt8.toNat_inj.1
  rw [UInt8.toNat_xor, Nat.xor_self]; rfl
theorem u8_xor_zero {a b : UInt8} (h : (a ^^^ b).toNat = 0) : a = b := by
  apply UInt8.toNat_inj.1
  rw [UInt8.toNat_xor] at h
  have h2 := congrArg (· ^^^ b.toNat) h
  simpa [Nat.xor_assoc] using h2
theorem cst_self (mode : Int) (a : UInt8) : cst mode a a = 0 := by
  unfold cst
  split
  · rw [u8_xor_self]; exact pc_zero
  · rw [if_pos rfl]
theorem cst_zero {mode : Int} {a b : UInt8} : cst mode a b = 0 ↔ a = b := by
  constructor
  · intro h
    unfold cst at h
    split at h
    · have := (a ^^^ b).toNat_lt
      exact u8_xor_zero ((pc_eq0 (by omega)).1 h)
    · split at h
      · assumption
      · omega
  · rintro rfl; exact cst_self _ _
theorem pc8_le {n : Nat} (h : n < 256) : pc n ≤ 8 := by
  have h1 : pc n = pcTo 8 n := (pcTo_eq 8 n (by omega) (by omega)).symm
  rw [h1]; exact pcTo_le 8 n
theorem cst_le (mode : Int) (a b : UInt8) : cst mode a b ≤ if mode = 1 then 8 else 1 := by
  unfold cst
  split
  · exact pc8_le (a ^^^ b).toNat_lt
  · split <;> omega

/-- A sum of the first n. -/
def sumN (f : Nat → Nat) : Nat → Nat
  | 0 => 0
  | k + 1 => sumN f k + f k
theorem sumN_congr {f g : Nat → Nat} : ∀ n, (∀ i, i < n → f i = g i) → sumN f n = sumN g n
  | 0, _ => rfl
  | n + 1, h => by rw [sumN, sumN, sumN_congr n (fun i hi => h i (by omega)), h n (by omega)]
theorem sumN_zero {f : Nat → Nat} : ∀ n, sumN f n = 0 ↔ ∀ i, i < n → f i = 0
  | 0 => ⟨fun _ i hi => by omega, fun _ => rfl⟩
  | n + 1 => by
    rw [sumN]
    constructor
    · intro h i hi
      by_cases e : i = n
      · subst e; omega
      · exact (sumN_zero n).1 (by omega) i (by omega)
    · intro h
      rw [(sumN_zero n).2 (fun i hi => h i (by omega)), h n (by omega)]
/-- What word k of two raw bytes costs. -/
def wC (mode : Int) (xs ys : List UInt8) (k : Nat) : Nat := sumN (fun j => cst mode (xs.getD (chN mode * k + j) 0) (ys.getD (chN mode * k + j) 0)) (chN mode)
/-- How much two are exposed to one another: over the first k words, and over all. -/
def exP (mode : Int) (xs ys : List UInt8) : Nat → Nat
  | 0 => 0
  | k + 1 => max (exP mode xs ys k) (wC mode xs ys k)
def expo (mode : Int) (xs ys : List UInt8) : Nat := exP mode xs ys (wdN mode)
theorem exP_le_iff {mode : Int} {xs ys : List UInt8} {m : Nat} : ∀ k, exP mode xs ys k ≤ m ↔ ∀ i, i < k → wC mode xs ys i ≤ m
  | 0 => ⟨fun _ i hi => by omega, fun _ => Nat.zero_le _⟩
  | k + 1 => by
    rw [exP]
    constructor
    · intro h i hi
      by_cases e : i = k
      · subst e; omega
      · exact (exP_le_iff k).1 (by omega) i (by omega)
    · intro h
      have h1 := (exP_le_iff k).2 (fun i hi => h i (by omega))
      have h2 := h k (by omega)
      omega
theorem expo_le_iff {mode : Int} {xs ys : List UInt8} (hx : xs.length = 72) (hy : ys.length = 72) {m : Nat} : expo mode xs ys ≤ m ↔ ∀ i, i < wdN mode → wC mode xs ys i ≤ m := exP_le_iff _
theorem wC_le_expo {mode : Int} {xs ys : List UInt8} (hx : xs.length = 72) (hy : ys.length = 72) {i : Nat} (hi : i < wdN mode) : wC mode xs ys i ≤ expo mode xs ys := (expo_le_iff hx hy).1 (Nat.le_refl _) i hi
theorem place_of {mode : Int} (h : mode = 1 ∨ mode = 2) {i : Nat} (hi : i < 72) : i / chN mode < wdN mode ∧ i % chN mode < chN mode ∧ chN mode * (i / chN mode) + i % chN mode = i := by
  have hn : 0 < chN mode := by rcases h with rfl | rfl <;> decide
  refine ⟨?_, Nat.mod_lt _ hn, Nat.div_add_mod _ _⟩
  rcases h with rfl | rfl
  · show i / 9 < 8; omega
  · show i / 36 < 2; omega
theorem expo_zero {mode : Int} (h : mode = 1 ∨ mode = 2) {xs ys : List UInt8} (hx : xs.length = 72) (hy : ys.length = 72) : expo mode xs ys = 0 ↔ xs = ys := by
  constructor
  · intro h0
    refine List.ext_getElem (by omega) fun i h1 h2 => ?_
    obtain ⟨p1, p2, p3⟩ := place_of h (show i < 72 by omega)
    have h3 := wC_le_expo hx hy p1
    have h4 := (sumN_zero _).1 (show wC mode xs ys (i / chN mode) = 0 by omega) _ p2
    rw [p3, cst_zero, List.getD_eq_getElem?_getD, List.getD_eq_getElem?_getD, List.getElem?_eq_getElem h1, List.getElem?_eq_getElem h2] at h4
    exact h4
  · rintro rfl
    have := (expo_le_iff (mode := mode) hx hx (m := 0)).2 fun i _ => Nat.le_of_eq ((sumN_zero _).2 fun _ _ => cst_self _ _)
    omega
end Go.Proofs.Ytdglhppcfdpcaaa.E
