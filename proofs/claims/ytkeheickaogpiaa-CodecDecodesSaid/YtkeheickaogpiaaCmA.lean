/- The code of bits: how far a word is from its own, and its verdict. Plain mathematics. -/
import Derived.Test.YtkeheickaogpiaaCdG
import Derived.IntWalk
namespace Go.Proofs.Ytkeheickaogpiaa
open Go Go.RowKit Go.Shelf

/-! Ones, bit by bit. -/
theorem xor_div2 (a b : Nat) : (a ^^^ b) / 2 = a / 2 ^^^ b / 2 := Nat.xor_div_two
theorem pow_half (i : Nat) : 2 ^ (i + 1) / 2 = 2 ^ i := by rw [Nat.pow_succ]; omega
theorem pow_even (i : Nat) : 2 ^ (i + 1) % 2 = 0 := by rw [Nat.pow_succ]; omega
theorem pcTo_peel (k : Nat) : ∀ n, n < 2 ^ k → n ≠ 0 → ∃ i, i < k ∧ pcTo k n = pcTo k (n ^^^ 2 ^ i) + 1 := by
  induction k with
  | zero => intro n hn h0; omega
  | succ k ih =>
    intro n hn h0
    rw [Nat.pow_succ] at hn
    rcases Nat.mod_two_eq_zero_or_one n with h | h
    · obtain ⟨i, hi, e⟩ := ih (n / 2) (by omega) (by omega)
      refine ⟨i + 1, by omega, ?_⟩
      rw [pcTo, pcTo, xor_div2, pow_half, xor_odd, pow_even, h, e]; omega
    · refine ⟨0, by omega, ?_⟩
      rw [pcTo, pcTo, xor_div2, xor_odd, h]
      simp
      omega
theorem pc_peel {n k : Nat} (hk : k ≤ 64) (hn : n < 2 ^ k) (h0 : n ≠ 0) : ∃ i, i < k ∧ pc n = pc (n ^^^ 2 ^ i) + 1 := by
  obtain ⟨i, hi, e⟩ := pcTo_peel k n hn h0
  refine ⟨i, hi, ?_⟩
  rw [← pcTo_eq k n hn hk, ← pcTo_eq k _ (Nat.xor_lt_two_pow hn (Nat.pow_lt_pow_right (by decide) hi)) hk, e]
theorem pcTo_split (a b : Nat) : ∀ n, pcTo (a + b) n = pcTo a (n % 2 ^ a) + pcTo b (n / 2 ^ a) := by
  induction a with
  | zero => intro n; rw [Nat.zero_add, Nat.pow_zero, Nat.div_one, pcTo, Nat.zero_add]
  | succ a ih =>
    intro n
    rw [show a + 1 + b = (a + b) + 1 by omega, pcTo, pcTo, ih (n / 2)]
    have e1 : n % 2 ^ (a + 1) % 2 = n % 2 := Nat.mod_mod_of_dvd n (by rw [Nat.pow_succ]; exact Nat.dvd_mul_left 2 _)
    have e2 : n % 2 ^ (a + 1) / 2 = n / 2 % 2 ^ a := by rw [Nat.pow_succ, Nat.mul_comm, Nat.mod_mul_right_div_self]
    have e3 : n / 2 / 2 ^ a = n / 2 ^ (a + 1) := by rw [Nat.pow_succ, Nat.mul_comm, Nat.div_div_eq_div_mul]
    rw [e1, e2, e3, Nat.add_assoc]

/-! Bytes of a number. -/
theorem numO_val {xs : List UInt8} {off n j : Nat} (hj : j < n) : numO xs off n / 256 ^ j % 256 = (xs.getD (off + j) 0).toNat := by
  induction n with
  | zero => omega
  | succ n ih =>
    rw [numO_add]
    have hb := (xs.getD (off + n) 0).toNat_lt
    by_cases e : j = n
    · subst e
      have h1 := numO_lt xs off j
      rw [Nat.pow_mul, show (2 : Nat) ^ 8 = 256 from rfl] at h1
      rw [Nat.add_mul_div_left _ _ (Nat.pow_pos (by decide)), Nat.div_eq_of_lt h1, Nat.zero_add, Nat.mod_eq_of_lt hb]
    · have h2 : 256 ^ n * (xs.getD (off + n) 0).toNat = 256 ^ j * (256 * (256 ^ (n - j - 1) * (xs.getD (off + n) 0).toNat)) := by
        rw [← Nat.mul_assoc 256, ← Nat.pow_succ', ← Nat.mul_assoc, ← Nat.pow_add, show j + (n - j - 1 + 1) = n by omega]
      rw [h2, Nat.add_mul_div_left _ _ (Nat.pow_pos (by decide)), Nat.add_mul_mod_self_left, ih (by omega)]
theorem numO_of {xs : List UInt8} {off D : Nat} : ∀ n, (∀ j, j < n → (xs.getD (off + j) 0).toNat = D / 256 ^ j % 256) → numO xs off n = D % 256 ^ n
  | 0, _ => by rw [Nat.pow_zero, Nat.mod_one]; rfl
  | n + 1, h => by rw [numO_add, numO_of n (fun j hj => h j (by omega)), h n (by omega), Nat.mod_pow_succ]
theorem numO_congr {xs ys : List UInt8} {a b : Nat} : ∀ n, (∀ j, j < n → xs.getD (a + j) 0 = ys.getD (b + j) 0) → numO xs a n = numO ys b n
  | 0, _ => rfl
  | n + 1, h => by rw [numO_add, numO_add, numO_congr n (fun j hj => h j (by omega)), h n (by omega)]
theorem lowL_get (x : Nat) : ∀ n j, j < n → (lowL x n).getD j 0 = UInt8.ofNat (x / 256 ^ j) := by
  intro n
  induction n with
  | zero => intro j hj; omega
  | succ n ih =>
    intro j hj
    rw [lowL_succ, List.getD_eq_getElem?_getD]
    by_cases e : j = n
    · subst e; rw [List.getElem?_append_right (by rw [lowL_len]; omega), lowL_len, Nat.sub_self]; rfl
    · rw [List.getElem?_append_left (by rw [lowL_len]; omega), ← List.getD_eq_getElem?_getD]; exact ih j (by omega)
theorem pc_numO (xs ys : List UInt8) (a b : Nat) : ∀ n, n ≤ 8 → pcTo (8 * n) (numO xs a n ^^^ numO ys b n) = sumN (fun j => pc (xs.getD (a + j) 0 ^^^ ys.getD (b + j) 0).toNat) n
  | 0, _ => rfl
  | n + 1, hn => by
    have h := fun (xs : List UInt8) (a : Nat) => numO_lt xs a n
    have hd := fun (xs : List UInt8) (a : Nat) => (show numO xs a (n + 1) / 2 ^ (8 * n) = (xs.getD (a + n) 0).toNat by
      rw [numO_add, show (256 : Nat) ^ n = 2 ^ (8 * n) by rw [Nat.pow_mul], Nat.add_mul_div_left _ _ (Nat.two_pow_pos _), Nat.div_eq_of_lt (h xs a), Nat.zero_add])
    have hm := fun (xs : List UInt8) (a : Nat) => (show numO xs a (n + 1) % 2 ^ (8 * n) = numO xs a n by
      rw [numO_add, show (256 : Nat) ^ n = 2 ^ (8 * n) by rw [Nat.pow_mul], Nat.add_mul_mod_self_left, Nat.mod_eq_of_lt (h xs a)])
    rw [sumN, ← pc_numO xs ys a b n (by omega), show 8 * (n + 1) = 8 * n + 8 by omega, pcTo_split, Nat.xor_mod_two_pow, Nat.xor_div_two_pow, hd, hd, hm, hm, ← UInt8.toNat_xor]
    rw [pcTo_eq 8 _ ((xs.getD (a + n) 0 ^^^ ys.getD (b + n) 0).toNat_lt) (by decide)]

/-! Errors of a word: of its data z, of its checks k. -/
/-- How many bits are turned. -/
def erW (z k : Nat) : Nat := pc z + pc k
/-- What they add to the syndrome. -/
def erS (z k : Nat) : Nat := Hs.cs z ^^^ k
theorem erS_zero : erS 0 0 = 0 := by unfold erS; rw [show Hs.cs 0 = 0 from Hs.csTo_zero 64 0]; rfl
theorem erW_zero {z k : Nat} (hz : z < 2 ^ 64) (hk : k < 2 ^ 8) : erW z k = 0 ↔ z = 0 ∧ k = 0 := by
  unfold erW
  have h1 := pc_eq0 hz
  have h2 := pc_eq0 (n := k) (by omega)
  omega
theorem e_peel {z k : Nat} (hz : z < 2 ^ 64) (hk : k < 2 ^ 8) (h : erW z k ≠ 0) : ∃ t, t < 72 ∧ erW z k = erW (Hs.tD z t) (Hs.tK k t) + 1 ∧ erS z k = erS (Hs.tD z t) (Hs.tK k t) ^^^ Hs.col t := by
  by_cases h0 : z = 0
  · have hk0 : k ≠ 0 := fun e => h ((erW_zero hz hk).2 ⟨h0, e⟩)
    obtain ⟨i, hi, e⟩ := pc_peel (by decide) hk hk0
    refine ⟨64 + i, by omega, ?_⟩
    unfold Hs.tD Hs.tK
    rw [if_neg (by omega), if_pos (by omega), Nat.add_sub_cancel_left]
    refine ⟨by unfold erW; omega, ?_⟩
    unfold erS
    rw [Hs.col_check hi, Nat.xor_assoc, Nat.xor_assoc, Nat.xor_self, Nat.xor_zero]
  · obtain ⟨i, hi, e⟩ := pc_peel (by decide) hz h0
    refine ⟨i, by omega, ?_⟩
    unfold Hs.tD Hs.tK
    rw [if_pos hi, if_neg (by omega)]
    refine ⟨by unfold erW; omega, ?_⟩
    unfold erS
    rw [Hs.cs_xor, Hs.cs_pow hi, Nat.xor_assoc, Nat.xor_assoc, Nat.xor_comm k, ← Nat.xor_assoc (Hs.col i), Nat.xor_self, Nat.zero_xor]
theorem tD_b {z : Nat} (t : Nat) (h : z < 2 ^ 64) : Hs.tD z t < 2 ^ 64 := Hs.tD_lt t h
theorem tK_b {k : Nat} (t : Nat) (h : k < 2 ^ 8) : Hs.tK k t < 2 ^ 8 := Hs.tK_lt t h
theorem e_par {z k : Nat} (hz : z < 2 ^ 64) (hk : k < 2 ^ 8) : pc (erS z k) % 2 = erW z k % 2 := by
  obtain ⟨n, hn⟩ : ∃ n, erW z k = n := ⟨_, rfl⟩
  induction n generalizing z k with
  | zero =>
    obtain ⟨rfl, rfl⟩ := (erW_zero hz hk).1 hn
    rw [hn, erS_zero, pc_zero]
  | succ n ih =>
    obtain ⟨t, ht, e1, e2⟩ := e_peel hz hk (by omega)
    have h3 := ih (tD_b t hz) (tK_b t hk) (by omega)
    have h4 := Hs.col_odd (i := t) (by omega)
    have h5 := pc_xor (erS (Hs.tD z t) (Hs.tK k t)) (Hs.col t)
    rw [e2, e1]
    omega
theorem tD_tD (z t : Nat) : Hs.tD (Hs.tD z t) t = z := by
  unfold Hs.tD
  by_cases h : t < 64
  · rw [if_pos h, if_pos h, Nat.xor_assoc, Nat.xor_self, Nat.xor_zero]
  · rw [if_neg h, if_neg h]
theorem tK_tK (z t : Nat) : Hs.tK (Hs.tK z t) t = z := by
  unfold Hs.tK
  by_cases h : 64 ≤ t ∧ t < 72
  · rw [if_pos h, if_pos h, Nat.xor_assoc, Nat.xor_self, Nat.xor_zero]
  · rw [if_neg h, if_neg h]
theorem e_one {z k : Nat} (hz : z < 2 ^ 64) (hk : k < 2 ^ 8) (h : erW z k = 1) : ∃ t, t < 72 ∧ erS z k = Hs.col t ∧ z = Hs.tD 0 t ∧ k = Hs.tK 0 t := by
  obtain ⟨t, ht, e1, e2⟩ := e_peel hz hk (by omega)
  obtain ⟨h1, h2⟩ := (erW_zero (tD_b t hz) (tK_b t hk)).1 (by omega)
  refine ⟨t, ht, ?_, ?_, ?_⟩
  · rw [e2, h1, h2, erS_zero, Nat.zero_xor]
  · rw [← h1, tD_tD]
  · rw [← h2, tK_tK]
theorem e_two {z k : Nat} (hz : z < 2 ^ 64) (hk : k < 2 ^ 8) (h : erW z k = 2) : ∃ s t, s < 72 ∧ t < 72 ∧ s ≠ t ∧ erS z k = Hs.col s ^^^ Hs.col t := by
  obtain ⟨t, ht, e1, e2⟩ := e_peel hz hk (by omega)
  obtain ⟨s, hs, e3, e4, e5⟩ := e_one (tD_b t hz) (tK_b t hk) (by omega)
  refine ⟨s, t, hs, ht, ?_, by rw [e2, e3]⟩
  intro est
  have hz0 : z = 0 := by rw [← tD_tD z t, e4, est, tD_tD]
  have hk0 : k = 0 := by rw [← tK_tK k t, e5, est, tK_tK]
  have h0 := (erW_zero hz hk).2 ⟨hz0, hk0⟩
  omega
end Go.Proofs.Ytkeheickaogpiaa
