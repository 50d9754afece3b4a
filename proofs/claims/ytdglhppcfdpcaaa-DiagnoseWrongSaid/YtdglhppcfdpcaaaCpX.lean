/- Several texts in one: CpB CpC CpD. -/
import Derived.Test.YtdglhppcfdpcaaaCpA
import Derived.Test.YtdglhppcfdpcaaaHr
import Derived.Test.YtdglhppcfdpcaaaHsZ
import Derived.Test.YtdglhppcfdpcaaaHt
set_option linter.unusedVariables false
set_option linter.unusedSimpArgs false
namespace Go.Proofs.Ytdglhppcfdpcaaa.E
open Go Go.RowKit Go.Shelf
theorem lowL_succ (x k : Nat) : lowL x (k + 1) = lowL x k ++ [UInt8.ofNat (x / 256 ^ k)] := rfl


/-! Ones, bit by bit. -/
theorem xor_div2 (a b : Nat) : (a ^^^ b) / 2 = a / 2 ^^^ b / 2 := Nat.xor_div_two
theorem pow_half (i : Nat) : 2 ^ (i + 1) / 2 = 2 ^ i := by rw [Nat.pow_succ]; omega
theorem pow_even (i : Nat) : 2 ^ (i + 1) % 2 = 0 := by rw [Nat.pow_succ]; omega
theorem pcTo_peel (k : Nat) : ∀ n, n < 2 ^ k → n ≠ 0 → ∃ i, i < k ∧ pcTo k n = pcTo k (n ^^^ 2 ^ i) + 1 := by
  induction k with
  | zero => intro n hn h0; omega
  | succ k ih =>
    intro n hn h0
    rw [Nat.pow_succ] at hn
    rcases Nat.mod_two_eq_zero_or_one n with h | h
    · obtain ⟨i, hi, e⟩ := ih (n / 2) (by omega) (by omega)
      refine ⟨i + 1, by omega, ?_⟩
      rw [pcTo, pcTo, xor_div2, pow_half, xor_odd, pow_even, h, e]; omega
    · refine ⟨0, by omega, ?_⟩
      rw [pcTo, pcTo, xor_div2, xor_odd, h]
      simp
      omega
theorem pc_peel {n k : Nat} (hk : k ≤ 64) (hn : n < 2 ^ k) (h0 : n ≠ 0) : ∃ i, i < k ∧ pc n = pc (n ^^^ 2 ^ i) + 1 := by
  obtain ⟨i, hi, e⟩ := pcTo_peel k n hn h0
  refine ⟨i, hi, ?_⟩
  rw [← pcTo_eq k n hn hk, ← pcTo_eq k _ (Nat.xor_lt_two_pow hn (Nat.pow_lt_pow_right (by decide) hi)) hk, e]
theorem pcTo_split (a b : Nat) : ∀ n, pcTo (a + b) n = pcTo a (n % 2 ^ a) + pcTo b (n / 2 ^ a) := by
  induction a with
  | zero => intro n; rw [Nat.zero_add, Nat.pow_zero, Nat.div_one, pcTo, Nat.zero_add]
  | succ a ih =>
    intro n
    rw [show a + 1 + b = (a + b) + 1 by omega, pcTo, pcTo, ih (n / 2)]
    have e1 : n % 2 ^ (a + 1) % 2 = n % 2 := Nat.mod_mod_of_dvd n (by rw [Nat.pow_succ]; exact Nat.dvd_mul_left 2 _)
    have e2 : n % 2 ^ (a + 1) / 2 = n / 2 % 2 ^ a := by rw [Nat.pow_succ, Nat.mul_comm, Nat.mod_mul_right_div_self]
    have e3 : n / 2 / 2 ^ a = n / 2 ^ (a + 1) := by rw [Nat.pow_succ, Nat.mul_comm, Nat.div_div_eq_div_mul]
    rw [e1, e2, e3, Nat.add_assoc]

/-! Bytes of a number. -/
theorem numO_val {xs : List UInt8} {off n j : Nat} (hj : j < n) : numO xs off n / 256 ^ j % 256 = (xs.getD (off + j) 0).toNat := by
  induction n with
  | zero => omega
  | succ n ih =>
    rw [numO_add]
    have hb := (xs.getD (off + n) 0).toNat_lt
    by_cases e : j = n
    · subst e
      have h1 := numO_lt xs off j
      rw [Nat.pow_mul, show (2 : Nat) ^ 8 = 256 from rfl] at h1
      rw [Nat.add_mul_div_left _ _ (Nat.pow_pos (by decide)), Nat.div_eq_of_lt h1, Nat.zero_add, Nat.mod_eq_of_lt hb]
    · have h2 : 256 ^ n * (xs.getD (off + n) 0).toNat = 256 ^ j * (256 * (256 ^ (n - j - 1) * (xs.getD (off + n) 0).toNat)) := by
        rw [← Nat.mul_assoc 256, ← Nat.pow_succ', ← Nat.mul_assoc, ← Nat.pow_add, show j + (n - j - 1 + 1) = n by omega]
      rw [h2, Nat.add_mul_div_left _ _ (Nat.pow_pos (by decide)), Nat.add_mul_mod_self_left, ih (by omega)]
theorem numO_of {xs : List UInt8} {off D : Nat} : ∀ n, (∀ j, j < n → (xs.getD (off + j) 0).toNat = D / 256 ^ j % 256) → numO xs off n = D % 256 ^ n
  | 0, _ => by rw [Nat.pow_zero, Nat.mod_one]; rfl
  | n + 1, h => by rw [numO_add, numO_of n (fun j hj => h j (by omega)), h n (by omega), Nat.mod_pow_succ]
theorem numO_congr {xs ys : List UInt8} {a b : Nat} : ∀ n, (∀ j, j < n → xs.getD (a + j) 0 = ys.getD (b + j) 0) → numO xs a n = numO ys b n
  | 0, _ => rfl
  | n + 1, h => by rw [numO_add, numO_add, numO_congr n (fun j hj => h j (by omega)), h n (by omega)]
theorem lowL_get (x : Nat) : ∀ n j, j < n → (lowL x n).getD j 0 = UInt8.ofNat (x / 256 ^ j) := by
  intro n
  induction n with
  | zero => intro j hj; omega
  | succ n ih =>
    intro j hj
    rw [lowL_succ, List.getD_eq_getElem?_getD]
    by_cases e : j = n
    · subst e; rw [List.getElem?_append_right (by rw [lowL_len]; omega), lowL_len, Nat.sub_self]; rfl
    · rw [List.getElem?_append_left (by rw [lowL_len]; omega), ← List.getD_eq_getElem?_getD]; exact ih j (by omega)
theorem pc_numO (xs ys : List UInt8) (a b : Nat) : ∀ n, n ≤ 8 → pcTo (8 * n) (numO xs a n ^^^ numO ys b n) = sumN (fun j => pc (xs.getD (a + j) 0 ^^^ ys.getD (b + j) 0).toNat) n
  | 0, _ => rfl
  | n + 1, hn => by
    have h := fun (xs : List UInt8) (a : Nat) => numO_lt xs a n
    have hd := fun (xs : List UInt8) (a : Nat) => (show numO xs a (n + 1) / 2 ^ (8 * n) = (xs.getD (a + n) 0).toNat by
      rw [numO_add, show (256 : Nat) ^ n = 2 ^ (8 * n) by rw [Nat.pow_mul], Nat.add_mul_div_left _ _ (Nat.two_pow_pos _), Nat.div_eq_of_lt (h xs a), Nat.zero_add])
    have hm := fun (xs : List UInt8) (a : Nat) => (show numO xs a (n + 1) % 2 ^ (8 * n) = numO xs a n by
      rw [numO_add, show (256 : Nat) ^ n = 2 ^ (8 * n) by rw [Nat.pow_mul], Nat.add_mul_mod_self_left, Nat.mod_eq_of_lt (h xs a)])
    rw [sumN, ← pc_numO xs ys a b n (by omega), show 8 * (n + 1) = 8 * n + 8 by omega, pcTo_split, Nat.xor_mod_two_pow, Nat.xor_div_two_pow, hd, hd, hm, hm, ← UInt8.toNat_xor]
    rw [pcTo_eq 8 _ ((xs.getD (a + n) 0 ^^^ ys.getD (b + n) 0).toNat_lt) (by decide)]

/-! Errors of a word: of its data z, of its checks k. -/
/-- How many bits are turned. -/
def erW (z k : Nat) : Nat := pc z + pc k
/-- What they add to the syndrome. -/
def erS (z k : Nat) : Nat := Hs.cs z ^^^ k
theorem erS_zero : erS 0 0 = 0 := by unfold erS; rw [show Hs.cs 0 = 0 from Hs.csTo_zero 64 0]; rfl
theorem erW_zero {z k : Nat} (hz : z < 2 ^ 64) (hk : k < 2 ^ 8) : erW z k = 0 ↔ z = 0 ∧ k = 0 := by
  unfold erW
  have h1 := pc_eq0 hz
  have h2 := pc_eq0 (n := k) (by omega)
  omega
theorem e_peel {z k : Nat} (hz : z < 2 ^ 64) (hk : k < 2 ^ 8) (h : erW z k ≠ 0) : ∃ t, t < 72 ∧ erW z k = erW (Hs.tD z t) (Hs.tK k t) + 1 ∧ erS z k = erS (Hs.tD z t) (Hs.tK k t) ^^^ Hs.col t := by
  by_cases h0 : z = 0
  · have hk0 : k ≠ 0 := fun e => h ((erW_zero hz hk).2 ⟨h0, e⟩)
    obtain ⟨i, hi, e⟩ := pc_peel (by decide) hk hk0
    refine ⟨64 + i, by omega, ?_⟩
    unfold Hs.tD Hs.tK
    rw [if_neg (by omega), if_pos (by omega), Nat.add_sub_cancel_left]
    refine ⟨by unfold erW; omega, ?_⟩
    unfold erS
    rw [Hs.col_check hi, Nat.xor_assoc, Nat.xor_assoc, Nat.xor_self, Nat.xor_zero]
  · obtain ⟨i, hi, e⟩ := pc_peel (by decide) hz h0
    refine ⟨i, by omega, ?_⟩
    unfold Hs.tD Hs.tK
    rw [if_pos hi, if_neg (by omega)]
    refine ⟨by unfold erW; omega, ?_⟩
    unfold erS
    rw [Hs.cs_xor, Hs.cs_pow hi, Nat.xor_assoc, Nat.xor_assoc, Nat.xor_comm k, ← Nat.xor_assoc (Hs.col i), Nat.xor_self, Nat.zero_xor]
theorem tD_b {z : Nat} (t : Nat) (h : z < 2 ^ 64) : Hs.tD z t < 2 ^ 64 := Hs.tD_lt t h
theorem tK_b {k : Nat} (t : Nat) (h : k < 2 ^ 8) : Hs.tK k t < 2 ^ 8 := Hs.tK_lt t h
theorem tD_tD (z t : Nat) : Hs.tD (Hs.tD z t) t = z := by
  unfold Hs.tD
  by_cases h : t < 64
  · rw [if_pos h, if_pos h, Nat.xor_assoc, Nat.xor_self, Nat.xor_zero]
  · rw [if_neg h, if_neg h]
theorem tK_tK (z t : Nat) : Hs.tK (Hs.tK z t) t = z := by
  unfold Hs.tK
  by_cases h : 64 ≤ t ∧ t < 72
  · rw [if_pos h, if_pos h, Nat.xor_assoc, Nat.xor_self, Nat.xor_zero]
  · rw [if_neg h, if_neg h]
theorem e_one {z k : Nat} (hz : z < 2 ^ 64) (hk : k < 2 ^ 8) (h : erW z k = 1) : ∃ t, t < 72 ∧ erS z k = Hs.col t ∧ z = Hs.tD 0 t ∧ k = Hs.tK 0 t := by
  obtain ⟨t, ht, e1, e2⟩ := e_peel hz hk (by omega)
  obtain ⟨h1, h2⟩ := (erW_zero (tD_b t hz) (tK_b t hk)).1 (by omega)
  refine ⟨t, ht, ?_, ?_, ?_⟩
  · rw [e2, h1, h2, erS_zero, Nat.zero_xor]
  · rw [← h1, tD_tD]
  · rw [← h2, tK_tK]
end Go.Proofs.Ytdglhppcfdpcaaa.E
set_option linter.unusedVariables false
set_option linter.unusedSimpArgs false
namespace Go.Proofs.Ytdglhppcfdpcaaa.E
open Go Go.RowKit Go.Shelf
/-- What the words' code tells. -/
def lo23 (x : Int) : Nat := (x % 8388608).toNat
def par23 (x : Int) : Nat := pc (lo23 x) % 2
def hck (d : Nat) (a p : Int) : UInt8 := xhchk_0 d a p (hcD 10)
def hsS (d : Nat) (k : UInt8) (a : Int) : Nat := (xhchk_0 d a 0 (hcD 10) ^^^ k).toNat
theorem hcD_col (i : Nat) : ((hcD 10).getD i 0).toNat = Hs.col i := by
  have h : ∀ i, i < 74 → ((hcD 10).getD i 0).toNat = Hs.hcolL.getD i 0 := by decide +kernel
  rcases Nat.lt_or_ge i 74 with hi | hi
  · rw [h i hi]; unfold Hs.col; rw [Hs.hcols_eq]
  · unfold Hs.col
    rw [List.getD_eq_getElem?_getD, List.getElem?_eq_none (by rw [hcD_len]; exact hi), List.getD_eq_getElem?_getD, List.getElem?_eq_none (by rw [Hs.hcols_len]; exact hi)]
    rfl
theorem take_snocN {l : List Nat} {k : Nat} (h : k < l.length) : l.take (k + 1) = l.take k ++ [l.getD k 0] := by
  rw [List.take_add_one, List.getElem?_eq_getElem h, List.getD_eq_getElem?_getD, List.getElem?_eq_getElem h]
  rfl
theorem xc_fold (d : Nat) : ∀ k, k ≤ (ones d).length → (xc (hcD 10) d k).toNat = Hs.xfold 0 ((ones d).take k)
  | 0, _ => rfl
  | k + 1, h => by rw [xc, UInt8.toNat_xor, xc_fold d k (by omega), hcD_col, take_snocN (by omega), Hs.xfold_snoc]
theorem xc_cs (d : Nat) : (xc (hcD 10) d (ones d).length).toNat = Hs.cs d := by
  rw [xc_fold d _ (Nat.le_refl _), List.take_length]
  have h := Hs.xfold_ones 64 0 d 0
  rw [Nat.zero_xor] at h
  exact h
theorem mark_of (a : Int) (c : Nat) : Hs.mark (Hs.low a) c = if a % 2 = 1 then Hs.col c else 0 := by
  unfold Hs.mark Hs.low
  by_cases h : a % 2 = 1
  · rw [if_pos h, if_pos (by omega)]
  · rw [if_neg h, if_neg (by omega)]
theorem hck_nat (d : Nat) (a p : Int) : (hck d a p).toNat = Hs.chk d (Hs.low a) (Hs.low p) := by
  unfold hck xhchk_0 Hs.chk
  rw [mark_of, mark_of, ← xc_cs, ← hcD_col 72, ← hcD_col 73]
  by_cases h1 : a % 2 = 1
  · by_cases h2 : p % 2 = 1
    · rw [if_pos h1, if_pos h2, beq_iff_eq.2 h1, beq_iff_eq.2 h2, cond_true, cond_true, UInt8.toNat_xor, UInt8.toNat_xor]
    · rw [if_pos h1, if_neg h2, beq_iff_eq.2 h1, beq_false_of_ne h2, cond_true, cond_false, UInt8.toNat_xor, Nat.xor_zero]
  · by_cases h2 : p % 2 = 1
    · rw [if_neg h1, if_pos h2, beq_false_of_ne h1, beq_iff_eq.2 h2, cond_true, cond_false, UInt8.toNat_xor, Nat.xor_zero]
    · rw [if_neg h1, if_neg h2, beq_false_of_ne h1, beq_false_of_ne h2, cond_false, cond_false, Nat.xor_zero, Nat.xor_zero]
theorem hsS_eq (d : Nat) (k : UInt8) (a : Int) : hsS d k a = Hs.chk d (Hs.low a) 0 ^^^ k.toNat := by
  unfold hsS
  rw [UInt8.toNat_xor]
  exact congrArg (· ^^^ k.toNat) (hck_nat d a 0)
theorem hats_L : Hs.hats = htL := by decide +kernel
theorem verd_L (n : Nat) : Hs.verdict n = if n = 0 then (0, -1) else if htL.getD n (-1) = -1 then (4, -1) else if htL.getD n (-1) = 72 then (3, -1) else if htL.getD n (-1) = 73 then (2, -1) else (1, htL.getD n (-1)) := by unfold Hs.verdict Hs.atS; rw [hats_L]
theorem cla_all : ∀ n : Nat, n < 256 → (xhcla_0 (UInt8.ofNat n) htL, xhcla_1 (UInt8.ofNat n) htL) = (if n = 0 then ((0 : Int), (-1 : Int)) else if htL.getD n (-1) = -1 then (4, -1) else if htL.getD n (-1) = 72 then (3, -1) else if htL.getD n (-1) = 73 then (2, -1) else (1, htL.getD n (-1))) := by decide +kernel
theorem vv {n : Nat} {z A B : Int} (h : (A, B) = (if n = 0 then ((0 : Int), (-1 : Int)) else if z = -1 then (4, -1) else if z = 72 then (3, -1) else if z = 73 then (2, -1) else (1, z))) :
    A = (((if n = 0 then ((0 : Nat), (-1 : Int)) else if z = -1 then (4, -1) else if z = 72 then (3, -1) else if z = 73 then (2, -1) else (1, z)).1 : Nat) : Int) ∧ B = (if n = 0 then ((0 : Nat), (-1 : Int)) else if z = -1 then (4, -1) else if z = 72 then (3, -1) else if z = 73 then (2, -1) else (1, z)).2 := by
  by_cases e0 : n = 0
  · simp only [if_pos e0, Prod.mk.injEq] at h ⊢; exact h
  · by_cases e1 : z = -1
    · simp only [if_neg e0, if_pos e1, Prod.mk.injEq] at h ⊢; exact h
    · by_cases e2 : z = 72
      · simp only [if_neg e0, if_neg e1, if_pos e2, Prod.mk.injEq] at h ⊢; exact h
      · by_cases e3 : z = 73
        · simp only [if_neg e0, if_neg e1, if_neg e2, if_pos e3, Prod.mk.injEq] at h ⊢; exact h
        · simp only [if_neg e0, if_neg e1, if_neg e2, if_neg e3, Prod.mk.injEq] at h ⊢; exact h
theorem cla_v (s : UInt8) : xhcla_0 s (htD 10) = ((Hs.verdict s.toNat).1 : Int) ∧ xhcla_1 s (htD 10) = (Hs.verdict s.toNat).2 := by
  have h := cla_all s.toNat s.toNat_lt
  rw [UInt8.ofNat_toNat] at h
  rw [htD_eq, verd_L]
  exact vv h
theorem fm_slice {f : Nat → List UInt8} {m : Nat} (h : ∀ i, (f i).length = m) : ∀ n k, k < n → ∀ z, (((List.range n).flatMap f ++ z).drop (m * k)).take m = f k := by
  intro n
  induction n with
  | zero => intro k hk; omega
  | succ n ih =>
    intro k hk z
    rw [List.range_succ, List.flatMap_append, List.flatMap_singleton, List.append_assoc]
    by_cases e : k = n
    · subst e
      rw [List.drop_left' (fm_len h k), List.take_left' (h k)]
    · exact ih k (by omega) _
theorem sl_get {xs : List UInt8} {a n j : Nat} (hj : j < n) : ((xs.drop a).take n).getD j 0 = xs.getD (a + j) 0 := by
  rw [List.getD_eq_getElem?_getD, List.getD_eq_getElem?_getD, List.getElem?_take_of_lt hj, List.getElem?_drop]
theorem encT_get {f : Nat → List UInt8} {m : Nat} (h : ∀ i, (f i).length = m) {n k j : Nat} (hk : k < n) (hj : j < m) : (encT m f n).getD (m * k + j) 0 = (f k).getD j 0 := by
  rw [← sl_get hj]
  unfold encT
  rw [fm_slice h n k hk]
theorem w9_get {xs : List UInt8} {k j : Nat} (hj : j < 9) : (w9 xs k).getD j 0 = xs.getD (9 * k + j) 0 := sl_get hj
theorem w36_get {xs : List UInt8} {k j : Nat} (hj : j < 36) : (w36 xs k).getD j 0 = xs.getD (36 * k + j) 0 := sl_get hj
/-! One word. -/
theorem eW1_lo8 {l : List UInt8} {x : Int} {p : Bool} {k j : Nat} (hj : j < 8) : (eW1 l x p k).getD j 0 = UInt8.ofNat (numO l (8 * k) 8 / 256 ^ j) := by
  unfold eW1
  rw [List.getD_eq_getElem?_getD, List.getElem?_append_left (by rw [lowL_len]; exact hj), ← List.getD_eq_getElem?_getD, lowL_get _ _ _ hj]
theorem eW1_hi {l : List UInt8} {x : Int} {p : Bool} {k : Nat} : (eW1 l x p k).getD 8 0 = hck (numO l (8 * k) 8) ((par23 x : Nat) : Int) (xflag_0 p) := by
  unfold eW1
  rw [List.getD_eq_getElem?_getD, List.getElem?_append_right (by rw [lowL_len]; omega), lowL_len]
  rfl
theorem own_num {l : List UInt8} {x : Int} {p : Bool} {k : Nat} (hk : k < 8) : numO (encT 9 (eW1 l x p) 8) (9 * k) 8 = numO l (8 * k) 8 := by
  rw [numO_of (D := numO l (8 * k) 8) 8 fun j hj => by
    rw [encT_get (eW1_len l x p) hk (by omega), eW1_lo8 hj, UInt8.toNat_ofNat']]
  exact Nat.mod_eq_of_lt (numO_lt64 _ _ (by decide))
/-- What is turned of a word's data, and of its checks. -/
def zD (l ys : List UInt8) (k : Nat) : Nat := numO l (8 * k) 8 ^^^ numO (w9 ys k) 0 8
def zK (l : List UInt8) (x : Int) (p : Bool) (ys : List UInt8) (k : Nat) : Nat := (hck (numO l (8 * k) 8) ((par23 x : Nat) : Int) (xflag_0 p)).toNat ^^^ ((w9 ys k).getD 8 0).toNat
theorem zD_lt (l ys : List UInt8) (k : Nat) : zD l ys k < 2 ^ 64 := Nat.xor_lt_two_pow (numO_lt _ _ 8) (numO_lt _ _ 8)
theorem zK_lt (l : List UInt8) (x : Int) (p : Bool) (ys : List UInt8) (k : Nat) : zK l x p ys k < 2 ^ 8 := Nat.xor_lt_two_pow (UInt8.toNat_lt _) (UInt8.toNat_lt _)
theorem wC_er {l : List UInt8} {x : Int} {p : Bool} {ys : List UInt8} {k : Nat} (hk : k < 8) : wC 1 (encT 9 (eW1 l x p) 8) ys k = erW (zD l ys k) (zK l x p ys k) := by
  have h1 : wC 1 (encT 9 (eW1 l x p) 8) ys k = sumN (fun j => pc ((encT 9 (eW1 l x p) 8).getD (9 * k + j) 0 ^^^ ys.getD (9 * k + j) 0).toNat) (8 + 1) := rfl
  rw [h1, sumN, ← pc_numO _ _ _ _ 8 (Nat.le_refl 8), own_num hk, encT_get (eW1_len l x p) hk (by omega), eW1_hi, UInt8.toNat_xor]
  unfold erW zD zK
  rw [w9_get (by omega), numO_congr (xs := w9 ys k) (ys := ys) (a := 0) (b := 9 * k) 8 fun j hj => by rw [Nat.zero_add]; exact w9_get (by omega)]
  rfl
theorem low_par (x : Int) : Hs.low ((par23 x : Nat) : Int) = par23 x := by unfold Hs.low par23; omega
theorem low_flag (p : Bool) : Hs.low (xflag_0 p) = p.toNat := by cases p <;> rfl
theorem x5 (a b : Nat) : a ^^^ (a ^^^ b) = b := by rw [← Nat.xor_assoc, Nat.xor_self, Nat.zero_xor]
theorem syn_er (l : List UInt8) (x : Int) (p : Bool) (ys : List UInt8) (y : Int) (k : Nat) :
    hsS (numO (w9 ys k) 0 8) ((w9 ys k).getD 8 0) ((par23 y : Nat) : Int) = erS (zD l ys k) (zK l x p ys k) ^^^ (Hs.mark (par23 x ^^^ par23 y) 72 ^^^ Hs.mark p.toNat 73) := by
  have hd : numO (w9 ys k) 0 8 = numO l (8 * k) 8 ^^^ zD l ys k := by unfold zD; rw [x5]
  have hk : ((w9 ys k).getD 8 0).toNat = zK l x p ys k ^^^ Hs.chk (numO l (8 * k) 8) (par23 x) p.toNat := by
    unfold zK
    rw [hck_nat, low_par, low_flag, Nat.xor_comm, x5]
  rw [hsS_eq, low_par, hk, hd]
  unfold Hs.chk erS
  rw [Hs.cs_xor, show Hs.mark 0 73 = 0 from rfl, Hs.mark_xor]
  generalize Hs.cs (numO l (8 * k) 8) = A
  generalize Hs.cs (zD l ys k) = B
  generalize Hs.mark (par23 y) 72 = C
  generalize Hs.mark (par23 x) 72 = C'
  generalize zK l x p ys k = D
  generalize Hs.mark p.toNat 73 = E
  apply Nat.eq_of_testBit_eq
  intro i
  simp only [Nat.testBit_xor, Nat.zero_testBit]
  cases A.testBit i <;> cases B.testBit i <;> cases C.testBit i <;> cases C'.testBit i <;> cases D.testBit i <;> cases E.testBit i <;> rfl
theorem verdict_zero : Hs.verdict 0 = (0, -1) := by unfold Hs.verdict; rw [if_pos rfl]
theorem verdict_col {t : Nat} (h : t < 72) : Hs.verdict (Hs.col t) = (1, (t : Int)) := by
  unfold Hs.verdict
  rw [if_neg (by have := Hs.col_pos (i := t) (by omega); omega), Hs.at_col (by omega), if_neg (by omega), if_neg (by omega), if_neg (by omega)]
theorem xdec_eq (d : Nat) (k : UInt8) (a : Int) : xhdec_0 d k a (hcD 10) (htD 10) = Hs.decD d (Hs.verdict (hsS d k a)) := by
  have h := cla_v (xhchk_0 d a 0 (hcD 10) ^^^ k)
  unfold xhdec_0 Hs.decD
  rw [h.1, h.2]
  show _ = if (Hs.verdict (xhchk_0 d a 0 (hcD 10) ^^^ k).toNat).1 = 1 ∧ (Hs.verdict (xhchk_0 d a 0 (hcD 10) ^^^ k).toNat).2 < 64 then _ else d
  by_cases e : (Hs.verdict (xhchk_0 d a 0 (hcD 10) ^^^ k).toNat).1 = 1 ∧ (Hs.verdict (xhchk_0 d a 0 (hcD 10) ^^^ k).toNat).2 < 64
  · rw [if_pos e, decide_eq_true e.2, e.1]
    show d ^^^ 1 * 2 ^ _ = d ^^^ 2 ^ _
    rw [Nat.one_mul]
    rfl
  · rw [if_neg e]
    have : (((((Hs.verdict (xhchk_0 d a 0 (hcD 10) ^^^ k).toNat).1 : Nat) : Int) == 1) && decide ((Hs.verdict (xhchk_0 d a 0 (hcD 10) ^^^ k).toNat).2 < 64)) = false := by
      rw [Bool.and_eq_false_iff]
      by_cases e1 : (Hs.verdict (xhchk_0 d a 0 (hcD 10) ^^^ k).toNat).1 = 1
      · exact .inr (decide_eq_false fun h2 => e ⟨e1, h2⟩)
      · exact .inl (beq_false_of_ne (by omega))
    rw [this]; rfl
/-- A word's verdict from its syndrome's. -/
theorem dK_of {ys : List UInt8} {y : Int} {k v : Nat} {a : Int} (h : Hs.verdict (hsS (numO (w9 ys k) 0 8) ((w9 ys k).getD 8 0) ((par23 y : Nat) : Int)) = (v, a)) : dK ys y k = if v = 0 then 0 else if v = 1 then 1 else if v = 2 then 2 else 3 := by
  have e : xhcla_0 ((xhchk_0 (numO (w9 ys k) 0 8) ((pc ((y % 8388608).toNat) % 2 : Nat) : Int) 0 (hcD 10)) ^^^ ((w9 ys k).getD 8 0)) (htD 10) = ((v : Nat) : Int) := by
    have h2 := (cla_v ((xhchk_0 (numO (w9 ys k) 0 8) ((par23 y : Nat) : Int) 0 (hcD 10)) ^^^ ((w9 ys k).getD 8 0))).1
    unfold hsS at h
    rw [h] at h2
    exact h2
  unfold dK xbits_0
  rw [e]
  by_cases h0 : v = 0
  · subst h0; rfl
  by_cases h1 : v = 1
  · subst h1; rfl
  by_cases h2 : v = 2
  · subst h2; rfl
  rw [if_neg h0, if_neg h1, if_neg h2]
  have c0 : (((v : Nat) : Int) == 0) = false := by rw [beq_eq_false_iff_ne]; omega
  have c1 : (((v : Nat) : Int) == 1) = false := by rw [beq_eq_false_iff_ne]; omega
  have c2 : (((v : Nat) : Int) == 2) = false := by rw [beq_eq_false_iff_ne]; omega
  rw [c0, c1, c2]
  rfl
theorem dW_of {ys : List UInt8} {y : Int} {k v : Nat} {a : Int} (h : Hs.verdict (hsS (numO (w9 ys k) 0 8) ((w9 ys k).getD 8 0) ((par23 y : Nat) : Int)) = (v, a)) : dW ys y k = Hs.decD (numO (w9 ys k) 0 8) (v, a) := by
  have e := xdec_eq (numO (w9 ys k) 0 8) ((w9 ys k).getD 8 0) ((par23 y : Nat) : Int)
  rw [h] at e
  exact e
theorem mark00 : Hs.mark 0 72 = 0 := rfl
theorem word_right {l : List UInt8} {x : Int} {ys : List UInt8} {k : Nat} (h : erW (zD l ys k) (zK l x false ys k) ≤ 1) : dK ys x k = (erW (zD l ys k) (zK l x false ys k) : Int) ∧ dW ys x k = numO l (8 * k) 8 := by
  have hs := syn_er l x false ys x k
  rw [Nat.xor_self, mark00, show Hs.mark false.toNat 73 = 0 from rfl, Nat.xor_self, Nat.xor_zero] at hs
  have hd : numO (w9 ys k) 0 8 = numO l (8 * k) 8 ^^^ zD l ys k := by unfold zD; rw [x5]
  rcases (show erW (zD l ys k) (zK l x false ys k) = 0 ∨ erW (zD l ys k) (zK l x false ys k) = 1 by omega) with h0 | h1
  · obtain ⟨e1, e2⟩ := (erW_zero (zD_lt l ys k) (zK_lt l x false ys k)).1 h0
    rw [e1, e2, erS_zero] at hs
    have hv := (congrArg Hs.verdict hs).trans (verdict_zero)
    refine ⟨by rw [dK_of hv, h0]; rfl, ?_⟩
    rw [dW_of hv, hd, e1, Nat.xor_zero]
    rfl
  · obtain ⟨t, ht, e1, e2, _⟩ := e_one (zD_lt l ys k) (zK_lt l x false ys k) h1
    rw [e1] at hs
    have hv := (congrArg Hs.verdict hs).trans (verdict_col ht)
    refine ⟨by rw [dK_of hv, h1]; rfl, ?_⟩
    rw [dW_of hv, hd, e2]
    unfold Hs.decD Hs.tD
    by_cases h6 : t < 64
    · rw [if_pos ⟨rfl, by show (t : Int) < 64; omega⟩, if_pos h6, Nat.zero_xor, Nat.xor_assoc]
      show numO l (8 * k) 8 ^^^ (2 ^ t ^^^ 2 ^ t) = _
      rw [Nat.xor_self, Nat.xor_zero]
    · rw [if_neg (by rintro ⟨_, h7⟩; exact h6 (by have : (t : Int) < 64 := h7; omega)), if_neg h6, Nat.xor_zero]
end Go.Proofs.Ytdglhppcfdpcaaa.E
set_option linter.unusedVariables false
set_option linter.unusedSimpArgs false
namespace Go.Proofs.Ytdglhppcfdpcaaa.E
open Go Go.RowKit Go.Shelf


/-! Words' verdicts joined. -/
theorem fmax (l : List Int) : ∀ a : Int, (a ≤ l.foldl max a ∧ (∀ x, x ∈ l → x ≤ l.foldl max a)) ∧ ∀ m, a ≤ m → (∀ x, x ∈ l → x ≤ m) → l.foldl max a ≤ m := by
  induction l with
  | nil => intro a; exact ⟨⟨Int.le_refl _, fun x h => absurd h List.not_mem_nil⟩, fun m h _ => h⟩
  | cons y l ih =>
    intro a
    obtain ⟨⟨h1, h2⟩, h3⟩ := ih (max a y)
    rw [List.foldl_cons]
    refine ⟨⟨by omega, fun x hx => ?_⟩, fun m hm hx => h3 m (by have := hx y List.mem_cons_self; omega) fun x h => hx x (List.mem_cons_of_mem _ h)⟩
    rcases List.mem_cons.1 hx with rfl | h
    · omega
    · exact h2 x h
theorem jK_pos (l : List Int) : 0 ≤ jK l := (fmax l 0).1.1
theorem jK_ge {l : List Int} {x : Int} (h : x ∈ l) : x ≤ jK l := (fmax l 0).1.2 x h
theorem jK_le {l : List Int} {m : Int} (h0 : 0 ≤ m) (h : ∀ x, x ∈ l → x ≤ m) : jK l ≤ m := (fmax l 0).2 m h0 h
theorem jF_go (l : List Int) : ∀ a : Int, a ≤ l.foldl (fun a k => a + xflag_0 (k == 1)) a ∧ ((1 : Int) ∈ l → a < l.foldl (fun a k => a + xflag_0 (k == 1)) a) := by
  induction l with
  | nil => intro a; exact ⟨Int.le_refl _, fun h => absurd h List.not_mem_nil⟩
  | cons y l ih =>
    intro a
    obtain ⟨h1, h2⟩ := ih (a + xflag_0 (y == 1))
    have h3 := xflag_bd (y == 1)
    rw [List.foldl_cons]
    refine ⟨by omega, fun hx => ?_⟩
    rcases List.mem_cons.1 hx with rfl | h
    · have h4 : xflag_0 ((1 : Int) == 1) = 1 := rfl
      omega
    · have := h2 h; omega
theorem jF_pos {l : List Int} (h : (1 : Int) ∈ l) : 0 < jF l := (jF_go l 0).2 h
theorem mem_rg {f : Nat → Int} {n k : Nat} (h : k < n) : f k ∈ (List.range n).map f := List.mem_map.2 ⟨k, List.mem_range.2 h, rfl⟩
theorem all_rg {f : Nat → Int} {n : Nat} {P : Int → Prop} (h : ∀ k, k < n → P (f k)) : ∀ x, x ∈ (List.range n).map f → P x := by
  intro x hx
  obtain ⟨k, hk, rfl⟩ := List.mem_map.1 hx
  exact h k (List.mem_range.1 hk)
theorem join_right {f : Nat → Int} {c : Nat → Nat} {n e : Nat} (h : ∀ k, k < n → f k = (c k : Int)) (hc : ∀ k, k < n → c k ≤ e) (he : e ≤ 1) (h1 : e = 1 → ∃ k, k < n ∧ c k = 1) :
    jK ((List.range n).map f) = (e : Int) ∧ (decide (0 < xjoin_0 ((List.range n).map f)) = ((e : Int) == 1)) := by
  have g1 : jK ((List.range n).map f) ≤ (e : Int) := jK_le (by omega) (all_rg fun k hk => by rw [h k hk]; have := hc k hk; omega)
  have g0 := jK_pos ((List.range n).map f)
  rcases (show e = 0 ∨ e = 1 by omega) with rfl | rfl
  · have e0 : jK ((List.range n).map f) = 0 := by omega
    refine ⟨e0, ?_⟩
    unfold xjoin_0
    rw [e0]
    rfl
  · obtain ⟨k, hk, ck⟩ := h1 rfl
    have m1 : (1 : Int) ∈ (List.range n).map f := by
      have := mem_rg (f := f) hk
      rwa [h k hk, ck] at this
    have g2 := jK_ge m1
    have e1 : jK ((List.range n).map f) = 1 := by omega
    refine ⟨e1, ?_⟩
    unfold xjoin_0
    rw [e1]
    show decide (0 < jF _) = true
    exact decide_eq_true (jF_pos m1)
/-! Lines. -/
theorem own1_len (l : List UInt8) (x : Int) (p : Bool) : (encT 9 (eW1 l x p) 8).length = 72 := encT_len (n := 9) (eW1_len l x p) (k := 8) (by decide)
theorem fill_line {l : List UInt8} (hl : l.length = 64) {f : Nat → Nat} (h : ∀ k, k < 8 → f k = numO l (8 * k) 8) : fillL 64 (fwB (fillG 0 8 f 8)) (8 * 8) = l := by
  refine List.ext_getElem (by rw [fillL_len, hl]) fun i h1 h2 => ?_
  have hi : i < 64 := by rw [fillL_len] at h1; exact h1
  have e : (fillL 64 (fwB (fillG 0 8 f 8)) (8 * 8)).getD i 0 = l.getD i 0 := by
    rw [fillL_get hi, if_pos hi]
    unfold fwB
    rw [fillG_get (show i / 8 < 8 by omega), if_pos (by omega), h _ (by omega)]
    have hv := numO_val (xs := l) (off := 8 * (i / 8)) (n := 8) (j := i % 8) (by omega)
    rw [show 8 * (i / 8) + i % 8 = i by omega] at hv
    apply UInt8.toNat_inj.1
    rw [UInt8.toNat_ofNat', Nat.pow_mul, ← hv]
  rw [List.getD_eq_getElem?_getD, List.getD_eq_getElem?_getD, List.getElem?_eq_getElem h1, List.getElem?_eq_getElem h2] at e
  exact e
theorem wC1_le {l : List UInt8} {x : Int} {p : Bool} {r : List UInt8} (hr : r.length = 72) {k : Nat} (hk : k < 8) : erW (zD l r k) (zK l x p r k) ≤ expo 1 (encT 9 (eW1 l x p) 8) r := by
  rw [← wC_er hk]; exact wC_le_expo (own1_len l x p) hr hk
theorem wC1_hit {l : List UInt8} {x : Int} {p : Bool} {r : List UInt8} (hr : r.length = 72) {m : Nat} (h : expo 1 (encT 9 (eW1 l x p) 8) r = m + 1) : ∃ k, k < 8 ∧ erW (zD l r k) (zK l x p r k) = m + 1 := by
  have h1 : ¬ expo 1 (encT 9 (eW1 l x p) 8) r ≤ m := by omega
  rw [expo_le_iff (own1_len l x p) hr] at h1
  simp only [Classical.not_forall] at h1
  obtain ⟨k, hk, h2⟩ := h1
  have h3 := wC1_le (l := l) (x := x) (p := p) hr hk
  rw [wC_er hk] at h2
  exact ⟨k, hk, by omega⟩
theorem right1 {l : List UInt8} (hl : l.length = 64) {x : Int} {r : List UInt8} (hr : r.length = 72) (h : expo 1 (encT 9 (eW1 l x false) 8) r ≤ 1) :
    xDec1_0 r x = l ∧ jK ((List.range 8).map (dK r x)) = (expo 1 (encT 9 (eW1 l x false) 8) r : Int) ∧ (decide (0 < xjoin_0 ((List.range 8).map (dK r x))) = ((expo 1 (encT 9 (eW1 l x false) 8) r : Int) == 1)) := by
  have hw := fun k (hk : k < 8) => word_right (Nat.le_trans (wC1_le (l := l) (x := x) (p := false) hr hk) h)
  have hj := join_right (f := dK r x) (c := fun k => erW (zD l r k) (zK l x false r k)) (n := 8) (e := expo 1 (encT 9 (eW1 l x false) 8) r) (fun k hk => (hw k hk).1) (fun k hk => wC1_le hr hk) h fun h1 => wC1_hit hr h1
  refine ⟨?_, hj⟩
  unfold xDec1_0
  rw [hj.1, decide_eq_false (by omega), cond_false]
  exact fill_line hl fun k hk => (hw k hk).2
/-! Two lines. -/
end Go.Proofs.Ytdglhppcfdpcaaa.E
