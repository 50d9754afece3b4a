/- Several texts in one: HsM HsP. -/
import Derived.Test.YtdglhppcfdpcaaaBitM2
namespace Go.Proofs.Ytdglhppcfdpcaaa.Hs
/-- Columns, and whose each one is; a bit is given its column. -/
def hput (s : List Nat × List Int) (i x : Nat) : List Nat × List Int := (s.1.set i x, s.2.set x (i : Int))
def hst0 : List Nat × List Int := (List.replicate 74 0, List.replicate 256 (-1))
def hA : Nat → List Nat × List Int
  | 0 => hst0
  | k + 1 => hput (hA k) (64 + k) (2 ^ k)
def hB : Nat → List Nat × List Int
  | 0 => hA 8
  | k + 1 => hput (hB k) k ((choose 8 3).getD k 0)
def place5 (k : Nat) : Nat := if k < 8 then 56 + k else 64 + k
def hC : Nat → List Nat × List Int
  | 0 => hB 56
  | k + 1 => hput (hC k) (place5 k) ((choose 8 5).getD k 0)
def hcols : List Nat := (hC 10).1
def hats : List Int := (hC 10).2
theorem hput_len (s : List Nat × List Int) (i x : Nat) : (hput s i x).1.length = s.1.length ∧ (hput s i x).2.length = s.2.length := ⟨List.length_set, List.length_set⟩
theorem hA_len (k : Nat) : (hA k).1.length = 74 ∧ (hA k).2.length = 256 := by
  induction k with
  | zero => exact ⟨List.length_replicate, List.length_replicate⟩
  | succ k ih => rw [hA]; exact ⟨(hput_len _ _ _).1.trans ih.1, (hput_len _ _ _).2.trans ih.2⟩
theorem hB_len (k : Nat) : (hB k).1.length = 74 ∧ (hB k).2.length = 256 := by
  induction k with
  | zero => exact hA_len 8
  | succ k ih => rw [hB]; exact ⟨(hput_len _ _ _).1.trans ih.1, (hput_len _ _ _).2.trans ih.2⟩
theorem hC_len (k : Nat) : (hC k).1.length = 74 ∧ (hC k).2.length = 256 := by
  induction k with
  | zero => exact hB_len 56
  | succ k ih => rw [hC]; exact ⟨(hput_len _ _ _).1.trans ih.1, (hput_len _ _ _).2.trans ih.2⟩
theorem hcols_len : hcols.length = 74 := (hC_len 10).1
def col (i : Nat) : Nat := hcols.getD i 0
def atS (s : Nat) : Int := hats.getD s (-1)
def hcolL : List Nat := [7, 11, 13, 14, 19, 21, 22, 25, 26, 28, 35, 37, 38, 41, 42, 44, 49, 50, 52, 56, 67, 69, 70, 73, 74, 76, 81, 82, 84, 88, 97, 98, 100, 104, 112, 131, 133, 134, 137, 138, 140, 145, 146, 148, 152, 161, 162, 164, 168, 176, 193, 194, 196, 200, 208, 224, 31, 47, 55, 59, 61, 62, 79, 87, 1, 2, 4, 8, 16, 32, 64, 128, 91, 93]
theorem hcols_eq : hcols = hcolL := by decide +kernel
theorem hcols_lt : ∀ i, i < 74 → hcolL.getD i 0 < 256 ∧ 0 < hcolL.getD i 0 := by decide +kernel
theorem col_pos {i : Nat} (h : i < 74) : 0 < col i := by unfold col; rw [hcols_eq]; exact (hcols_lt i h).2
theorem at_col0 : ∀ i, i < 74 → hats.getD (hcolL.getD i 0) (-1) = (i : Int) := by decide +kernel
theorem at_col {i : Nat} (h : i < 74) : atS (col i) = (i : Int) := by unfold atS col; rw [hcols_eq]; exact at_col0 i h
theorem col_check0 : ∀ j, j < 8 → hcolL.getD (64 + j) 0 = 2 ^ j := by decide +kernel
theorem col_check {j : Nat} (h : j < 8) : col (64 + j) = 2 ^ j := by unfold col; rw [hcols_eq]; exact col_check0 j h

/-- The exclusive or of the columns of ones, r bits of z from column k on. -/
def csTo : Nat → Nat → Nat → Nat
  | 0, _, _ => 0
  | r + 1, k, z => (if z % 2 = 1 then col k else 0) ^^^ csTo r (k + 1) (z / 2)
def cs (d : Nat) : Nat := csTo 64 0 d
theorem bit_xor (a b c : Nat) : (if (a ^^^ b) % 2 = 1 then c else 0) = (if a % 2 = 1 then c else 0) ^^^ (if b % 2 = 1 then c else 0) := by
  rw [xor_odd]
  rcases Nat.mod_two_eq_zero_or_one a with ha | ha <;> rcases Nat.mod_two_eq_zero_or_one b with hb | hb <;> rw [ha, hb] <;> simp
theorem nxl (a b c : Nat) : a ^^^ (b ^^^ c) = b ^^^ (a ^^^ c) := by rw [← Nat.xor_assoc, Nat.xor_comm a b, Nat.xor_assoc]
theorem csTo_xor (r : Nat) : ∀ k a b, csTo r k (a ^^^ b) = csTo r k a ^^^ csTo r k b := by
  induction r with
  | zero => intro k a b; simp [csTo]
  | succ r ih =>
    intro k a b
    rw [csTo, csTo, csTo, bit_xor, xor_half, ih]
    simp only [Nat.xor_assoc, nxl]
theorem cs_xor (a b : Nat) : cs (a ^^^ b) = cs a ^^^ cs b := csTo_xor 64 0 a b
theorem csTo_zero (r : Nat) : ∀ k, csTo r k 0 = 0 := by
  induction r with
  | zero => intro k; rfl
  | succ r ih => intro k; rw [csTo]; simp [ih]
theorem csTo_pow (r : Nat) : ∀ k i, i < r → csTo r k (2 ^ i) = col (k + i) := by
  induction r with
  | zero => intro k i h; omega
  | succ r ih =>
    intro k i h
    rw [csTo]
    cases i with
    | zero => simp [csTo_zero]
    | succ i =>
      have h2 : 2 ^ (i + 1) % 2 = 0 := by rw [Nat.pow_succ]; omega
      have h3 : 2 ^ (i + 1) / 2 = 2 ^ i := by rw [Nat.pow_succ]; omega
      rw [h2, h3, ih (k + 1) i (by omega), if_neg (by decide), Nat.zero_xor]
      congr 1; omega
theorem cs_pow {i : Nat} (h : i < 64) : cs (2 ^ i) = col i := by unfold cs; rw [csTo_pow 64 0 i h, Nat.zero_add]
/-- The fold over the ones. -/
def xfold (s : Nat) (l : List Nat) : Nat := l.foldl (fun s i => s ^^^ col i) s
theorem xfold_ones (r : Nat) : ∀ k z s, xfold s (onesTo r k z) = s ^^^ csTo r k z := by
  induction r with
  | zero => intro k z s; simp [onesTo, csTo, xfold]
  | succ r ih =>
    intro k z s
    rw [onesTo, csTo]
    split
    · show xfold (s ^^^ col k) _ = _
      rw [ih, Nat.xor_assoc]
    · rw [ih, Nat.zero_xor]
theorem xfold_snoc (s : Nat) (l : List Nat) (i : Nat) : xfold s (l ++ [i]) = xfold s l ^^^ col i := by simp [xfold]

/-- Check bits; a syndrome. -/
def mark (a c : Nat) : Nat := if a % 2 = 1 then col c else 0
def chk (d a p : Nat) : Nat := cs d ^^^ mark a 72 ^^^ mark p 73
theorem mark_xor (a b c : Nat) : mark (a ^^^ b) c = mark a c ^^^ mark b c := bit_xor a b _
/-- A verdict and a place. -/
def verdict (s : Nat) : Nat × Int :=
  if s = 0 then (0, -1) else if atS s = -1 then (4, -1) else if atS s = 72 then (3, -1) else if atS s = 73 then (2, -1) else (1, atS s)
end Go.Proofs.Ytdglhppcfdpcaaa.Hs
namespace Go.Proofs.Ytdglhppcfdpcaaa.Hs
def low (a : Int) : Nat := (a % 2).toNat
def decD (d : Nat) (v : Nat × Int) : Nat := if v.1 = 1 ∧ v.2 < 64 then d ^^^ 2 ^ v.2.toNat else d
def tD (d i : Nat) : Nat := if i < 64 then d ^^^ 2 ^ i else d
def tK (k i : Nat) : Nat := if 64 ≤ i ∧ i < 72 then k ^^^ 2 ^ (i - 64) else k
theorem tD_lt {d : Nat} (i : Nat) (h : d < 18446744073709551616) : tD d i < 18446744073709551616 := by
  unfold tD
  split
  · exact Nat.xor_lt_two_pow (n := 64) h (Nat.pow_lt_pow_right (by decide) (by assumption))
  · exact h
theorem tK_lt {k : Nat} (i : Nat) (h : k < 256) : tK k i < 256 := by
  unfold tK
  split
  · exact Nat.xor_lt_two_pow (n := 8) h (Nat.pow_lt_pow_right (by decide) (by omega))
  · exact h
end Go.Proofs.Ytdglhppcfdpcaaa.Hs
