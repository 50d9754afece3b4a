/- The code of bits: words of raw bytes, and the line. Plain mathematics. -/
import Derived.Test.YtkeheickaogpiaaCmA
namespace Go.Proofs.Ytkeheickaogpiaa
open Go Go.RowKit Go.Shelf

theorem fm_slice {f : Nat → List UInt8} {m : Nat} (h : ∀ i, (f i).length = m) : ∀ n k, k < n → ∀ z, (((List.range n).flatMap f ++ z).drop (m * k)).take m = f k := by
  intro n
  induction n with
  | zero => intro k hk; omega
  | succ n ih =>
    intro k hk z
    rw [List.range_succ, List.flatMap_append, List.flatMap_singleton, List.append_assoc]
    by_cases e : k = n
    · subst e
      rw [List.drop_left' (fm_len h k), List.take_left' (h k)]
    · exact ih k (by omega) _
theorem sl_get {xs : List UInt8} {a n j : Nat} (hj : j < n) : ((xs.drop a).take n).getD j 0 = xs.getD (a + j) 0 := by
  rw [List.getD_eq_getElem?_getD, List.getD_eq_getElem?_getD, List.getElem?_take_of_lt hj, List.getElem?_drop]
theorem encT_get {f : Nat → List UInt8} {m : Nat} (h : ∀ i, (f i).length = m) {n k j : Nat} (hk : k < n) (hj : j < m) : (encT m f n).getD (m * k + j) 0 = (f k).getD j 0 := by
  rw [← sl_get hj]
  unfold encT
  rw [fm_slice h n k hk]
theorem w9_get {xs : List UInt8} {k j : Nat} (hj : j < 9) : (w9 xs k).getD j 0 = xs.getD (9 * k + j) 0 := sl_get hj
theorem w36_get {xs : List UInt8} {k j : Nat} (hj : j < 36) : (w36 xs k).getD j 0 = xs.getD (36 * k + j) 0 := sl_get hj
theorem w36_enc {f : Nat → List UInt8} (h : ∀ i, (f i).length = 36) {k : Nat} (hk : k < 2) : w36 (encT 36 f 2) k = f k := fm_slice h 2 k hk _

/-! One word. -/
theorem eW1_lo8 {l : List UInt8} {x : Int} {p : Bool} {k j : Nat} (hj : j < 8) : (eW1 l x p k).getD j 0 = UInt8.ofNat (numO l (8 * k) 8 / 256 ^ j) := by
  unfold eW1
  rw [List.getD_eq_getElem?_getD, List.getElem?_append_left (by rw [lowL_len]; exact hj), ← List.getD_eq_getElem?_getD, lowL_get _ _ _ hj]
theorem eW1_hi {l : List UInt8} {x : Int} {p : Bool} {k : Nat} : (eW1 l x p k).getD 8 0 = hck (numO l (8 * k) 8) ((par23 x : Nat) : Int) (dflag_0 p) := by
  unfold eW1
  rw [List.getD_eq_getElem?_getD, List.getElem?_append_right (by rw [lowL_len]; omega), lowL_len]
  rfl
theorem own_num {l : List UInt8} {x : Int} {p : Bool} {k : Nat} (hk : k < 8) : numO (encT 9 (eW1 l x p) 8) (9 * k) 8 = numO l (8 * k) 8 := by
  rw [numO_of (D := numO l (8 * k) 8) 8 fun j hj => by
    rw [encT_get (eW1_len l x p) hk (by omega), eW1_lo8 hj, UInt8.toNat_ofNat']]
  exact Nat.mod_eq_of_lt (numO_lt64 _ _ (by decide))
/-- What is turned of a word's data, and of its checks. -/
def zD (l ys : List UInt8) (k : Nat) : Nat := numO l (8 * k) 8 ^^^ numO (w9 ys k) 0 8
def zK (l : List UInt8) (x : Int) (p : Bool) (ys : List UInt8) (k : Nat) : Nat := (hck (numO l (8 * k) 8) ((par23 x : Nat) : Int) (dflag_0 p)).toNat ^^^ ((w9 ys k).getD 8 0).toNat
theorem zD_lt (l ys : List UInt8) (k : Nat) : zD l ys k < 2 ^ 64 := Nat.xor_lt_two_pow (numO_lt _ _ 8) (numO_lt _ _ 8)
theorem zK_lt (l : List UInt8) (x : Int) (p : Bool) (ys : List UInt8) (k : Nat) : zK l x p ys k < 2 ^ 8 := Nat.xor_lt_two_pow (UInt8.toNat_lt _) (UInt8.toNat_lt _)
theorem wC_er {l : List UInt8} {x : Int} {p : Bool} {ys : List UInt8} {k : Nat} (hk : k < 8) : wC 1 (encT 9 (eW1 l x p) 8) ys k = erW (zD l ys k) (zK l x p ys k) := by
  have h1 : wC 1 (encT 9 (eW1 l x p) 8) ys k = sumN (fun j => pc ((encT 9 (eW1 l x p) 8).getD (9 * k + j) 0 ^^^ ys.getD (9 * k + j) 0).toNat) (8 + 1) := rfl
  rw [h1, sumN, ← pc_numO _ _ _ _ 8 (Nat.le_refl 8), own_num hk, encT_get (eW1_len l x p) hk (by omega), eW1_hi, UInt8.toNat_xor]
  unfold erW zD zK
  rw [w9_get (by omega), numO_congr (xs := w9 ys k) (ys := ys) (a := 0) (b := 9 * k) 8 fun j hj => by rw [Nat.zero_add]; exact w9_get (by omega)]
  rfl
theorem low_par (x : Int) : Hs.low ((par23 x : Nat) : Int) = par23 x := by unfold Hs.low par23; omega
theorem low_flag (p : Bool) : Hs.low (dflag_0 p) = p.toNat := by cases p <;> rfl
theorem x5 (a b : Nat) : a ^^^ (a ^^^ b) = b := by rw [← Nat.xor_assoc, Nat.xor_self, Nat.zero_xor]
theorem syn_er (l : List UInt8) (x : Int) (p : Bool) (ys : List UInt8) (y : Int) (k : Nat) :
    hsS (numO (w9 ys k) 0 8) ((w9 ys k).getD 8 0) ((par23 y : Nat) : Int) = erS (zD l ys k) (zK l x p ys k) ^^^ (Hs.mark (par23 x ^^^ par23 y) 72 ^^^ Hs.mark p.toNat 73) := by
  have hd : numO (w9 ys k) 0 8 = numO l (8 * k) 8 ^^^ zD l ys k := by unfold zD; rw [x5]
  have hk : ((w9 ys k).getD 8 0).toNat = zK l x p ys k ^^^ Hs.chk (numO l (8 * k) 8) (par23 x) p.toNat := by
    unfold zK
    rw [hck_nat, low_par, low_flag, Nat.xor_comm, x5]
  unfold hsS
  rw [low_par, hk, hd]
  unfold Hs.chk erS
  rw [Hs.cs_xor, show Hs.mark 0 73 = 0 from rfl, Hs.mark_xor]
  generalize Hs.cs (numO l (8 * k) 8) = A
  generalize Hs.cs (zD l ys k) = B
  generalize Hs.mark (par23 y) 72 = C
  generalize Hs.mark (par23 x) 72 = C'
  generalize zK l x p ys k = D
  generalize Hs.mark p.toNat 73 = E
  apply Nat.eq_of_testBit_eq
  intro i
  simp only [Nat.testBit_xor, Nat.zero_testBit]
  cases A.testBit i <;> cases B.testBit i <;> cases C.testBit i <;> cases C'.testBit i <;> cases D.testBit i <;> cases E.testBit i <;> rfl
theorem verdict_zero : Hs.verdict 0 = (0, -1) := by unfold Hs.verdict; rw [if_pos rfl]
theorem verdict_col {t : Nat} (h : t < 72) : Hs.verdict (Hs.col t) = (1, (t : Int)) := by
  unfold Hs.verdict
  rw [if_neg (by have := Hs.col_pos (i := t) (by omega); omega), Hs.at_col (by omega), if_neg (by omega), if_neg (by omega), if_neg (by omega)]
/-- A word's verdict from its syndrome's. -/
theorem dK_of {ys : List UInt8} {y : Int} {k v : Nat} {a : Int} (h : Hs.verdict (hsS (numO (w9 ys k) 0 8) ((w9 ys k).getD 8 0) ((par23 y : Nat) : Int)) = (v, a)) : dK ys y k = if v = 0 then 0 else if v = 1 then 1 else if v = 2 then 2 else 3 := by
  have e : hsK (numO (w9 ys k) 0 8) ((w9 ys k).getD 8 0) ((par23 y : Nat) : Int) = v := by unfold hsK; rw [h]
  unfold dK dbits_0
  rw [e]
  by_cases h0 : v = 0
  · subst h0; rfl
  by_cases h1 : v = 1
  · subst h1; rfl
  by_cases h2 : v = 2
  · subst h2; rfl
  rw [if_neg h0, if_neg h1, if_neg h2]
  have c0 : (((v : Nat) : Int) == 0) = false := by rw [beq_eq_false_iff_ne]; omega
  have c1 : (((v : Nat) : Int) == 1) = false := by rw [beq_eq_false_iff_ne]; omega
  have c2 : (((v : Nat) : Int) == 2) = false := by rw [beq_eq_false_iff_ne]; omega
  rw [c0, c1, c2]
  rfl
theorem dW_of {ys : List UInt8} {y : Int} {k v : Nat} {a : Int} (h : Hs.verdict (hsS (numO (w9 ys k) 0 8) ((w9 ys k).getD 8 0) ((par23 y : Nat) : Int)) = (v, a)) : dW ys y k = Hs.decD (numO (w9 ys k) 0 8) (v, a) := by
  unfold dW hsD; rw [h]
theorem mark00 : Hs.mark 0 72 = 0 := rfl
theorem word_right {l : List UInt8} {x : Int} {ys : List UInt8} {k : Nat} (h : erW (zD l ys k) (zK l x false ys k) ≤ 1) : dK ys x k = (erW (zD l ys k) (zK l x false ys k) : Int) ∧ dW ys x k = numO l (8 * k) 8 := by
  have hs := syn_er l x false ys x k
  rw [Nat.xor_self, mark00, show Hs.mark false.toNat 73 = 0 from rfl, Nat.xor_self, Nat.xor_zero] at hs
  have hd : numO (w9 ys k) 0 8 = numO l (8 * k) 8 ^^^ zD l ys k := by unfold zD; rw [x5]
  rcases (show erW (zD l ys k) (zK l x false ys k) = 0 ∨ erW (zD l ys k) (zK l x false ys k) = 1 by omega) with h0 | h1
  · obtain ⟨e1, e2⟩ := (erW_zero (zD_lt l ys k) (zK_lt l x false ys k)).1 h0
    rw [e1, e2, erS_zero] at hs
    have hv := (congrArg Hs.verdict hs).trans (verdict_zero)
    refine ⟨by rw [dK_of hv, h0]; rfl, ?_⟩
    rw [dW_of hv, hd, e1, Nat.xor_zero]
    rfl
  · obtain ⟨t, ht, e1, e2, _⟩ := e_one (zD_lt l ys k) (zK_lt l x false ys k) h1
    rw [e1] at hs
    have hv := (congrArg Hs.verdict hs).trans (verdict_col ht)
    refine ⟨by rw [dK_of hv, h1]; rfl, ?_⟩
    rw [dW_of hv, hd, e2]
    unfold Hs.decD Hs.tD
    by_cases h6 : t < 64
    · rw [if_pos ⟨rfl, by show (t : Int) < 64; omega⟩, if_pos h6, Nat.zero_xor, Nat.xor_assoc]
      show numO l (8 * k) 8 ^^^ (2 ^ t ^^^ 2 ^ t) = _
      rw [Nat.xor_self, Nat.xor_zero]
    · rw [if_neg (by rintro ⟨_, h7⟩; exact h6 (by have : (t : Int) < 64 := h7; omega)), if_neg h6, Nat.xor_zero]
theorem word_lost {l : List UInt8} {x : Int} {ys : List UInt8} {k : Nat} (h : erW (zD l ys k) (zK l x false ys k) = 2) : dK ys x k = 3 := by
  have hs := syn_er l x false ys x k
  rw [Nat.xor_self, mark00, show Hs.mark false.toNat 73 = 0 from rfl, Nat.xor_self, Nat.xor_zero] at hs
  obtain ⟨s, t, h1, h2, h3, e⟩ := e_two (zD_lt l ys k) (zK_lt l x false ys k) h
  have hv := (congrArg Hs.verdict (hs.trans e)).trans (Hs.two_lost (i := s) (j := t) (by omega) (by omega) h3)
  rw [dK_of hv]; rfl
theorem word_poison {l : List UInt8} {x : Int} {ys : List UInt8} {k : Nat} (h : erW (zD l ys k) (zK l x true ys k) ≤ 1) : 2 ≤ dK ys x k := by
  have hs := syn_er l x true ys x k
  rw [Nat.xor_self, mark00, show Hs.mark true.toNat 73 = Hs.col 73 from rfl, Nat.zero_xor] at hs
  rcases (show erW (zD l ys k) (zK l x true ys k) = 0 ∨ erW (zD l ys k) (zK l x true ys k) = 1 by omega) with h0 | h1
  · obtain ⟨e1, e2⟩ := (erW_zero (zD_lt l ys k) (zK_lt l x true ys k)).1 h0
    rw [e1, e2, erS_zero, Nat.zero_xor] at hs
    have hv := (congrArg Hs.verdict hs).trans (Hs.verdict_73)
    rw [dK_of hv]; decide
  · obtain ⟨t, ht, e1, e2, _⟩ := e_one (zD_lt l ys k) (zK_lt l x true ys k) h1
    have hv := (congrArg Hs.verdict (hs.trans (by rw [e1]))).trans (Hs.two_lost (i := t) (j := 73) (by omega) (by omega) (by omega))
    rw [dK_of hv]; decide
theorem word_stray {l : List UInt8} {x y : Int} {ys : List UInt8} {k : Nat} (h : erW (zD l ys k) (zK l x false ys k) = 0) (hp : par23 x ≠ par23 y) : dK ys y k = 3 := by
  have hs := syn_er l x false ys y k
  obtain ⟨e1, e2⟩ := (erW_zero (zD_lt l ys k) (zK_lt l x false ys k)).1 h
  have h72 : Hs.mark (par23 x ^^^ par23 y) 72 = Hs.col 72 := by
    have hx : par23 x < 2 := by unfold par23; omega
    have hy : par23 y < 2 := by unfold par23; omega
    rw [Hs.low_sum hx hy]
    unfold Hs.mark
    rw [if_pos (by omega)]
  rw [e1, e2, erS_zero, h72, show Hs.mark false.toNat 73 = 0 from rfl, Nat.zero_xor, Nat.xor_zero] at hs
  have hv := (congrArg Hs.verdict hs).trans (Hs.verdict_72)
  rw [dK_of hv]; rfl
end Go.Proofs.Ytkeheickaogpiaa
