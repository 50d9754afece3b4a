/- How much raw bytes are exposed to one another: plain mathematics. -/
import Derived.Test.YtckhkagkpldoiaaRawE
import Derived.Test.YtckhkagkpldoiaaRawC
namespace Go.Proofs.Ytckhkagkpldoiaa
open Go.RowKit

/-- What one pair of bytes costs. -/
def cst (mode : Int) (a b : UInt8) : Nat := if mode = 1 then pc (a ^^^ b).toNat else if a = b then 0 else 1
theorem pc_eq0 {n : Nat} (h : n < 2 ^ 64) : pc n = 0 ↔ n = 0 := by
  constructor
  · intro h0
    rcases Nat.eq_zero_or_pos n with h1 | h1
    · exact h1
    · have := pc_and_pred n h1 h
      omega
  · rintro rfl; exact pc_zero
theorem u8_xor_self (a : UInt8) : a ^^^ a = 0 := by
  apply UInt8.toNat_inj.1
  rw [UInt8.toNat_xor, Nat.xor_self]; rfl
theorem u8_xor_zero {a b : UInt8} (h : (a ^^^ b).toNat = 0) : a = b := by
  apply UInt8.toNat_inj.1
  rw [UInt8.toNat_xor] at h
  have h2 := congrArg (· ^^^ b.toNat) h
  simpa [Nat.xor_assoc] using h2
theorem cst_self (mode : Int) (a : UInt8) : cst mode a a = 0 := by
  unfold cst
  split
  · rw [u8_xor_self]; exact pc_zero
  · rw [if_pos rfl]
theorem cst_zero {mode : Int} {a b : UInt8} : cst mode a b = 0 ↔ a = b := by
  constructor
  · intro h
    unfold cst at h
    split at h
    · have := (a ^^^ b).toNat_lt
      exact u8_xor_zero ((pc_eq0 (by omega)).1 h)
    · split at h
      · assumption
      · omega
  · rintro rfl; exact cst_self _ _
theorem cst_comm (mode : Int) (a b : UInt8) : cst mode a b = cst mode b a := by
  unfold cst
  rw [UInt8.xor_comm]
  by_cases h : a = b
  · subst h; rfl
  · rw [if_neg h, if_neg (Ne.symm h)]
theorem pc_xor_le (a b : Nat) : pc (a ^^^ b) ≤ pc a + pc b := by have := pc_xor a b; omega
theorem cst_tri (mode : Int) (a b c : UInt8) : cst mode a c ≤ cst mode a b + cst mode b c := by
  unfold cst
  by_cases h : mode = 1
  · rw [if_pos h, if_pos h, if_pos h]
    have e : (a ^^^ c).toNat = (a ^^^ b).toNat ^^^ (b ^^^ c).toNat := by
      rw [UInt8.toNat_xor, UInt8.toNat_xor, UInt8.toNat_xor, Nat.xor_assoc, ← Nat.xor_assoc b.toNat, Nat.xor_self, Nat.zero_xor]
    rw [e]
    exact pc_xor_le _ _
  · rw [if_neg h, if_neg h, if_neg h]
    by_cases h1 : a = b
    · subst h1; rw [if_pos rfl]; omega
    · by_cases h2 : b = c
      · subst h2; rw [if_neg h1, if_pos rfl]; omega
      · rw [if_neg h1]; split <;> omega
theorem pc8_le {n : Nat} (h : n < 256) : pc n ≤ 8 := by
  have h1 : pc n = pcTo 8 n := (pcTo_eq 8 n (by omega) (by omega)).symm
  rw [h1]; exact pcTo_le 8 n
theorem cst_le (mode : Int) (a b : UInt8) : cst mode a b ≤ if mode = 1 then 8 else 1 := by
  unfold cst
  split
  · exact pc8_le (a ^^^ b).toNat_lt
  · split <;> omega

/-- A sum of the first n. -/
def sumN (f : Nat → Nat) : Nat → Nat
  | 0 => 0
  | k + 1 => sumN f k + f k
theorem sumN_congr {f g : Nat → Nat} : ∀ n, (∀ i, i < n → f i = g i) → sumN f n = sumN g n
  | 0, _ => rfl
  | n + 1, h => by rw [sumN, sumN, sumN_congr n (fun i hi => h i (by omega)), h n (by omega)]
theorem sumN_zero {f : Nat → Nat} : ∀ n, sumN f n = 0 ↔ ∀ i, i < n → f i = 0
  | 0 => ⟨fun _ i hi => by omega, fun _ => rfl⟩
  | n + 1 => by
    rw [sumN]
    constructor
    · intro h i hi
      by_cases e : i = n
      · subst e; omega
      · exact (sumN_zero n).1 (by omega) i (by omega)
    · intro h
      rw [(sumN_zero n).2 (fun i hi => h i (by omega)), h n (by omega)]
theorem sumN_add (f g : Nat → Nat) : ∀ n, sumN (fun i => f i + g i) n = sumN f n + sumN g n
  | 0 => rfl
  | n + 1 => by rw [sumN, sumN, sumN, sumN_add f g n]; omega
theorem sumN_le {f g : Nat → Nat} : ∀ n, (∀ i, i < n → f i ≤ g i) → sumN f n ≤ sumN g n
  | 0, _ => Nat.le_refl _
  | n + 1, h => by rw [sumN, sumN]; have := sumN_le n (fun i hi => h i (by omega)); have := h n (by omega); omega
/-- One alone is not 0. -/
theorem sumN_one {f : Nat → Nat} {c : Nat} : ∀ n, (∀ i, i < n → i ≠ c → f i = 0) → sumN f n = if c < n then f c else 0
  | 0, _ => rfl
  | n + 1, h => by
    rw [sumN, sumN_one n (fun i hi hc => h i (by omega) hc)]
    by_cases h1 : c < n
    · rw [if_pos h1, if_pos (by omega), h n (by omega) (by omega)]; omega
    · by_cases h2 : c = n
      · subst h2; rw [if_neg h1, if_pos (by omega)]; omega
      · rw [if_neg h1, if_neg (by omega), h n (by omega) (by omega)]

/-- What word k of two raw bytes costs. -/
def wC (mode : Int) (xs ys : List UInt8) (k : Nat) : Nat := sumN (fun j => cst mode (xs.getD (chN mode * k + j) 0) (ys.getD (chN mode * k + j) 0)) (chN mode)
theorem word_get {mode : Int} {xs : List UInt8} {k j : Nat} (hk : k < wdN mode) (hj : j < chN mode) : (wordB mode xs (k : Int)).getD j 0 = xs.getD (chN mode * k + j) 0 := by
  unfold wordB
  rw [if_pos (by omega), Int.toNat_natCast, List.getD_eq_getElem?_getD, List.getD_eq_getElem?_getD, List.getElem?_take_of_lt hj, List.getElem?_drop]
theorem dfB_sum (xs ys : List UInt8) (n : Nat) : dfB xs ys n = sumN (fun j => pc (xs.getD j 0 ^^^ ys.getD j 0).toNat) n := by
  induction n with
  | zero => rfl
  | succ n ih => rw [dfB, sumN, ih]
theorem ulB_sum (xs ys : List UInt8) (n : Nat) : ulB xs ys n = sumN (fun j => if xs.getD j 0 = ys.getD j 0 then 0 else 1) n := by
  induction n with
  | zero => rfl
  | succ n ih => rw [ulB, sumN, ih]
theorem ul_word {mode : Int} {xs ys : List UInt8} (hx : xs.length = 72) (hy : ys.length = 72) {k : Nat} (hk : k < wdN mode) : ul mode (wordB mode xs (k : Int)) (wordB mode ys (k : Int)) = wC mode xs ys k := by
  have h1 := word_len hx hk
  have h2 := word_len hy hk
  unfold ul wC cst
  by_cases hm : mode = 1
  · simp only [if_pos hm]
    unfold dI
    rw [h1, h2, Nat.max_self, Nat.min_self, Nat.sub_self, dfB_sum]
    simp only [Nat.mul_zero, Nat.zero_add]
    exact sumN_congr _ fun i hi => by rw [word_get hk hi, word_get hk hi]
  · simp only [if_neg hm]
    rw [h1, ulB_sum]
    exact sumN_congr _ fun i hi => by rw [word_get hk hi, word_get hk hi]
theorem exP_le_iff {mode : Int} {xs ys : List UInt8} {m : Nat} : ∀ k, exP mode xs ys k ≤ m ↔ ∀ i, i < k → ul mode (wordB mode xs (i : Int)) (wordB mode ys (i : Int)) ≤ m
  | 0 => ⟨fun _ i hi => by omega, fun _ => Nat.zero_le _⟩
  | k + 1 => by
    rw [exP]
    constructor
    · intro h i hi
      by_cases e : i = k
      · subst e; omega
      · exact (exP_le_iff k).1 (by omega) i (by omega)
    · intro h
      have h1 := (exP_le_iff k).2 (fun i hi => h i (by omega))
      have h2 := h k (by omega)
      omega
theorem expo_le_iff {mode : Int} {xs ys : List UInt8} (hx : xs.length = 72) (hy : ys.length = 72) {m : Nat} : expo mode xs ys ≤ m ↔ ∀ i, i < wdN mode → wC mode xs ys i ≤ m := by
  unfold expo
  rw [exP_le_iff]
  exact ⟨fun h i hi => by rw [← ul_word hx hy hi]; exact h i hi, fun h i hi => by rw [ul_word hx hy hi]; exact h i hi⟩
theorem wC_le_expo {mode : Int} {xs ys : List UInt8} (hx : xs.length = 72) (hy : ys.length = 72) {i : Nat} (hi : i < wdN mode) : wC mode xs ys i ≤ expo mode xs ys := (expo_le_iff hx hy).1 (Nat.le_refl _) i hi
theorem wC_comm (mode : Int) (xs ys : List UInt8) (k : Nat) : wC mode xs ys k = wC mode ys xs k := sumN_congr _ fun _ _ => cst_comm _ _ _
theorem expo_comm {mode : Int} {xs ys : List UInt8} (hx : xs.length = 72) (hy : ys.length = 72) : expo mode xs ys = expo mode ys xs := by
  have h1 := (expo_le_iff (mode := mode) hx hy).2 fun i hi => by rw [wC_comm]; exact wC_le_expo hy hx hi
  have h2 := (expo_le_iff (mode := mode) hy hx).2 fun i hi => by rw [wC_comm]; exact wC_le_expo hx hy hi
  omega
theorem expo_tri {mode : Int} {xs ys zs : List UInt8} (hx : xs.length = 72) (hy : ys.length = 72) (hz : zs.length = 72) : expo mode xs zs ≤ expo mode xs ys + expo mode ys zs := by
  refine (expo_le_iff hx hz).2 fun i hi => ?_
  have h1 := wC_le_expo hx hy hi
  have h2 := wC_le_expo hy hz hi
  have h3 : wC mode xs zs i ≤ wC mode xs ys i + wC mode ys zs i := by
    unfold wC
    rw [← sumN_add]
    exact sumN_le _ fun j _ => cst_tri _ _ _ _
  omega
theorem place_of {mode : Int} (h : mode = 1 ∨ mode = 2) {i : Nat} (hi : i < 72) : i / chN mode < wdN mode ∧ i % chN mode < chN mode ∧ chN mode * (i / chN mode) + i % chN mode = i := by
  have hn : 0 < chN mode := by rcases h with rfl | rfl <;> decide
  refine ⟨?_, Nat.mod_lt _ hn, Nat.div_add_mod _ _⟩
  rcases h with rfl | rfl
  · show i / 9 < 8; omega
  · show i / 36 < 2; omega
theorem expo_zero {mode : Int} (h : mode = 1 ∨ mode = 2) {xs ys : List UInt8} (hx : xs.length = 72) (hy : ys.length = 72) : expo mode xs ys = 0 ↔ xs = ys := by
  constructor
  · intro h0
    refine List.ext_getElem (by omega) fun i h1 h2 => ?_
    obtain ⟨p1, p2, p3⟩ := place_of h (show i < 72 by omega)
    have h3 := wC_le_expo hx hy p1
    have h4 := (sumN_zero _).1 (show wC mode xs ys (i / chN mode) = 0 by omega) _ p2
    rw [p3, cst_zero, List.getD_eq_getElem?_getD, List.getD_eq_getElem?_getD, List.getElem?_eq_getElem h1, List.getElem?_eq_getElem h2] at h4
    exact h4
  · rintro rfl
    have := (expo_le_iff (mode := mode) hx hx (m := 0)).2 fun i _ => Nat.le_of_eq ((sumN_zero _).2 fun _ _ => cst_self _ _)
    omega
theorem expo_none {mode : Int} (h1 : mode ≠ 1) (h2 : mode ≠ 2) (xs ys : List UInt8) : expo mode xs ys = 0 := by
  unfold expo
  rw [show wdN mode = 0 by unfold wdN; rw [if_neg h1, if_neg h2]]
  rfl

/-- Whose chip each byte is. -/
theorem chipB_get {mode : Int} (h : mode = 1 ∨ mode = 2) {xs : List UInt8} (hx : xs.length = 72) {c : Nat} (hc : c < chN mode) (v : UInt8) {i : Nat} (hi : i < 72) : (chipB mode xs (c : Int) v).getD i 0 = if i % chN mode = c then v else xs.getD i 0 := by
  have hof : ofL mode (c : Int) = (List.range (wdN mode)).map (fun w => chN mode * w + c) := by rw [ofL_in ⟨by omega, by omega⟩, Int.toNat_natCast]
  obtain ⟨p1, p2, p3⟩ := place_of h hi
  have key : ∀ k, k ≤ wdN mode → (chipP mode xs (c : Int) v k).getD i 0 = if i % chN mode = c ∧ i / chN mode < k then v else xs.getD i 0 := by
    intro k
    induction k with
    | zero => intro _; rw [if_neg (fun h => absurd h.2 (Nat.not_lt_zero _))]; rfl
    | succ k ih =>
      intro hk
      have hg : (ofL mode (c : Int))[k]? = some (chN mode * k + c) := by rw [hof, List.getElem?_map, List.getElem?_range (by omega)]; rfl
      rw [chipP_succ hg]
      have hl : (chipP mode xs (c : Int) v k).length = 72 := by rw [chipP_len, hx]
      have hlt := of_lt hg
      rw [List.getD_eq_getElem?_getD, List.getElem?_set]
      have e1 : (chN mode * k + c) % chN mode = c := by rw [Nat.mul_add_mod, Nat.mod_eq_of_lt hc]
      have e2 : (chN mode * k + c) / chN mode = k := by rw [Nat.mul_add_div (by omega), Nat.div_eq_of_lt hc, Nat.add_zero]
      by_cases e : chN mode * k + c = i
      · subst e
        rw [if_pos rfl, if_pos (by omega), if_pos ⟨e1, by omega⟩]; rfl
      · rw [if_neg e, ← List.getD_eq_getElem?_getD, ih (by omega)]
        have hne : ¬ (i % chN mode = c ∧ i / chN mode = k) := fun ⟨h1, h2⟩ => by rw [h1, h2] at p3; exact e p3
        congr 1
        refine propext ⟨fun h => ⟨h.1, by omega⟩, fun h => ⟨h.1, ?_⟩⟩
        have := h.2
        omega
  unfold chipB
  rw [hof, List.length_map, List.length_range, key _ (Nat.le_refl _)]
  congr 1
  exact propext ⟨fun h => h.1, fun h => ⟨h, p1⟩⟩
theorem chipB_out {mode chip : Int} (h : ¬ (0 ≤ chip ∧ chip < chN mode)) (xs : List UInt8) (v : UInt8) : chipB mode xs chip v = xs := by
  unfold chipB chipP
  rw [ofL_out h]
  rfl
theorem chipB_len {mode chip : Int} {xs : List UInt8} {v : UInt8} (h : xs.length = 72) : (chipB mode xs chip v).length = 72 := by unfold chipB; rw [chipP_len, h]
theorem chip_expo {mode : Int} (h : mode = 1 ∨ mode = 2) {xs : List UInt8} (hx : xs.length = 72) {c : Nat} (hc : c < chN mode) (v : UInt8) : expo mode xs (chipB mode xs (c : Int) v) ≤ if mode = 1 then 8 else 1 := by
  refine (expo_le_iff hx (chipB_len hx)).2 fun k hk => ?_
  obtain ⟨_, hf, _⟩ := mode_fit hk
  unfold wC
  rw [sumN_one (c := c)]
  · rw [if_pos hc]
    exact cst_le _ _ _
  · intro j hj hne
    rw [chipB_get h hx hc v (by omega), if_neg (by rw [Nat.mul_add_mod, Nat.mod_eq_of_lt hj]; exact hne), cst_self]
/-- How many bytes of the first k are unlike. -/
def unl (xs ys : List UInt8) : Nat → Nat := sumN fun j => if xs.getD j 0 = ys.getD j 0 then 0 else 1
theorem unl_zero {xs ys : List UInt8} (hx : xs.length = 72) (hy : ys.length = 72) : unl xs ys 72 = 0 ↔ xs = ys := by
  unfold unl
  rw [sumN_zero]
  constructor
  · intro h
    refine List.ext_getElem (by omega) fun i h1 h2 => ?_
    have h3 := h i (by omega)
    by_cases e : xs.getD i 0 = ys.getD i 0
    · rwa [List.getD_eq_getElem?_getD, List.getD_eq_getElem?_getD, List.getElem?_eq_getElem h1, List.getElem?_eq_getElem h2] at e
    · rw [if_neg e] at h3; omega
  · rintro rfl i _; rw [if_pos rfl]
theorem unl_le (xs ys : List UInt8) : ∀ k, unl xs ys k ≤ k
  | 0 => Nat.le_refl _
  | k + 1 => by
    have := unl_le xs ys k
    unfold unl at this ⊢
    rw [sumN]
    split <;> omega
end Go.Proofs.Ytckhkagkpldoiaa
