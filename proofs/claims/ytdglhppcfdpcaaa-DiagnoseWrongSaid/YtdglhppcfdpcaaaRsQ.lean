/- Several texts in one: RsM RsU. -/
import Derived.Test.YtdglhppcfdpcaaaPoQ
import Derived.Test.YtdglhppcfdpcaaaPoN
namespace Go.Proofs.Ytdglhppcfdpcaaa

theorem pw_mul (x : UInt8) (m n : Nat) : pw (pw x m) n = pw x (m * n) := by
  induction n with
  | zero => rfl
  | succ n ih => rw [pw, ih, Nat.mul_succ, pw_add]
theorem pw_swap (x : UInt8) (m n : Nat) : pw (pw x m) n = pw (pw x n) m := by rw [pw_mul, pw_mul, Nat.mul_comm]
/-- Sums over a list of values and elements. -/
def vs (l : List (UInt8 × UInt8)) (j : Nat) : UInt8 := l.foldr (fun p s => gm p.1 (pw p.2 j) ^^^ s) 0
/-- The powers of two, far enough, are unlike. -/
theorem pw2_gE (i : Nat) : (pw 2 i).toNat = gE (i % 255) := by
  induction i with
  | zero => decide +kernel
  | succ i ih =>
    rw [pw, gm_toNat, ih]
    have h2 : (2 : UInt8).toNat = gE 1 := by decide +kernel
    rw [h2, gmulN_gE _ _ (Nat.mod_lt _ (by omega)) (by decide +kernel)]
    have h3 : gL (gE 1) = 1 := by decide +kernel
    rw [h3]
    congr 1
    omega
theorem gE_inj : ∀ i, i < 255 → gL (gE i) = i := by decide +kernel
theorem pw2_inj {i j : Nat} (hi : i < 255) (hj : j < 255) (h : pw 2 i = pw 2 j) : i = j := by
  have h1 := congrArg UInt8.toNat h
  rw [pw2_gE, pw2_gE, Nat.mod_eq_of_lt hi, Nat.mod_eq_of_lt hj] at h1
  rw [← gE_inj i hi, ← gE_inj j hj, h1]
theorem pw2_log {x : UInt8} (h : x ≠ 0) : pw 2 (gL x.toNat) = x := by
  have hx : x.toNat ≠ 0 := fun e => h (UInt8.toNat_inj.1 e)
  have h1 : ∀ a, a < 256 → a ≠ 0 → gL a < 255 ∧ gE (gL a) = a := by decide +kernel
  obtain ⟨h2, h3⟩ := h1 x.toNat x.toNat_lt hx
  apply UInt8.toNat_inj.1
  rw [pw2_gE, Nat.mod_eq_of_lt h2, h3]
theorem gL_lt255 {x : UInt8} (h : x ≠ 0) : gL x.toNat < 255 := by
  have hx : x.toNat ≠ 0 := fun e => h (UInt8.toNat_inj.1 e)
  have h1 : ∀ a, a < 256 → a ≠ 0 → gL a < 255 := by decide +kernel
  exact h1 x.toNat x.toNat_lt hx
/-- What few places hold is nothing, if it is 0 at the roots. -/
def supp (e : Nat → UInt8) (n : Nat) : List Nat := (List.range n).filter fun i => e i != 0
theorem supp_succ (e : Nat → UInt8) (n : Nat) : supp e (n + 1) = supp e n ++ (if e n != 0 then [n] else []) := by
  unfold supp
  rw [List.range_succ, List.filter_append]
  congr 1
  by_cases h : e n != 0
  · rw [if_pos h]; simp [List.filter, h]
  · rw [if_neg h]; simp [List.filter, h]
/-- A verdict: its kind, place and value. -/
structure Vd where
  kind : Nat
  place : Int
  val : UInt8
deriving DecidableEq
/-- Does the one place i, by itself, tell these syndromes? -/
def hit (s : Nat → UInt8) (i : Nat) : Bool := s 0 != 0 && s 1 == gm (s 0) (pw 2 i) && s 2 == gm (s 1) (pw 2 i) && s 3 == gm (s 2) (pw 2 i)
theorem hit_iff (s : Nat → UInt8) (i : Nat) : hit s i = true ↔ s 0 ≠ 0 ∧ s 1 = gm (s 0) (pw 2 i) ∧ s 2 = gm (s 1) (pw 2 i) ∧ s 3 = gm (s 2) (pw 2 i) := by
  unfold hit
  simp only [Bool.and_eq_true, bne_iff_ne, beq_iff_eq, and_assoc]
theorem gm_cancel {a x y : UInt8} (ha : a ≠ 0) (h : gm a x = gm a y) : x = y := by
  have h1 : gm a (x ^^^ y) = 0 := by rw [gm_xor, h, UInt8.xor_self]
  apply Classical.byContradiction
  intro hne
  exact gm_ne _ _ ha (fun e => hne (UInt8.xor_eq_zero_iff.1 e)) h1
theorem hit_uniq {s : Nat → UInt8} {i j : Nat} (hi : i < 255) (hj : j < 255) (h1 : hit s i = true) (h2 : hit s j = true) : i = j := by
  obtain ⟨a1, a2, _⟩ := (hit_iff s i).1 h1
  obtain ⟨_, b2, _⟩ := (hit_iff s j).1 h2
  exact pw2_inj hi hj (gm_cancel a1 (a2.symm.trans b2))
def fnd (s : Nat → UInt8) : Nat → Option Nat
  | 0 => none
  | k + 1 => match fnd s k with
    | some i => some i
    | none => if hit s k then some k else none
theorem fnd_none {s : Nat → UInt8} {k : Nat} : fnd s k = none ↔ ∀ i, i < k → hit s i = false := by
  induction k with
  | zero => exact ⟨fun _ i hi => by omega, fun _ => rfl⟩
  | succ k ih =>
    rw [fnd]
    cases h : fnd s k with
    | some i =>
      refine ⟨fun h => (by cases h), fun h2 => ?_⟩
      have := ih.2 fun i hi => h2 i (by omega)
      rw [h] at this; cases this
    | none =>
      by_cases h2 : hit s k = true
      · simp only [h2, if_true]
        exact ⟨fun h => (by cases h), fun h3 => by rw [h3 k (by omega)] at h2; cases h2⟩
      · simp only [h2]
        refine ⟨fun _ i hi => ?_, fun _ => rfl⟩
        by_cases e : i = k
        · subst e; simpa using h2
        · exact (ih.1 h) i (by omega)
theorem fnd_some {s : Nat → UInt8} {k i : Nat} (hk : k ≤ 255) (hi : i < k) (h : hit s i = true) : fnd s k = some i := by
  cases hf : fnd s k with
  | none => rw [fnd_none.1 hf i hi] at h; cases h
  | some j =>
    have key : ∀ k, fnd s k = some j → j < k ∧ hit s j = true := fun k => by
      induction k with
      | zero => intro h; cases h
      | succ k ih =>
        intro h
        rw [fnd] at h
        cases h2 : fnd s k with
        | some l =>
          rw [h2] at h
          obtain rfl := Option.some.inj h
          have := ih h2
          exact ⟨by omega, this.2⟩
        | none =>
          rw [h2] at h
          by_cases h3 : hit s k = true
          · simp only [h3, if_true] at h
            obtain rfl := Option.some.inj h
            exact ⟨by omega, h3⟩
          · simp only [h3] at h; cases h
    obtain ⟨h1, h2⟩ := key k hf
    rw [hit_uniq (by omega) (by omega) h2 h]
def nul (s : Nat → UInt8) : Prop := s 0 = 0 ∧ s 1 = 0 ∧ s 2 = 0 ∧ s 3 = 0
instance (s : Nat → UInt8) : Decidable (nul s) := by unfold nul; exact inferInstance
/-- The verdict of four syndromes. -/
def locF (s : Nat → UInt8) : Vd := if nul s then ⟨0, -1, 0⟩ else match fnd s 39 with
  | some i => if 35 < i then ⟨2, i, s 0⟩ else ⟨1, i, s 0⟩
  | none => ⟨3, -1, 0⟩
theorem locF_nul {s : Nat → UInt8} (h : nul s) : locF s = ⟨0, -1, 0⟩ := if_pos h
theorem hit_not_nul {s : Nat → UInt8} {i : Nat} (h : hit s i = true) : ¬ nul s := fun hn => ((hit_iff s i).1 h).1 hn.1
theorem locF_lo {s : Nat → UInt8} {i : Nat} (hi : i ≤ 35) (h : hit s i = true) : locF s = ⟨1, i, s 0⟩ := by
  unfold locF
  rw [if_neg (hit_not_nul h), fnd_some (by omega) (show i < 39 by omega) h]
  exact if_neg (by omega)
theorem locF_hi {s : Nat → UInt8} {i : Nat} (h1 : 35 < i) (hi : i < 39) (h : hit s i = true) : locF s = ⟨2, i, s 0⟩ := by
  unfold locF
  rw [if_neg (hit_not_nul h), fnd_some (by omega) hi h]
  exact if_pos h1
theorem locF_lost {s : Nat → UInt8} (h0 : ¬ nul s) (h : ∀ i, i < 39 → hit s i = false) : locF s = ⟨3, -1, 0⟩ := by
  unfold locF
  rw [if_neg h0, fnd_none.2 h]
theorem locF_congr {s t : Nat → UInt8} (h : ∀ i, i < 4 → s i = t i) : locF s = locF t := by
  have hh : ∀ i, hit s i = hit t i := fun i => by unfold hit; rw [h 0 (by omega), h 1 (by omega), h 2 (by omega), h 3 (by omega)]
  have hf : ∀ k, fnd s k = fnd t k := fun k => by
    induction k with
    | zero => rfl
    | succ k ih => rw [fnd, fnd, ih, hh]
  have hn : nul s ↔ nul t := by unfold nul; rw [h 0 (by omega), h 1 (by omega), h 2 (by omega), h 3 (by omega)]
  unfold locF
  by_cases hs : nul s
  · rw [if_pos hs, if_pos (hn.1 hs)]
  · rw [if_neg hs, if_neg (fun e => hs (hn.2 e)), hf, h 0 (by omega)]
/-- By its ratio. -/
theorem hit_ratio {s : Nat → UInt8} {r : UInt8} (h0 : s 0 ≠ 0) (hr : gm r (s 0) = s 1) (hr0 : r ≠ 0) (h2 : s 2 = gm (s 1) r) (h3 : s 3 = gm (s 2) r) : hit s (gL r.toNat) = true := by
  rw [hit_iff, pw2_log hr0]
  exact ⟨h0, by rw [← hr, gm_comm], h2, h3⟩
theorem no_hit_ratio {s : Nat → UInt8} {r : UInt8} (hr : gm r (s 0) = s 1) (h : r = 0 ∨ s 2 ≠ gm (s 1) r ∨ s 3 ≠ gm (s 2) r) (i : Nat) : hit s i = false := by
  cases hh : hit s i with
  | false => rfl
  | true =>
    exfalso
    obtain ⟨a0, a1, a2, a3⟩ := (hit_iff s i).1 hh
    have e : r = pw 2 i := gm_cancel a0 (by rw [gm_comm, hr, a1])
    subst e
    rcases h with h | h | h
    · have h5 := pw2_gE i
      rw [h] at h5
      have h6 : ∀ m, m < 255 → gE m ≠ 0 := by decide +kernel
      exact h6 (i % 255) (Nat.mod_lt _ (by omega)) h5.symm
    · exact h a2
    · exact h a3
end Go.Proofs.Ytdglhppcfdpcaaa
namespace Go.Proofs.Ytdglhppcfdpcaaa
set_option linter.unusedVariables false
def genL : List UInt8 := rootsL [1, 2, 4, 8]
theorem genL_eq : genL = [64, 120, 54, 15, 1] := by decide +kernel
def gi (x : UInt8) : UInt8 := UInt8.ofNat (gdivN 1 x.toNat)
theorem gi_toNat (x : UInt8) : (gi x).toNat = gdivN 1 x.toNat := by unfold gi; rw [UInt8.toNat_ofNat']; exact Nat.mod_eq_of_lt (gdivN_lt _ _)
theorem gm_gi {x : UInt8} (h : x ≠ 0) : gm x (gi x) = 1 := by
  rw [gm_comm]
  apply UInt8.toNat_inj.1
  rw [gm_toNat, gi_toNat, gdivN_mul _ _ (by omega) x.toNat_lt (fun e => h (UInt8.toNat_inj.1 e))]
  rfl
/-- All symbols ahead of the division: noughts, data, virtual ones. -/
def msgL (d v : List UInt8) : List UInt8 := List.replicate 4 0 ++ d ++ v
def modG (d v : List UInt8) : List UInt8 := modL (msgL d v) genL (gi (co genL (tlL genL - 1)))
/-- The checks of data. -/
def chkL (d v : List UInt8) : List UInt8 := ofF 4 (co (modG d v))
theorem chkL_len (d v : List UInt8) : (chkL d v).length = 4 := ofF_len _ _
theorem genL_tl : tlL genL = 5 := by
  have h := rtTo_tl [1, 2, 4, 8] 4
  exact h
theorem genL_len : genL.length = 5 := by rw [genL_eq]; rfl
theorem modG_le (d v : List UInt8) : (modG d v).length ≤ 4 := by
  have h := (modL_spec (p := msgL d v) (q := genL) (t := gi (co genL (tlL genL - 1))) (by rw [genL_tl]; omega) (gm_gi (tlL_top genL (t := tlL genL - 1) (by rw [genL_tl])))).2
  rw [modL_trimmed, genL_tl] at h
  exact Nat.le_of_lt_succ h
theorem chkL_copy (d v : List UInt8) : modG d v ++ (List.replicate 4 (0 : UInt8)).drop (modG d v).length = chkL d v := by
  have hl := modG_le d v
  refine list_ext (by rw [chkL_len]; simp; omega) fun i hi => ?_
  have hi4 : i < 4 := by simp at hi; omega
  unfold chkL
  rw [co_ofF, if_pos hi4]
  unfold co
  rw [List.getD_eq_getElem?_getD, List.getD_eq_getElem?_getD]
  by_cases h : i < (modG d v).length
  · rw [List.getElem?_append_left h]
  · rw [List.getElem?_append_right (by omega), List.getElem?_eq_none (l := modG d v) (by omega), List.getElem?_drop]
    rw [show (modG d v).length + (i - (modG d v).length) = i by omega, List.getElem?_replicate, if_pos hi4]
    rfl
/-- The value of all symbols at the root number j. -/
def synF (w v : List UInt8) (j : Nat) : UInt8 := evalL (w ++ v) (pw 2 j)
def synL (w v : List UInt8) : List UInt8 := ofF 4 (synF w v)
theorem synL_len (w v : List UInt8) : (synL w v).length = 4 := ofF_len _ _
def syTo (w v : List UInt8) (k : Nat) : List UInt8 := ofF 4 fun j => if j < k then synF w v j else 0
theorem syTo_len (w v : List UInt8) (k : Nat) : (syTo w v k).length = 4 := ofF_len _ _
theorem syTo_zero (w v : List UInt8) : syTo w v 0 = List.replicate 4 0 := ofF_zero _ _ fun i _ => if_neg (by omega)
theorem syTo_all (w v : List UInt8) : syTo w v 4 = synL w v := ofF_congr fun i hi => if_pos hi
theorem syTo_set (w v : List UInt8) (k : Nat) : (syTo w v k).set k (synF w v k) = syTo w v (k + 1) :=
  ofF_succ_set _ _ _ _ _ fun i _ => by
    by_cases e : i = k
    · subst e; rw [if_pos (by omega), if_pos rfl]
    · rw [if_neg e]
      by_cases h : i < k
      · rw [if_pos (by omega), if_pos h]
      · rw [if_neg (by omega), if_neg h]

/-- A quotient. -/
def gd (x y : UInt8) : UInt8 := UInt8.ofNat (gdivN x.toNat y.toNat)
theorem gd_toNat (x y : UInt8) : (gd x y).toNat = gdivN x.toNat y.toNat := by unfold gd; rw [UInt8.toNat_ofNat']; exact Nat.mod_eq_of_lt (gdivN_lt _ _)
theorem gm_gd (x : UInt8) {y : UInt8} (hy : y ≠ 0) : gm (gd x y) y = x := by
  apply UInt8.toNat_inj.1
  rw [gm_toNat, gd_toNat, gdivN_mul _ _ x.toNat_lt y.toNat_lt (fun e => hy (UInt8.toNat_inj.1 e))]
theorem locF_fixed {s : Nat → UInt8} (h : (((locF s).kind : Int) == 1) = true) : ∃ i : Nat, i ≤ 35 ∧ (locF s).place = (i : Int) := by
  unfold locF at h ⊢
  by_cases hn : nul s
  · rw [if_pos hn] at h; cases h
  · rw [if_neg hn] at h ⊢
    cases hf : fnd s 39 with
    | none => rw [hf] at h; cases h
    | some i =>
      rw [hf] at h
      by_cases h35 : 35 < i
      · simp only [if_pos h35] at h; cases h
      · exact ⟨i, by omega, by simp only [if_neg h35]⟩
/-- The data of a word. -/
def decL (d v : List UInt8) : List UInt8 := bif ((locF (co (synL d v))).kind : Int) == 1 then (d.set (locF (co (synL d v))).place.toNat ((d.getD (locF (co (synL d v))).place.toNat 0) ^^^ (locF (co (synL d v))).val)).drop 4 else d.drop 4

end Go.Proofs.Ytdglhppcfdpcaaa
