/- The code that corrects one symbol and detects three: distance, places, checks. No program in sight. -/
import Derived.Test.YtdgflbbffimpkaaPolyL3
namespace Go.Proofs.Ytdgflbbffimpkaa

theorem pw_mul (x : UInt8) (m n : Nat) : pw (pw x m) n = pw x (m * n) := by
  induction n with
  | zero => rfl
  | succ n ih => rw [pw, ih, Nat.mul_succ, pw_add]
theorem pw_swap (x : UInt8) (m n : Nat) : pw (pw x m) n = pw (pw x n) m := by rw [pw_mul, pw_mul, Nat.mul_comm]
/-- Sums over a list of values and elements. -/
def vs (l : List (UInt8 × UInt8)) (j : Nat) : UInt8 := l.foldr (fun p s => gm p.1 (pw p.2 j) ^^^ s) 0
theorem vs_cons (p : UInt8 × UInt8) (l : List (UInt8 × UInt8)) (j : Nat) : vs (p :: l) j = gm p.1 (pw p.2 j) ^^^ vs l j := rfl
theorem vs_step (x : UInt8) (l : List (UInt8 × UInt8)) (j : Nat) : vs (l.map fun p => (gm p.1 (p.2 ^^^ x), p.2)) j = vs l (j + 1) ^^^ gm x (vs l j) := by
  induction l with
  | nil => show (0 : UInt8) = 0 ^^^ gm x 0; rw [gm_zero]; rfl
  | cons p l ih =>
    rw [List.map_cons, vs_cons, vs_cons, vs_cons, ih, gm_xor x]
    have h : gm (gm p.1 (p.2 ^^^ x)) (pw p.2 j) = gm p.1 (pw p.2 (j + 1)) ^^^ gm x (gm p.1 (pw p.2 j)) := by
      rw [gm_xor, xor_gm, pw, gm_assoc, gm_comm p.2 (pw p.2 j), gm_assoc p.1 x, gm_left_comm p.1 x]
    rw [h, x4]
theorem vand : ∀ (l : List (UInt8 × UInt8)) (k : Nat), l.length ≤ k → l.Pairwise (fun p q => p.2 ≠ q.2) → (∀ j, j < k → vs l j = 0) → ∀ p ∈ l, p.1 = 0
  | [], _, _, _, _ => fun _ h => by cases h
  | a :: l, k, hk, hd, hs => by
    obtain ⟨k, rfl⟩ : ∃ m, k = m + 1 := ⟨k - 1, by simp at hk; omega⟩
    obtain ⟨hd1, hd2⟩ := List.pairwise_cons.1 hd
    have h1 : ∀ p ∈ l.map fun p => (gm p.1 (p.2 ^^^ a.2), p.2), p.1 = 0 := by
      refine vand _ k (by simpa using hk) ?_ fun j hj => ?_
      · rw [List.pairwise_map]; exact hd2
      · rw [vs_step]
        have e1 := hs (j + 1) (by omega)
        have e0 := hs j (by omega)
        rw [vs_cons] at e1 e0
        have e1' : vs l (j + 1) = gm a.1 (pw a.2 (j + 1)) := (UInt8.xor_eq_zero_iff.1 e1).symm
        have e0' : vs l j = gm a.1 (pw a.2 j) := (UInt8.xor_eq_zero_iff.1 e0).symm
        rw [e1', e0', pw, gm_comm (pw a.2 j) a.2, gm_left_comm, UInt8.xor_self]
    have h2 : ∀ p ∈ l, p.1 = 0 := fun p hp => by
      have h3 := h1 _ (List.mem_map_of_mem hp)
      apply Classical.byContradiction
      intro hne
      refine gm_ne _ _ hne (fun e => ?_) h3
      exact hd1 p hp (UInt8.xor_eq_zero_iff.1 e).symm
    have h4 : ∀ m : List (UInt8 × UInt8), (∀ p ∈ m, p.1 = 0) → vs m 0 = 0 := fun m => by
      induction m with
      | nil => intro _; rfl
      | cons p m ih =>
        intro hm
        rw [vs_cons, hm p (List.mem_cons_self), zero_gm, ih fun q hq => hm q (List.mem_cons_of_mem _ hq)]
        rfl
    intro p hp
    rcases List.mem_cons.1 hp with rfl | hp
    · have e0 := hs 0 (by omega)
      rw [vs_cons, h4 l h2, UInt8.xor_zero] at e0
      exact (gm_one p.1).symm.trans e0
    · exact h2 p hp
/-- The powers of two, far enough, are unlike. -/
theorem pw2_gE (i : Nat) : (pw 2 i).toNat = gE (i % 255) := by
  induction i with
  | zero => decide +kernel
  | succ i ih =>
    rw [pw, gm_toNat, ih]
    have h2 : (2 : UInt8).toNat = gE 1 := by decide +kernel
    rw [h2, gmulN_gE _ _ (Nat.mod_lt _ (by omega)) (by decide +kernel)]
    have h3 : gL (gE 1) = 1 := by decide +kernel
    rw [h3]
    congr 1
    omega
theorem gE_inj : ∀ i, i < 255 → gL (gE i) = i := by decide +kernel
theorem pw2_inj {i j : Nat} (hi : i < 255) (hj : j < 255) (h : pw 2 i = pw 2 j) : i = j := by
  have h1 := congrArg UInt8.toNat h
  rw [pw2_gE, pw2_gE, Nat.mod_eq_of_lt hi, Nat.mod_eq_of_lt hj] at h1
  rw [← gE_inj i hi, ← gE_inj j hj, h1]
theorem pw2_log {x : UInt8} (h : x ≠ 0) : pw 2 (gL x.toNat) = x := by
  have hx : x.toNat ≠ 0 := fun e => h (UInt8.toNat_inj.1 e)
  have h1 : ∀ a, a < 256 → a ≠ 0 → gL a < 255 ∧ gE (gL a) = a := by decide +kernel
  obtain ⟨h2, h3⟩ := h1 x.toNat x.toNat_lt hx
  apply UInt8.toNat_inj.1
  rw [pw2_gE, Nat.mod_eq_of_lt h2, h3]
theorem gL_lt255 {x : UInt8} (h : x ≠ 0) : gL x.toNat < 255 := by
  have hx : x.toNat ≠ 0 := fun e => h (UInt8.toNat_inj.1 e)
  have h1 : ∀ a, a < 256 → a ≠ 0 → gL a < 255 := by decide +kernel
  exact h1 x.toNat x.toNat_lt hx
/-- What few places hold is nothing, if it is 0 at the roots. -/
def supp (e : Nat → UInt8) (n : Nat) : List Nat := (List.range n).filter fun i => e i != 0
theorem supp_succ (e : Nat → UInt8) (n : Nat) : supp e (n + 1) = supp e n ++ (if e n != 0 then [n] else []) := by
  unfold supp
  rw [List.range_succ, List.filter_append]
  congr 1
  by_cases h : e n != 0
  · rw [if_pos h]; simp [List.filter, h]
  · rw [if_neg h]; simp [List.filter, h]
theorem vs_append (l m : List (UInt8 × UInt8)) (j : Nat) : vs (l ++ m) j = vs l j ^^^ vs m j := by
  induction l with
  | nil => rw [List.nil_append]; exact (UInt8.zero_xor).symm
  | cons p l ih => rw [List.cons_append, vs_cons, vs_cons, ih, UInt8.xor_assoc]
theorem vs_supp (e : Nat → UInt8) (n j : Nat) : vs ((supp e n).map fun i => (e i, pw 2 i)) j = xs n fun i => gm (e i) (pw (pw 2 j) i) := by
  induction n with
  | zero => rfl
  | succ n ih =>
    rw [supp_succ, List.map_append, vs_append, ih, xs_succ]
    congr 1
    by_cases h : e n = 0
    · rw [if_neg (by simp [h]), h, zero_gm]; rfl
    · rw [if_pos (by simp [h]), pw_swap]
      exact UInt8.xor_zero
theorem mds {e : Nat → UInt8} {n : Nat} (hn : n ≤ 255) (hw : (supp e n).length ≤ 4) (h : ∀ j, j < 4 → (xs n fun i => gm (e i) (pw (pw 2 j) i)) = 0) : ∀ i, i < n → e i = 0 := by
  intro i hi
  apply Classical.byContradiction
  intro hne
  have h1 := vand ((supp e n).map fun i => (e i, pw 2 i)) 4 (by simpa using hw) (by
    rw [List.pairwise_map]
    refine (List.Pairwise.filter _ (List.nodup_range (n := n))).imp_of_mem ?_
    intro a b ha hb hab hp
    have ha' := (List.mem_filter.1 ha).1
    have hb' := (List.mem_filter.1 hb).1
    exact hab (pw2_inj (by have := List.mem_range.1 ha'; omega) (by have := List.mem_range.1 hb'; omega) hp)) (fun j hj => by rw [vs_supp]; exact h j hj)
  exact hne (h1 _ (List.mem_map.2 ⟨i, List.mem_filter.2 ⟨List.mem_range.2 hi, by simp [hne]⟩, rfl⟩))

/-- A verdict: its kind, place and value. -/
structure Vd where
  kind : Nat
  place : Int
  val : UInt8
deriving DecidableEq
/-- Does the one place i, by itself, tell these syndromes? -/
def hit (s : Nat → UInt8) (i : Nat) : Bool := s 0 != 0 && s 1 == gm (s 0) (pw 2 i) && s 2 == gm (s 1) (pw 2 i) && s 3 == gm (s 2) (pw 2 i)
theorem hit_iff (s : Nat → UInt8) (i : Nat) : hit s i = true ↔ s 0 ≠ 0 ∧ s 1 = gm (s 0) (pw 2 i) ∧ s 2 = gm (s 1) (pw 2 i) ∧ s 3 = gm (s 2) (pw 2 i) := by
  unfold hit
  simp only [Bool.and_eq_true, bne_iff_ne, beq_iff_eq, and_assoc]
theorem gm_cancel {a x y : UInt8} (ha : a ≠ 0) (h : gm a x = gm a y) : x = y := by
  have h1 : gm a (x ^^^ y) = 0 := by rw [gm_xor, h, UInt8.xor_self]
  apply Classical.byContradiction
  intro hne
  exact gm_ne _ _ ha (fun e => hne (UInt8.xor_eq_zero_iff.1 e)) h1
theorem hit_uniq {s : Nat → UInt8} {i j : Nat} (hi : i < 255) (hj : j < 255) (h1 : hit s i = true) (h2 : hit s j = true) : i = j := by
  obtain ⟨a1, a2, _⟩ := (hit_iff s i).1 h1
  obtain ⟨_, b2, _⟩ := (hit_iff s j).1 h2
  exact pw2_inj hi hj (gm_cancel a1 (a2.symm.trans b2))
def fnd (s : Nat → UInt8) : Nat → Option Nat
  | 0 => none
  | k + 1 => match fnd s k with
    | some i => some i
    | none => if hit s k then some k else none
theorem fnd_none {s : Nat → UInt8} {k : Nat} : fnd s k = none ↔ ∀ i, i < k → hit s i = false := by
  induction k with
  | zero => exact ⟨fun _ i hi => by omega, fun _ => rfl⟩
  | succ k ih =>
    rw [fnd]
    cases h : fnd s k with
    | some i =>
      refine ⟨fun h => (by cases h), fun h2 => ?_⟩
      have := ih.2 fun i hi => h2 i (by omega)
      rw [h] at this; cases this
    | none =>
      by_cases h2 : hit s k = true
      · simp only [h2, if_true]
        exact ⟨fun h => (by cases h), fun h3 => by rw [h3 k (by omega)] at h2; cases h2⟩
      · simp only [h2]
        refine ⟨fun _ i hi => ?_, fun _ => rfl⟩
        by_cases e : i = k
        · subst e; simpa using h2
        · exact (ih.1 h) i (by omega)
theorem fnd_some {s : Nat → UInt8} {k i : Nat} (hk : k ≤ 255) (hi : i < k) (h : hit s i = true) : fnd s k = some i := by
  cases hf : fnd s k with
  | none => rw [fnd_none.1 hf i hi] at h; cases h
  | some j =>
    have key : ∀ k, fnd s k = some j → j < k ∧ hit s j = true := fun k => by
      induction k with
      | zero => intro h; cases h
      | succ k ih =>
        intro h
        rw [fnd] at h
        cases h2 : fnd s k with
        | some l =>
          rw [h2] at h
          obtain rfl := Option.some.inj h
          have := ih h2
          exact ⟨by omega, this.2⟩
        | none =>
          rw [h2] at h
          by_cases h3 : hit s k = true
          · simp only [h3, if_true] at h
            obtain rfl := Option.some.inj h
            exact ⟨by omega, h3⟩
          · simp only [h3] at h; cases h
    obtain ⟨h1, h2⟩ := key k hf
    rw [hit_uniq (by omega) (by omega) h2 h]
def nul (s : Nat → UInt8) : Prop := s 0 = 0 ∧ s 1 = 0 ∧ s 2 = 0 ∧ s 3 = 0
instance (s : Nat → UInt8) : Decidable (nul s) := by unfold nul; exact inferInstance
/-- The verdict of four syndromes. -/
def locF (s : Nat → UInt8) : Vd := if nul s then ⟨0, -1, 0⟩ else match fnd s 39 with
  | some i => if 35 < i then ⟨2, i, s 0⟩ else ⟨1, i, s 0⟩
  | none => ⟨3, -1, 0⟩
theorem locF_nul {s : Nat → UInt8} (h : nul s) : locF s = ⟨0, -1, 0⟩ := if_pos h
theorem hit_not_nul {s : Nat → UInt8} {i : Nat} (h : hit s i = true) : ¬ nul s := fun hn => ((hit_iff s i).1 h).1 hn.1
theorem locF_lo {s : Nat → UInt8} {i : Nat} (hi : i ≤ 35) (h : hit s i = true) : locF s = ⟨1, i, s 0⟩ := by
  unfold locF
  rw [if_neg (hit_not_nul h), fnd_some (by omega) (show i < 39 by omega) h]
  exact if_neg (by omega)
theorem locF_hi {s : Nat → UInt8} {i : Nat} (h1 : 35 < i) (hi : i < 39) (h : hit s i = true) : locF s = ⟨2, i, s 0⟩ := by
  unfold locF
  rw [if_neg (hit_not_nul h), fnd_some (by omega) hi h]
  exact if_pos h1
theorem locF_lost {s : Nat → UInt8} (h0 : ¬ nul s) (h : ∀ i, i < 39 → hit s i = false) : locF s = ⟨3, -1, 0⟩ := by
  unfold locF
  rw [if_neg h0, fnd_none.2 h]
theorem locF_congr {s t : Nat → UInt8} (h : ∀ i, i < 4 → s i = t i) : locF s = locF t := by
  have hh : ∀ i, hit s i = hit t i := fun i => by unfold hit; rw [h 0 (by omega), h 1 (by omega), h 2 (by omega), h 3 (by omega)]
  have hf : ∀ k, fnd s k = fnd t k := fun k => by
    induction k with
    | zero => rfl
    | succ k ih => rw [fnd, fnd, ih, hh]
  have hn : nul s ↔ nul t := by unfold nul; rw [h 0 (by omega), h 1 (by omega), h 2 (by omega), h 3 (by omega)]
  unfold locF
  by_cases hs : nul s
  · rw [if_pos hs, if_pos (hn.1 hs)]
  · rw [if_neg hs, if_neg (fun e => hs (hn.2 e)), hf, h 0 (by omega)]
/-- By its ratio. -/
theorem hit_ratio {s : Nat → UInt8} {r : UInt8} (h0 : s 0 ≠ 0) (hr : gm r (s 0) = s 1) (hr0 : r ≠ 0) (h2 : s 2 = gm (s 1) r) (h3 : s 3 = gm (s 2) r) : hit s (gL r.toNat) = true := by
  rw [hit_iff, pw2_log hr0]
  exact ⟨h0, by rw [← hr, gm_comm], h2, h3⟩
theorem no_hit_ratio {s : Nat → UInt8} {r : UInt8} (hr : gm r (s 0) = s 1) (h : r = 0 ∨ s 2 ≠ gm (s 1) r ∨ s 3 ≠ gm (s 2) r) (i : Nat) : hit s i = false := by
  cases hh : hit s i with
  | false => rfl
  | true =>
    exfalso
    obtain ⟨a0, a1, a2, a3⟩ := (hit_iff s i).1 hh
    have e : r = pw 2 i := gm_cancel a0 (by rw [gm_comm, hr, a1])
    subst e
    rcases h with h | h | h
    · have h5 := pw2_gE i
      rw [h] at h5
      have h6 : ∀ m, m < 255 → gE m ≠ 0 := by decide +kernel
      exact h6 (i % 255) (Nat.mod_lt _ (by omega)) h5.symm
    · exact h a2
    · exact h a3
end Go.Proofs.Ytdgflbbffimpkaa
