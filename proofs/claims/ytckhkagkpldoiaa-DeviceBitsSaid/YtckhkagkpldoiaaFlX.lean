/- Several texts in one: FltA FltM. -/
import Derived.Test.YtckhkagkpldoiaaFltR
import Derived.WalkKit
import Derived.Sort.CutIn
namespace Go.Proofs.Ytckhkagkpldoiaa
open Go.RowKit Go.Shelf
attribute [local go_sem] Oper.semAt_some
set_option linter.unusedVariables false
set_option linter.unusedSimpArgs false

theorem ite_len {c : Bool} {xs ys : List UInt8} : (bif c then xs else ys).length = bif c then xs.length else ys.length := by cases c <;> rfl
theorem bif_self {α : Type} {c : Bool} {x : α} : (bif c then x else x) = x := by cases c <;> rfl
theorem fapply_len (k p0 p1 p2 p3 c b v mode q0 q1 q2 q3 : Int) (xs : List UInt8) : (fapply k p0 p1 p2 p3 c b v mode q0 q1 q2 q3 xs).length = xs.length := by
  unfold fapply
  simp only [ite_len, forceI_len, chipB_ln, bif_self]
theorem fapply11_len (k p0 p1 p2 p3 c b v mode q0 q1 q2 q3 : Int) (xs : List UInt8) : (fapply11 k p0 p1 p2 p3 c b v mode q0 q1 q2 q3 xs).length = xs.length := by
  unfold fapply11
  simp only [ite_len, forceI_len, chipB_ln, bif_self]
end Go.Proofs.Ytckhkagkpldoiaa
namespace Go.Proofs.Ytckhkagkpldoiaa

theorem pow_tab : ∀ n : Nat, n < 1025 → 1 ≤ n → (bits .and .i64 (n : Int) ((n : Int) - 1) == 0) = (List.range 11).any fun k => (n : Int) == (2 : Int) ^ k := by decide +kernel
theorem gpower_eq {n M : Int} (hM : M ≤ 1024) : gpower n M = rpow n M := by
  by_cases h : 1 ≤ n ∧ n ≤ M
  · obtain ⟨x, rfl⟩ := Int.eq_ofNat_of_zero_le (show 0 ≤ n by omega)
    have h1 := pow_tab x (by omega) (by omega)
    unfold gpower rpow
    rw [h1, decide_eq_true h.1, decide_eq_true h.2, Bool.true_and, Bool.true_and]
    refine List.any_congr rfl fun k => ?_
    by_cases e : ((x : Nat) : Int) = (2 : Int) ^ k
    · rw [← e]; simp [h.2]
    · simp [e]
  · have h1 : gpower n M = false := by
      rw [Bool.eq_false_iff]; intro h2; exact h (gpower_in h2)
    have h2 : rpow n M = false := by
      rw [Bool.eq_false_iff]; intro h2; exact h (rpow_in h2)
    rw [h1, h2]
theorem gright_eq (r s b m c : Int) : gright r s b m c = rright r s b m c := by
  unfold gright rright
  rw [gpower_eq (by decide), gpower_eq (by decide), gpower_eq (by decide), gpower_eq (by decide)]
  cases rpow r 8 <;> cases rpow b 16 <;> cases rpow m 1024 <;> cases rpow c 64 <;> simp
  by_cases h1 : 0 ≤ s <;> by_cases h2 : s ≤ 8 - r
  · rw [decide_eq_true h1, decide_eq_true h2, decide_eq_false (show ¬ s < 0 by omega), decide_eq_false (show ¬ 8 - r < s by omega)]; rfl
  · rw [decide_eq_false h2, decide_eq_true (show 8 - r < s by omega)]; simp
  · rw [decide_eq_false h1, decide_eq_true (show s < 0 by omega)]; simp
  · rw [decide_eq_false h1, decide_eq_true (show s < 0 by omega)]; simp
theorem gbelow_eq (i n : Int) : gbelow i n = (!(decide (i < 0)) && decide (i < n)) := by
  unfold gbelow
  by_cases h : 0 ≤ i
  · rw [decide_eq_true h, decide_eq_false (show ¬ i < 0 by omega)]; rfl
  · rw [decide_eq_false h, decide_eq_true (show i < 0 by omega)]; rfl
theorem gholds_eq (r s b m c p0 p1 p2 p3 : Int) : gholds r s b m c p0 p1 p2 p3 = rholds r s b m c p0 p1 p2 p3 := by
  unfold gholds rholds
  rw [gright_eq, gbelow_eq, gbelow_eq, gbelow_eq, gbelow_eq]
  cases rright r s b m c <;> cases decide (p0 < 0) <;> cases decide (p1 < 0) <;> cases decide (p2 < 0) <;> cases decide (p3 < 0) <;> simp
theorem flies_eq (k p0 p1 p2 p3 c b v q0 q1 q2 q3 : Int) : flies k p0 p1 p2 p3 c b v q0 q1 q2 q3 = flies11 k p0 p1 p2 p3 c b v q0 q1 q2 q3 := by
  unfold flies flies11
  by_cases h1 : k = 1
  · simp [h1]
  by_cases h2 : k = 2
  · simp [h2]
  by_cases h3 : k = 3
  · subst h3; simp [Bool.decide_and, Bool.and_assoc]; rfl
  by_cases h4 : k = 4
  · subst h4; simp [Bool.decide_and, Bool.and_assoc]; rfl
  by_cases h5 : k = 5
  · subst h5; simp
  rw [beq_eq_false_iff_ne.2 h1, beq_eq_false_iff_ne.2 h2, beq_eq_false_iff_ne.2 h3, beq_eq_false_iff_ne.2 h4, beq_eq_false_iff_ne.2 h5]
  rfl
theorem fapply_eq (k p0 p1 p2 p3 c b v mode q0 q1 q2 q3 : Int) (xs : List UInt8) : fapply k p0 p1 p2 p3 c b v mode q0 q1 q2 q3 xs = fapply11 k p0 p1 p2 p3 c b v mode q0 q1 q2 q3 xs := by
  unfold fapply fapply11
  rw [flies_eq]
  have : (!flasts k p0 p1 p2 p3 c b v) = (decide (k < 2) || decide (5 < k)) := by
    unfold flasts
    by_cases h1 : 2 ≤ k <;> by_cases h2 : k ≤ 5 <;> simp [h1, h2] <;> omega
  rw [this]
theorem right_chN (mode : Int) : rightB mode = decide ((chN mode : Int) ≠ 0) := by
  unfold rightB chN
  rcases modes mode with rfl | rfl | ⟨h1, h2⟩
  · rfl
  · rfl
  · rw [if_neg h1, if_neg h2, beq_eq_false_iff_ne.2 h1, beq_eq_false_iff_ne.2 h2]; rfl
theorem fright_eq (k p0 p1 p2 p3 c b v r s n m l mode : Int) : fright k p0 p1 p2 p3 c b v r s n m l mode = fright11 k p0 p1 p2 p3 c b v r s n m l mode := by
  unfold fright fright11
  rw [gholds_eq, right_chN]
  have hN : 0 ≤ (chN mode : Int) := by omega
  obtain ⟨N, hn⟩ : ∃ N : Int, (chN mode : Int) = N := ⟨_, rfl⟩
  rw [hn] at hN ⊢
  obtain ⟨H, hH⟩ : ∃ H, rholds r s n m l p0 p1 p2 p3 = H := ⟨_, rfl⟩
  rw [hH]
  cases H
  · simp [Bool.cond_eq_ite]
  rcases (show k = 1 ∨ k = 2 ∨ k = 3 ∨ k = 4 ∨ k = 5 ∨ k = 6 ∨ k = 7 ∨ k < 1 ∨ 7 < k by omega) with h | h | h | h | h | h | h | h | h
  · subst h
    rw [Bool.eq_iff_iff]
    simp [fbare_1, fbare_2, fbare_3, fbare_4, fbare_5, fbare_6, fbare_7, fbelow, Bool.cond_eq_ite]
    omega
  · subst h
    rw [Bool.eq_iff_iff]
    simp [fbare_1, fbare_2, fbare_3, fbare_4, fbare_5, fbare_6, fbare_7, fbelow, Bool.cond_eq_ite]
    omega
  · subst h
    rw [Bool.eq_iff_iff]
    simp [fbare_1, fbare_2, fbare_3, fbare_4, fbare_5, fbare_6, fbare_7, fbelow, Bool.cond_eq_ite]
    omega
  · subst h
    rw [Bool.eq_iff_iff]
    simp [fbare_1, fbare_2, fbare_3, fbare_4, fbare_5, fbare_6, fbare_7, fbelow, Bool.cond_eq_ite]
    omega
  · subst h
    rw [Bool.eq_iff_iff]
    simp [fbare_1, fbare_2, fbare_3, fbare_4, fbare_5, fbare_6, fbare_7, fbelow, Bool.cond_eq_ite]
    omega
  · subst h
    rw [Bool.eq_iff_iff]
    simp [fbare_1, fbare_2, fbare_3, fbare_4, fbare_5, fbare_6, fbare_7, fbelow, Bool.cond_eq_ite]
    omega
  · subst h
    rw [Bool.eq_iff_iff]
    simp [fbare_1, fbare_2, fbare_3, fbare_4, fbare_5, fbare_6, fbare_7, fbelow, Bool.cond_eq_ite]
    omega
  · rw [decide_eq_false (show ¬ 1 ≤ k by omega), decide_eq_true h]
    simp
  · rw [decide_eq_false (show ¬ k ≤ 7 by omega), decide_eq_true h]
    simp
end Go.Proofs.Ytckhkagkpldoiaa
