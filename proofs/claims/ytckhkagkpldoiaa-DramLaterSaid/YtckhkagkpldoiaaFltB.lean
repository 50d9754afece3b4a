/- What a fault makes of one byte (the plain part of FltS). -/
import Derived.Test.YtckhkagkpldoiaaCovA
import Derived.Test.YtckhkagkpldoiaaFlX
namespace Go.Proofs.Ytckhkagkpldoiaa.E
open Go
set_option linter.unusedVariables false
/-- A byte with one bit forced. -/
def fbB (y : UInt8) (r l : Nat) : UInt8 := if y.toNat / 2 ^ r % 2 = l then y else y ^^^ UInt8.ofNat (2 ^ r)
section
variable {k p0 p1 p2 p3 c b v mode q0 q1 q2 q3 : Int} {xs : List UInt8}
theorem force_get (lx : xs.length = 72) (b v : Int) {i : Nat} (hi : i < 72) : (forceI xs b v).getD i 0 = if 0 ≤ b ∧ b < 576 ∧ i = b.toNat / 8 then fbB (xs.getD i 0) (b.toNat % 8) (lowI v) else xs.getD i 0 := by
  by_cases hb : 0 ≤ b ∧ b < 576
  · obtain ⟨p, rfl⟩ := Int.eq_ofNat_of_zero_le hb.1
    have hp : p < 576 := by omega
    unfold forceI fbB
    rw [bitI_nat, Int.toNat_natCast]
    by_cases e : (xs.getD (p / 8) 0).toNat / 2 ^ (p % 8) % 2 = lowI v
    · rw [if_pos e]
      by_cases hi2 : i = p / 8
      · rw [if_pos ⟨hb.1, hb.2, hi2⟩, hi2, if_pos e]
      · rw [if_neg fun h => hi2 h.2.2]
    · rw [if_neg e, flip_get lx hp]
      by_cases hi2 : i = p / 8
      · rw [if_pos hi2, if_pos ⟨hb.1, hb.2, hi2⟩, hi2, if_neg e]
      · rw [if_neg hi2, if_neg fun h => hi2 h.2.2]
  · rw [force_out lx hb, if_neg fun h => hb ⟨h.1, h.2.1⟩]
theorem chipB_getI (lx : xs.length = 72) (mode c : Int) (u : UInt8) {i : Nat} (hi : i < 72) : (chipB mode xs c u).getD i 0 = if (mode = 1 ∨ mode = 2) ∧ ((i % chN mode : Nat) : Int) = c then u else xs.getD i 0 := by
  by_cases hm : mode = 1 ∨ mode = 2
  · have hn : 0 < chN mode := by unfold chN; rcases hm with rfl | rfl <;> decide
    have hlt := Nat.mod_lt i hn
    by_cases hc : 0 ≤ c ∧ c < chN mode
    · obtain ⟨d, rfl⟩ := Int.eq_ofNat_of_zero_le hc.1
      rw [chipB_get hm lx (by omega) u hi]
      by_cases e : i % chN mode = d
      · rw [if_pos e, if_pos ⟨hm, by omega⟩]
      · rw [if_neg e, if_neg fun h => e (by omega)]
    · rw [chipB_out hc, if_neg fun h => hc (by omega)]
  · have hz : chN mode = 0 := by unfold chN; rw [if_neg fun h => hm (.inl h), if_neg fun h => hm (.inr h)]
    rw [chipB_out (by rw [hz]; omega), if_neg fun h => hm h.1]
/-- What a fault makes of one byte. -/
def faB (k p0 p1 p2 p3 c b v mode q0 q1 q2 q3 : Int) (i : Nat) (y : UInt8) : UInt8 :=
  bif (!(flasts k p0 p1 p2 p3 c b v)) || (!(flies k p0 p1 p2 p3 c b v q0 q1 q2 q3)) then y
  else bif k == 2 then (if 0 ≤ b ∧ b < 576 ∧ i = b.toNat / 8 then fbB y (b.toNat % 8) (lowI v) else y) else (if (mode = 1 ∨ mode = 2) ∧ ((i % chN mode : Nat) : Int) = c then u8I v else y)
theorem fa_get (lx : xs.length = 72) {i : Nat} (hi : i < 72) : (fapply k p0 p1 p2 p3 c b v mode q0 q1 q2 q3 xs).getD i 0 = faB k p0 p1 p2 p3 c b v mode q0 q1 q2 q3 i (xs.getD i 0) := by
  unfold fapply faB
  cases (!(flasts k p0 p1 p2 p3 c b v)) || (!(flies k p0 p1 p2 p3 c b v q0 q1 q2 q3))
  · rw [cond_false, cond_false]
    cases k == 2
    · rw [cond_false, cond_false]; exact chipB_getI lx mode c (u8I v) hi
    · rw [cond_true, cond_true]; exact force_get lx b v hi
  · rfl
theorem fap_ln (lx : xs.length = 72) : (fapply k p0 p1 p2 p3 c b v mode q0 q1 q2 q3 xs).length = 72 := by
  unfold fapply
  cases (!(flasts k p0 p1 p2 p3 c b v)) || (!(flies k p0 p1 p2 p3 c b v q0 q1 q2 q3))
  · rw [cond_false]
    cases k == 2
    · rw [cond_false]; exact chipB_len lx
    · rw [cond_true, forceI_len]; exact lx
  · exact lx
/-- Where a fault does something, its chip is the one that it covers. -/
theorem faB_at (hm : mode = 1 ∨ mode = 2) (i : Nat) (y : UInt8) (h : faB k p0 p1 p2 p3 c b v mode q0 q1 q2 q3 i y ≠ y) : ((i % chN mode : Nat) : Int) = fcovers k p0 p1 p2 p3 c b v mode := by
  have hn : 0 < chN mode := by unfold chN; rcases hm with rfl | rfl <;> decide
  have hlt := Nat.mod_lt i hn
  unfold faB at h
  cases h1 : (!(flasts k p0 p1 p2 p3 c b v)) || (!(flies k p0 p1 p2 p3 c b v q0 q1 q2 q3)) <;> rw [h1] at h
  · rw [cond_false] at h
    simp only [Bool.or_eq_false_iff, Bool.not_eq_false'] at h1
    have hl := h1.1
    unfold flasts at hl
    simp only [Bool.and_eq_true, decide_eq_true_eq] at hl
    cases h2 : k == 2 <;> rw [h2] at h
    · rw [cond_false] at h
      have hk : k ≠ 2 := by simpa using h2
      by_cases h3 : (mode = 1 ∨ mode = 2) ∧ ((i % chN mode : Nat) : Int) = c
      · rw [fcov_chip ⟨by omega, hl.2⟩, if_pos ⟨by omega, by omega⟩]; exact h3.2
      · rw [if_neg h3] at h; exact absurd rfl h
    · rw [cond_true] at h
      have hk : k = 2 := by simpa using h2
      by_cases h3 : 0 ≤ b ∧ b < 576 ∧ i = b.toNat / 8
      · rw [fcov_bit hm (.inr hk) h3.1 h3.2.1, h3.2.2]
      · rw [if_neg h3] at h; exact absurd rfl h
  · exact absurd rfl h
end
/-- A wide fault behind another of the same chip. -/
theorem fa_later {k p0 p1 p2 p3 c b v k' p0' p1' p2' p3' c' b' v' mode q0 q1 q2 q3 : Int} {xs : List UInt8} (hm : mode = 1 ∨ mode = 2) (lx : xs.length = 72) (hl : flasts k p0 p1 p2 p3 c b v = true) (hn : fnarrow k p0 p1 p2 p3 c b v = false) (hy : flies k p0 p1 p2 p3 c b v q0 q1 q2 q3 = true)
    (h : fcovers k' p0' p1' p2' p3' c' b' v' mode = fcovers k p0 p1 p2 p3 c b v mode) :
    fapply k p0 p1 p2 p3 c b v mode q0 q1 q2 q3 (fapply k' p0' p1' p2' p3' c' b' v' mode q0 q1 q2 q3 xs) = fapply k p0 p1 p2 p3 c b v mode q0 q1 q2 q3 xs := by
  have hk : 3 ≤ k ∧ k ≤ 5 := by
    unfold flasts at hl
    unfold fnarrow at hn
    simp only [Bool.and_eq_true, decide_eq_true_eq, Bool.or_eq_false_iff, beq_eq_false_iff_ne, ne_eq] at hl hn
    omega
  have hk2 : (k == 2) = false := by simp; omega
  have hb : ∀ i y, faB k p0 p1 p2 p3 c b v mode q0 q1 q2 q3 i y = if (mode = 1 ∨ mode = 2) ∧ ((i % chN mode : Nat) : Int) = c then u8I v else y := fun i y => by
    unfold faB
    rw [hl, hy, hk2]
    rfl
  refine eq72 (fap_ln (fap_ln lx)) (fap_ln lx) fun i hi => ?_
  rw [fa_get (fap_ln lx) hi, fa_get lx hi, fa_get lx hi, hb, hb]
  by_cases hc : (mode = 1 ∨ mode = 2) ∧ ((i % chN mode : Nat) : Int) = c
  · rw [if_pos hc, if_pos hc]
  · rw [if_neg hc, if_neg hc]
    refine Classical.byContradiction fun hne => hc ⟨hm, ?_⟩
    have hcov := faB_at hm i (xs.getD i 0) hne
    have hn : 0 < chN mode := by unfold chN; rcases hm with rfl | rfl <;> decide
    have hlt := Nat.mod_lt i hn
    rw [h, fcov_chip hk] at hcov
    split at hcov
    · exact hcov
    · omega
end Go.Proofs.Ytckhkagkpldoiaa.E
