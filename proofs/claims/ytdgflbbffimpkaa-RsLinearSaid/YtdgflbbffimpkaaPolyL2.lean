/- The polynomial of some roots; what is left of a division. No program in sight. -/
import Derived.Test.YtdgflbbffimpkaaPolyL
namespace Go.Proofs.Ytdgflbbffimpkaa

theorem co_cons0 (a : UInt8) (l : List UInt8) : co (a :: l) 0 = a := rfl
theorem co_consS (a : UInt8) (l : List UInt8) (i : Nat) : co (a :: l) (i + 1) = co l i := rfl
theorem co_nil (i : Nat) : co [] i = 0 := rfl
theorem tlL_lin (r : UInt8) : tlL [r, 1] = 2 := tlL_of (fun i hi => co_ge (show 2 ≤ i from hi)) (.inr (show (1 : UInt8) ≠ 0 by decide))
theorem xor_cancel (a c : UInt8) : a = c ^^^ (a ^^^ c) := by rw [UInt8.xor_comm a c, ← UInt8.xor_assoc, UInt8.xor_self, UInt8.zero_xor]
theorem mulL_len (p q : List UInt8) : (mulL p q).length = tlL (mulL p q) := by
  have h : tlL (mulL p q) = tlL (ofF (tlL p + tlL q) (conv (co p) (co q))) := by unfold mulL; rw [tlL_trimL]
  rw [h]; unfold mulL; rw [trimL_len]
/-- Behind k roots. -/
def rtTo (rs : List UInt8) : Nat → List UInt8
  | 0 => [1]
  | k + 1 => mulL (rtTo rs k) [co rs k, 1]
def rootsL (rs : List UInt8) : List UInt8 := rtTo rs rs.length
theorem rtTo_tl (rs : List UInt8) (k : Nat) : tlL (rtTo rs k) = k + 1 := by
  induction k with
  | zero => exact tlL_of (fun i hi => co_ge (show 1 ≤ i by omega)) (.inr (show (1 : UInt8) ≠ 0 by decide))
  | succ k ih => rw [rtTo, tlL_mulL, ih, tlL_lin, if_neg (by omega)]; omega
theorem rtTo_len (rs : List UInt8) (k : Nat) : (rtTo rs k).length = k + 1 := by
  cases k with
  | zero => rfl
  | succ k => rw [rtTo, mulL_len]; exact rtTo_tl rs (k + 1)
theorem rtTo_top (rs : List UInt8) (k : Nat) : co (rtTo rs k) k = 1 := by
  induction k with
  | zero => rfl
  | succ k ih =>
    rw [rtTo, co_mulL, conv_top _ _ k 1 (fun i hi => tlL_zero _ (by rw [rtTo_tl]; omega)) (fun i hi => tlL_zero _ (by rw [tlL_lin]; omega)), ih, co_consS, co_cons0, one_gm]
theorem eval_lin (r x : UInt8) : evalL [r, 1] x = r ^^^ x := by
  show ev (co [r, 1]) 2 x = _
  have e : ev (co [r, 1]) 2 x = (0 ^^^ gm r 1) ^^^ gm 1 (gm 1 x) := rfl
  rw [e, gm_one, one_gm, one_gm, UInt8.zero_xor]
theorem xor_zero_iff {a b : UInt8} : a ^^^ b = 0 ↔ a = b := UInt8.xor_eq_zero_iff
theorem rtTo_eval (rs : List UInt8) (k : Nat) (x : UInt8) : evalL (rtTo rs k) x = 0 ↔ ∃ i, i < k ∧ co rs i = x := by
  induction k with
  | zero =>
    have h : evalL (rtTo rs 0) x = 0 ^^^ gm 1 1 := rfl
    rw [h, one_gm]
    exact ⟨fun h => absurd h (by decide), fun ⟨i, h, _⟩ => by omega⟩
  | succ k ih =>
    rw [rtTo, evalL_mulL, eval_lin]
    constructor
    · intro h
      by_cases h1 : evalL (rtTo rs k) x = 0
      · obtain ⟨i, hi, he⟩ := ih.1 h1
        exact ⟨i, by omega, he⟩
      · by_cases h2 : co rs k ^^^ x = 0
        · exact ⟨k, by omega, xor_zero_iff.1 h2⟩
        · exact absurd h (gm_ne _ _ h1 h2)
    · rintro ⟨i, hi, he⟩
      by_cases hik : i = k
      · subst hik; rw [he, UInt8.xor_self, gm_zero]
      · rw [ih.2 ⟨i, by omega, he⟩, zero_gm]

/-- One round of a division: i: the place that is struck, d: the divisor's degree, t: the inverse of its greatest coefficient. -/
def mdStep (q : List UInt8) (d : Nat) (t : UInt8) (o : List UInt8) (i : Nat) : List UInt8 := ofF o.length fun j => if i - d ≤ j ∧ j ≤ i then co o j ^^^ gm (gm (co o i) t) (co q (j - (i - d))) else co o j
theorem mdStep_len (q : List UInt8) (d : Nat) (t : UInt8) (o : List UInt8) (i : Nat) : (mdStep q d t o i).length = o.length := ofF_len _ _
/-- Behind k rounds, from the place n - 1 down. -/
def mdTo (p q : List UInt8) (d : Nat) (t : UInt8) : Nat → List UInt8
  | 0 => p
  | k + 1 => mdStep q d t (mdTo p q d t k) (p.length - 1 - k)
theorem mdTo_len (p q : List UInt8) (d : Nat) (t : UInt8) (k : Nat) : (mdTo p q d t k).length = p.length := by
  induction k with
  | zero => rfl
  | succ k ih => rw [mdTo, mdStep_len, ih]
/-- What is left of a division of p by q, of the degree d. -/
def modL (p q : List UInt8) (t : UInt8) : List UInt8 := trimL (mdTo p q (tlL q - 1) t (p.length - (tlL q - 1)))
/-- A round takes away a multiple of the divisor, and strikes one place. -/
theorem mdStep_co {q o : List UInt8} {d : Nat} {t : UInt8} {i : Nat} (hd : tlL q = d + 1) (hdi : d ≤ i) (hi : i < o.length) (j : Nat) :
    co (mdStep q d t o i) j = co o j ^^^ conv (fun a => if a = i - d then gm (co o i) t else 0) (co q) j := by
  have hc : conv (fun a => if a = i - d then gm (co o i) t else 0) (co q) j = if i - d ≤ j then gm (gm (co o i) t) (co q (j - (i - d))) else 0 := by
    unfold conv
    by_cases h : i - d ≤ j
    · rw [if_pos h]
      have h1 : xs (j + 1) (fun a => gm (if a = i - d then gm (co o i) t else 0) (co q (j - a))) = xs (i - d + 1) (fun a => gm (if a = i - d then gm (co o i) t else 0) (co q (j - a))) :=
        xs_le (by omega) _ fun a ha => by
          show gm (if a = i - d then gm (co o i) t else 0) (co q (j - a)) = 0
          rw [if_neg (by omega), zero_gm]
      rw [h1, xs_succ, xs_zero (fun a ha => by
        show gm (if a = i - d then gm (co o i) t else 0) (co q (j - a)) = 0
        rw [if_neg (by omega), zero_gm]), if_pos rfl, UInt8.zero_xor]
    · rw [if_neg h]
      exact xs_zero fun a ha => by
        show gm (if a = i - d then gm (co o i) t else 0) (co q (j - a)) = 0
        rw [if_neg (by omega), zero_gm]
  rw [hc]
  unfold mdStep
  rw [co_ofF]
  by_cases hj : j < o.length
  · rw [if_pos hj]
    by_cases h1 : i - d ≤ j
    · rw [if_pos h1]
      by_cases h2 : j ≤ i
      · rw [if_pos ⟨h1, h2⟩]
      · rw [if_neg (by omega), tlL_zero q (by omega), gm_zero, UInt8.xor_zero]
    · rw [if_neg (by omega), if_neg h1, UInt8.xor_zero]
  · rw [if_neg hj, co_ge (p := o) (by omega)]
    split
    · rw [tlL_zero q (by omega), gm_zero]; rfl
    · rfl
theorem conv_one (f g : Nat → UInt8) (n : Nat) : conv (fun a => f a) g n = conv f g n := rfl
theorem mdTo_spec {p q : List UInt8} {d : Nat} {t : UInt8} (hd : tlL q = d + 1) (ht : gm (co q d) t = 1) (k : Nat) (hk : k ≤ p.length - d) :
    (∃ s : Nat → UInt8, (∀ i, p.length ≤ i → s i = 0) ∧ ∀ j, co p j = co (mdTo p q d t k) j ^^^ conv s (co q) j) ∧ ∀ j, p.length - k ≤ j → co (mdTo p q d t k) j = 0 := by
  induction k with
  | zero => exact ⟨⟨fun _ => 0, fun _ _ => rfl, fun j => by
      rw [show conv (fun _ => 0) (co q) j = 0 from xs_zero fun i _ => zero_gm _, UInt8.xor_zero]; rfl⟩, fun j hj => co_ge (by rw [mdTo_len]; omega)⟩
  | succ k ih =>
    obtain ⟨⟨s, hfin, hs⟩, hz⟩ := ih (by omega)
    have hl := mdTo_len p q d t k
    have hst := fun j => mdStep_co (q := q) (o := mdTo p q d t k) (d := d) (t := t) (i := p.length - 1 - k) hd (by omega) (by omega) j
    refine ⟨⟨fun a => s a ^^^ (if a = p.length - 1 - k - d then gm (co (mdTo p q d t k) (p.length - 1 - k)) t else 0), fun i hi => by
      show s i ^^^ (if i = p.length - 1 - k - d then gm (co (mdTo p q d t k) (p.length - 1 - k)) t else 0) = 0
      rw [hfin i hi, if_neg (by omega)]; rfl, fun j => ?_⟩, fun j hj => ?_⟩
    · rw [conv_xor, mdTo, hst j, hs j, UInt8.xor_assoc]
      congr 1
      exact xor_cancel _ _
    · rw [mdTo]
      unfold mdStep
      rw [co_ofF]
      by_cases hj2 : j < (mdTo p q d t k).length
      · rw [if_pos hj2]
        by_cases h3 : p.length - 1 - k = j
        · subst h3
          rw [if_pos (by omega), show p.length - 1 - k - (p.length - 1 - k - d) = d from by omega, gm_assoc, gm_comm t, ht, gm_one, UInt8.xor_self]
        · rw [if_neg (by omega)]
          exact hz j (by omega)
      · rw [if_neg hj2]
theorem modL_spec {p q : List UInt8} {t : UInt8} (h0 : 0 < tlL q) (ht : gm (co q (tlL q - 1)) t = 1) :
    (∃ s : Nat → UInt8, (∀ i, p.length ≤ i → s i = 0) ∧ ∀ j, co p j = co (modL p q t) j ^^^ conv s (co q) j) ∧ tlL (modL p q t) < tlL q := by
  obtain ⟨h1, h2⟩ := mdTo_spec (p := p) (q := q) (d := tlL q - 1) (t := t) (by omega) ht (p.length - (tlL q - 1)) (Nat.le_refl _)
  refine ⟨?_, ?_⟩
  · obtain ⟨s, hf, hs⟩ := h1
    exact ⟨s, hf, fun j => by rw [hs j]; unfold modL; rw [co_trimL]⟩
  · have h3 : tlL (modL p q t) ≤ tlL q - 1 := tlL_le_of fun i hi => by
      unfold modL
      rw [co_trimL]
      by_cases hlp : p.length ≤ tlL q - 1
      · exact co_ge (by rw [mdTo_len]; omega)
      · exact h2 i (by omega)
    omega
theorem modL_trimmed (p q : List UInt8) (t : UInt8) : tlL (modL p q t) = (modL p q t).length := by unfold modL; rw [tlL_trimL, trimL_len]

/-- A multiple of q that is of a lower degree is none. -/
theorem conv_low {s : Nat → UInt8} {q : List UInt8} {N : Nat} (hs : ∀ i, N ≤ i → s i = 0) (h0 : 0 < tlL q) (h : ∀ j, tlL q - 1 ≤ j → conv s (co q) j = 0) : ∀ i, s i = 0 := by
  induction N with
  | zero => exact fun i => hs i (by omega)
  | succ N ih =>
    refine ih fun i hi => ?_
    by_cases e : i = N
    · subst e
      have h1 := h (i + (tlL q - 1)) (by omega)
      rw [conv_top s (co q) i (tlL q - 1) (fun a ha => hs a (by omega)) (fun a ha => tlL_zero q (by omega))] at h1
      apply Classical.byContradiction
      intro hne
      exact gm_ne _ _ hne (tlL_top q (by omega)) h1
    · exact hs i (by omega)
end Go.Proofs.Ytdgflbbffimpkaa
