/- Polynomials: what the walks' rounds make. No program in sight. -/
import Derived.Test.YtdglhppcfdpcaaaPoQ
namespace Go.Proofs.Ytdglhppcfdpcaaa
set_option linter.unusedVariables false
theorem ofF_zero (n : Nat) (f : Nat → UInt8) (h : ∀ i, i < n → f i = 0) : ofF n f = List.replicate n 0 := by
  refine list_ext (by rw [ofF_len, List.length_replicate]) fun i hi => ?_
  rw [ofF_len] at hi
  rw [co_ofF, if_pos hi, h i hi]
  simp [co, hi]
theorem ofF_congr {n : Nat} {f g : Nat → UInt8} (h : ∀ i, i < n → f i = g i) : ofF n f = ofF n g := by
  unfold ofF
  exact List.map_congr_left fun i hi => h i (List.mem_range.1 hi)
theorem ofF_co (p : List UInt8) : ofF p.length (co p) = p := list_ext (ofF_len _ _) fun i hi => by rw [ofF_len] at hi; rw [co_ofF, if_pos hi]
/-- Behind i rounds. -/
def muF (p q : List UInt8) (i t : Nat) : UInt8 := xs i fun a => if a ≤ t then gm (co p a) (co q (t - a)) else 0
/-- And behind j steps of the next one. -/
def muIn (p q : List UInt8) (i j t : Nat) : UInt8 := muF p q i t ^^^ (if i ≤ t ∧ t < i + j then gm (co p i) (co q (t - i)) else 0)
theorem muIn_zero (p q : List UInt8) (i t : Nat) : muIn p q i 0 t = muF p q i t := by
  unfold muIn; rw [if_neg (by omega), UInt8.xor_zero]
theorem muIn_all {p q : List UInt8} (i t : Nat) : muIn p q i q.length t = muF p q (i + 1) t := by
  unfold muIn muF
  rw [xs_succ]
  congr 1
  by_cases h : i ≤ t
  · rw [if_pos h]
    by_cases h2 : t < i + q.length
    · rw [if_pos ⟨h, h2⟩]
    · rw [if_neg (by omega), co_ge (p := q) (by omega), gm_zero]
  · rw [if_neg (by omega), if_neg h]
theorem muF_all {p q : List UInt8} (t : Nat) : muF p q p.length t = conv (co p) (co q) t := by
  unfold muF conv
  have h0 : ∀ a, (t + 1 ≤ a ∨ p.length ≤ a) → (if a ≤ t then gm (co p a) (co q (t - a)) else 0) = 0 := fun a ha => by
    by_cases h : a ≤ t
    · rw [if_pos h, co_ge (p := p) (by omega), zero_gm]
    · rw [if_neg h]
  have e1 : xs (t + 1) (fun a => gm (co p a) (co q (t - a))) = xs (t + 1) fun a => if a ≤ t then gm (co p a) (co q (t - a)) else 0 := xs_congr fun i hi => by rw [if_pos (by omega)]
  rw [e1]
  rcases Nat.le_total (t + 1) p.length with h | h
  · exact xs_le h _ fun i hi => h0 i (.inl hi)
  · exact (xs_le h _ fun i hi => h0 i (.inr hi)).symm
def muTo (p q : List UInt8) (i j : Nat) : List UInt8 := ofF (p.length + q.length) (muIn p q i j)
theorem muTo_len (p q : List UInt8) (i j : Nat) : (muTo p q i j).length = p.length + q.length := ofF_len _ _
theorem muTo_start (p q : List UInt8) : muTo p q 0 0 = List.replicate (p.length + q.length) 0 := ofF_zero _ _ fun i _ => by rw [muIn_zero]; rfl
theorem muTo_next (p q : List UInt8) (i : Nat) : muTo p q i q.length = muTo p q (i + 1) 0 := ofF_congr fun t _ => by rw [muIn_all, muIn_zero]
theorem muTo_co {p q : List UInt8} {i j : Nat} (h : i + j < p.length + q.length) : co (muTo p q i j) (i + j) = muF p q i (i + j) := by
  unfold muTo
  rw [co_ofF, if_pos h]
  unfold muIn
  rw [if_neg (by omega), UInt8.xor_zero]
theorem muTo_set {p q : List UInt8} {i j : Nat} : (muTo p q i j).set (i + j) (muF p q i (i + j) ^^^ gm (co p i) (co q j)) = muTo p q i (j + 1) :=
  ofF_succ_set _ _ _ _ _ fun t _ => by
    unfold muIn
    by_cases e : t = i + j
    · subst e; rw [if_pos (by omega), if_pos rfl, Nat.add_sub_cancel_left]
    · rw [if_neg e]
      by_cases h : i ≤ t ∧ t < i + j
      · rw [if_pos (by omega), if_pos h]
      · rw [if_neg (by omega), if_neg h]
theorem muTo_all (p q : List UInt8) : trimL (muTo (trimL p) (trimL q) (tlL p) 0) = mulL p q := by
  unfold mulL muTo
  rw [trimL_len, trimL_len]
  refine trimL_congr fun t => ?_
  rw [co_ofF, co_ofF]
  split
  · have h := muF_all (p := trimL p) (q := trimL q) t
    rw [trimL_len] at h
    rw [muIn_zero, h]
    exact conv_congr (fun i _ => co_trimL p i) (fun i _ => co_trimL q i)
  · rfl

/-- Within a round: j places of the divisor are taken, times a, from the place z on. -/
def mdIn (q : List UInt8) (a : UInt8) (o : List UInt8) (z j : Nat) : List UInt8 := ofF o.length fun x => if z ≤ x ∧ x < z + j then co o x ^^^ gm a (co q (x - z)) else co o x
theorem mdIn_len (q : List UInt8) (a : UInt8) (o : List UInt8) (z j : Nat) : (mdIn q a o z j).length = o.length := ofF_len _ _
theorem mdIn_zero (q : List UInt8) (a : UInt8) (o : List UInt8) (z : Nat) : mdIn q a o z 0 = o := by
  unfold mdIn
  rw [ofF_congr (g := co o) fun i _ => if_neg (by omega)]
  exact ofF_co o
theorem mdIn_co {q : List UInt8} {a : UInt8} {o : List UInt8} {z j : Nat} (h : z + j < o.length) : co (mdIn q a o z j) (z + j) = co o (z + j) := by
  unfold mdIn
  rw [co_ofF, if_pos h, if_neg (by omega)]
theorem mdIn_set {q : List UInt8} {a : UInt8} {o : List UInt8} {z j : Nat} : (mdIn q a o z j).set (z + j) (co o (z + j) ^^^ gm a (co q j)) = mdIn q a o z (j + 1) :=
  ofF_succ_set _ _ _ _ _ fun t _ => by
    by_cases e : t = z + j
    · subst e; rw [if_pos (by omega), if_pos rfl, Nat.add_sub_cancel_left]
    · rw [if_neg e]
      by_cases h : z ≤ t ∧ t < z + j
      · rw [if_pos (by omega), if_pos h]
      · rw [if_neg (by omega), if_neg h]
theorem mdIn_all {q : List UInt8} {t : UInt8} {o : List UInt8} {d i : Nat} (h : d ≤ i) : mdIn q (gm (co o i) t) o (i - d) (d + 1) = mdStep q d t o i := by
  unfold mdIn mdStep
  refine ofF_congr fun x _ => ?_
  by_cases h1 : i - d ≤ x ∧ x < i - d + (d + 1)
  · rw [if_pos h1, if_pos (by omega)]
  · rw [if_neg h1, if_neg (by omega)]
/-- The value of what stands from a place on, as it is reckoned. -/
def hv (p : List UInt8) (x : UInt8) : Nat → UInt8
  | 0 => 0
  | j + 1 => gm (hv p x j) x ^^^ co p (p.length - 1 - j)
theorem hv_spec (p : List UInt8) (x : UInt8) (j : Nat) (hj : j ≤ p.length) : gm (hv p x j) (pw x (p.length - j)) ^^^ ev (co p) (p.length - j) x = evalL p x := by
  induction j with
  | zero => rw [hv, zero_gm, UInt8.zero_xor, Nat.sub_zero]; rfl
  | succ j ih =>
    rw [← ih (by omega), hv, xor_gm]
    obtain ⟨m, hm⟩ : ∃ m, p.length - (j + 1) = m := ⟨_, rfl⟩
    have h1 : p.length - j = m + 1 := by omega
    have h2 : p.length - 1 - j = m := by omega
    have e1 : ev (co p) (m + 1) x = ev (co p) m x ^^^ gm (co p m) (pw x m) := rfl
    rw [hm, h1, h2, e1, pw, gm_assoc, gm_comm x, UInt8.xor_assoc, UInt8.xor_comm (gm (co p m) (pw x m))]
theorem hv_all (p : List UInt8) (x : UInt8) : hv p x p.length = evalL p x := by
  have h := hv_spec p x p.length (Nat.le_refl _)
  rw [Nat.sub_self, pw, gm_one, show ev (co p) 0 x = 0 from rfl, UInt8.xor_zero] at h
  exact h
end Go.Proofs.Ytdglhppcfdpcaaa
