/- Polynomials as lists of bytes, trimmed: sums, products, multiples, shifts. No program in sight. -/
import Derived.Test.YtdgflbbffimpkaaPolyM
namespace Go.Proofs.Ytdgflbbffimpkaa

/-- A coefficient. -/
def co (p : List UInt8) (i : Nat) : UInt8 := p.getD i 0
theorem co_of_lt {p : List UInt8} {i : Nat} (h : i < p.length) : co p i = p[i] := by simp [co, h]
theorem co_ge {p : List UInt8} {i : Nat} (h : p.length ≤ i) : co p i = 0 := by simp [co, h]
/-- The trimmed length of the first k places. -/
def tl (p : List UInt8) : Nat → Nat
  | 0 => 0
  | k + 1 => if co p k = 0 then tl p k else k + 1
def tlL (p : List UInt8) : Nat := tl p p.length
theorem tl_le (p : List UInt8) (k : Nat) : tl p k ≤ k := by
  induction k with
  | zero => exact Nat.le_refl 0
  | succ k ih => rw [tl]; split <;> omega
theorem tl_zero (p : List UInt8) (k : Nat) : ∀ i, tl p k ≤ i → i < k → co p i = 0 := by
  induction k with
  | zero => intro i _ h; omega
  | succ k ih =>
    intro i h1 h2
    rw [tl] at h1
    by_cases h0 : co p k = 0
    · rw [if_pos h0] at h1
      by_cases hik : i = k
      · rw [hik]; exact h0
      · exact ih i h1 (by omega)
    · rw [if_neg h0] at h1; omega
theorem tl_top (p : List UInt8) (k : Nat) : ∀ t, tl p k = t + 1 → co p t ≠ 0 := by
  induction k with
  | zero => intro t h; rw [tl] at h; omega
  | succ k ih =>
    intro t h
    rw [tl] at h
    by_cases h0 : co p k = 0
    · rw [if_pos h0] at h; exact ih t h
    · rw [if_neg h0] at h
      obtain rfl : k = t := by omega
      exact h0
theorem tlL_le (p : List UInt8) : tlL p ≤ p.length := tl_le p _
theorem tlL_zero (p : List UInt8) {i : Nat} (h : tlL p ≤ i) : co p i = 0 := by
  by_cases hl : i < p.length
  · exact tl_zero p _ i h hl
  · exact co_ge (by omega)
theorem tlL_top (p : List UInt8) {t : Nat} (h : tlL p = t + 1) : co p t ≠ 0 := tl_top p _ t h
theorem tlL_lt {p : List UInt8} {i : Nat} (h : co p i ≠ 0) : i < tlL p := Nat.lt_of_not_le fun h2 => h (tlL_zero p h2)
/-- The trimmed length is told by the coefficients alone. -/
theorem tlL_of {p : List UInt8} {n : Nat} (h0 : ∀ i, n ≤ i → co p i = 0) (h1 : n = 0 ∨ co p (n - 1) ≠ 0) : tlL p = n := by
  rcases Nat.lt_trichotomy (tlL p) n with h | h | h
  · rcases h1 with h1 | h1
    · omega
    · exact absurd (tlL_zero p (show tlL p ≤ n - 1 by omega)) h1
  · exact h
  · have := tlL_top p (t := tlL p - 1) (by omega)
    exact absurd (h0 _ (by omega)) this
theorem tlL_congr {p q : List UInt8} (h : ∀ i, co p i = co q i) : tlL p = tlL q := by
  refine tlL_of (fun i hi => by rw [h]; exact tlL_zero q hi) ?_
  by_cases h0 : tlL q = 0
  · exact .inl h0
  · exact .inr (by rw [h]; exact tlL_top q (by omega))
theorem tlL_le_of {p : List UInt8} {n : Nat} (h0 : ∀ i, n ≤ i → co p i = 0) : tlL p ≤ n := by
  apply Nat.le_of_not_lt
  intro h
  exact tlL_top p (t := tlL p - 1) (by omega) (h0 _ (by omega))
/-- Without noughts at the end. -/
def trimL (p : List UInt8) : List UInt8 := p.take (tlL p)
theorem trimL_len (p : List UInt8) : (trimL p).length = tlL p := by unfold trimL; rw [List.length_take]; have := tlL_le p; omega
theorem co_trimL (p : List UInt8) (i : Nat) : co (trimL p) i = co p i := by
  by_cases h : i < tlL p
  · unfold co trimL; rw [List.getD_eq_getElem?_getD, List.getD_eq_getElem?_getD, List.getElem?_take_of_lt h]
  · rw [tlL_zero p (by omega), co_ge (by rw [trimL_len]; omega)]
theorem tlL_trimL (p : List UInt8) : tlL (trimL p) = tlL p := tlL_congr (co_trimL p)
theorem trimL_trimL (p : List UInt8) : trimL (trimL p) = trimL p := by
  unfold trimL
  rw [show tlL (List.take (tlL p) p) = tlL p from tlL_trimL p, List.take_take, Nat.min_self]
theorem list_ext {p q : List UInt8} (hl : p.length = q.length) (h : ∀ i, i < p.length → co p i = co q i) : p = q := by
  refine List.ext_getElem hl fun i h1 h2 => ?_
  have := h i h1
  rwa [co_of_lt h1, co_of_lt h2] at this
theorem trimL_congr {p q : List UInt8} (h : ∀ i, co p i = co q i) : trimL p = trimL q :=
  list_ext (by rw [trimL_len, trimL_len, tlL_congr h]) fun i _ => by rw [co_trimL, co_trimL, h]
/-- The list of the first n of a function. -/
def ofF (n : Nat) (f : Nat → UInt8) : List UInt8 := (List.range n).map f
theorem ofF_len (n : Nat) (f : Nat → UInt8) : (ofF n f).length = n := by simp [ofF]
theorem co_ofF (n : Nat) (f : Nat → UInt8) (i : Nat) : co (ofF n f) i = if i < n then f i else 0 := by
  by_cases h : i < n
  · rw [if_pos h, co_of_lt (by rw [ofF_len]; exact h)]; simp [ofF]
  · rw [if_neg h, co_ge (by rw [ofF_len]; omega)]
theorem co_ofF_all {n : Nat} {f : Nat → UInt8} (h : ∀ i, n ≤ i → f i = 0) (i : Nat) : co (ofF n f) i = f i := by
  rw [co_ofF]; split
  · rfl
  · exact (h i (by omega)).symm
theorem ofF_succ_set (n : Nat) (f g : Nat → UInt8) (k : Nat) (v : UInt8) (hg : ∀ i, i < n → g i = if i = k then v else f i) : (ofF n f).set k v = ofF n g := by
  refine List.ext_getElem (by rw [List.length_set, ofF_len, ofF_len]) fun i h1 h2 => ?_
  rw [List.length_set, ofF_len] at h1
  rw [List.getElem_set]
  simp only [ofF, List.getElem_map, List.getElem_range]
  rw [hg i h1]
  by_cases e : k = i
  · rw [if_pos e, if_pos e.symm]
  · rw [if_neg e, if_neg (Ne.symm e)]

def addL (p q : List UInt8) : List UInt8 := trimL (ofF (max p.length q.length) fun i => co p i ^^^ co q i)
theorem co_addL (p q : List UInt8) (i : Nat) : co (addL p q) i = co p i ^^^ co q i := by
  unfold addL
  rw [co_trimL, co_ofF_all]
  intro i hi
  rw [co_ge (by omega), co_ge (by omega)]; rfl
theorem addL_comm (p q : List UInt8) : addL p q = addL q p := by
  unfold addL
  rw [Nat.max_comm]
  congr 1
  unfold ofF
  exact List.map_congr_left fun i _ => UInt8.xor_comm _ _
def scaleL (p : List UInt8) (a : UInt8) : List UInt8 := trimL (ofF p.length fun i => gm a (co p i))
theorem co_scaleL (p : List UInt8) (a : UInt8) (i : Nat) : co (scaleL p a) i = gm a (co p i) := by
  unfold scaleL
  rw [co_trimL, co_ofF_all]
  intro i hi
  rw [co_ge (by omega), gm_zero]
def shiftL (p : List UInt8) (n : Nat) : List UInt8 := trimL (List.replicate n 0 ++ p)
theorem co_shiftL (p : List UInt8) (n i : Nat) : co (shiftL p n) i = if i < n then 0 else co p (i - n) := by
  unfold shiftL
  rw [co_trimL]
  unfold co
  rw [List.getD_eq_getElem?_getD, List.getD_eq_getElem?_getD]
  by_cases h : i < n
  · rw [if_pos h, List.getElem?_append_left (by simpa using h), List.getElem?_replicate, if_pos h]; rfl
  · rw [if_neg h, List.getElem?_append_right (by simp; omega), List.length_replicate]
def mulL (p q : List UInt8) : List UInt8 := trimL (ofF (tlL p + tlL q) (conv (co p) (co q)))
theorem co_mulL (p q : List UInt8) (i : Nat) : co (mulL p q) i = conv (co p) (co q) i := by
  unfold mulL
  rw [co_trimL, co_ofF_all]
  intro i hi
  exact conv_zero _ _ (tlL p) (tlL q) (fun _ h => tlL_zero p h) (fun _ h => tlL_zero q h) i (by omega)
def evalL (p : List UInt8) (x : UInt8) : UInt8 := ev (co p) p.length x
theorem evalL_eq (p : List UInt8) (x : UInt8) {n : Nat} (h : ∀ i, n ≤ i → co p i = 0) : evalL p x = ev (co p) n x := by
  unfold evalL
  rcases Nat.le_total n p.length with h1 | h1
  · exact ev_le _ h1 x h
  · exact (ev_le _ h1 x (fun i hi => co_ge hi)).symm
theorem evalL_congr {p q : List UInt8} (x : UInt8) (h : ∀ i, co p i = co q i) : evalL p x = evalL q x := by
  rw [evalL_eq p x (n := max p.length q.length) (fun i hi => co_ge (by omega)), evalL_eq q x (n := max p.length q.length) (fun i hi => co_ge (by omega))]
  exact ev_congr x (fun i _ => h i)
theorem evalL_trimL (p : List UInt8) (x : UInt8) : evalL (trimL p) x = evalL p x := evalL_congr x (co_trimL p)
theorem evalL_addL (p q : List UInt8) (x : UInt8) : evalL (addL p q) x = evalL p x ^^^ evalL q x := by
  rw [evalL_eq p x (n := max p.length q.length) (fun i hi => co_ge (by omega)), evalL_eq q x (n := max p.length q.length) (fun i hi => co_ge (by omega)),
    evalL_eq (addL p q) x (n := max p.length q.length) (fun i hi => by rw [co_addL, co_ge (by omega), co_ge (by omega)]; rfl), ← ev_xor]
  exact ev_congr x (fun i _ => co_addL p q i)
theorem evalL_scaleL (p : List UInt8) (a x : UInt8) : evalL (scaleL p a) x = gm a (evalL p x) := by
  rw [evalL_eq (scaleL p a) x (n := p.length) (fun i hi => by rw [co_scaleL, co_ge hi, gm_zero])]
  unfold evalL
  rw [← ev_gm]
  exact ev_congr x (fun i _ => co_scaleL p a i)
theorem evalL_mulL (p q : List UInt8) (x : UInt8) : evalL (mulL p q) x = gm (evalL p x) (evalL q x) := by
  rw [evalL_eq (mulL p q) x (n := p.length + q.length) (fun i hi => by rw [co_mulL]; exact conv_zero _ _ p.length q.length (fun _ h => co_ge h) (fun _ h => co_ge h) i (by omega)),
    ev_congr x (fun i _ => co_mulL p q i)]
  exact ev_conv _ _ p.length q.length x (fun _ h => co_ge h) (fun _ h => co_ge h) _ (Nat.le_refl _)
theorem evalL_shiftL (p : List UInt8) (n : Nat) (x : UInt8) : evalL (shiftL p n) x = gm (evalL p x) (pw x n) := by
  rw [evalL_eq (shiftL p n) x (n := n + p.length) (fun i hi => by rw [co_shiftL]; split; · rfl
                                                                  · exact co_ge (by omega))]
  have key : ∀ m, ev (co (shiftL p n)) (n + m) x = gm (ev (co p) m x) (pw x n) := by
    intro m
    induction m with
    | zero =>
      rw [Nat.add_zero]
      have : ev (co (shiftL p n)) n x = 0 := xs_zero (fun i hi => by rw [co_shiftL, if_pos hi, zero_gm])
      rw [this]; exact (zero_gm _).symm
    | succ m ih =>
      have e1 : ev (co p) (m + 1) x = ev (co p) m x ^^^ gm (co p m) (pw x m) := rfl
      have e2 : ev (co (shiftL p n)) (n + m + 1) x = ev (co (shiftL p n)) (n + m) x ^^^ gm (co (shiftL p n) (n + m)) (pw x (n + m)) := rfl
      rw [← Nat.add_assoc, e2, ih, e1, xor_gm, co_shiftL, if_neg (by omega), Nat.add_sub_cancel_left, Nat.add_comm n m, pw_add, gm_assoc]
  exact key p.length
theorem mulL_comm (p q : List UInt8) : mulL p q = mulL q p := by
  unfold mulL
  refine trimL_congr fun i => ?_
  rw [Nat.add_comm, co_ofF, co_ofF, conv_comm]
theorem co_mulL_congr {p p' q q' : List UInt8} (h : ∀ i, co p i = co p' i) (h' : ∀ i, co q i = co q' i) (i : Nat) : co (mulL p q) i = co (mulL p' q') i := by
  rw [co_mulL, co_mulL]; exact conv_congr (fun i _ => h i) (fun i _ => h' i)
/-- Degrees add up. -/
theorem tlL_mulL (p q : List UInt8) : tlL (mulL p q) = if tlL p = 0 ∨ tlL q = 0 then 0 else tlL p + tlL q - 1 := by
  split
  · rename_i h
    refine tlL_of (fun i _ => ?_) (.inl rfl)
    rw [co_mulL]
    rcases h with h | h
    · exact xs_zero (fun j _ => by rw [tlL_zero p (by omega), zero_gm])
    · exact xs_zero (fun j _ => by rw [tlL_zero q (by omega), gm_zero])
  · rename_i h
    refine tlL_of (fun i hi => ?_) (.inr ?_)
    · rw [co_mulL]
      exact conv_zero _ _ (tlL p) (tlL q) (fun _ h => tlL_zero p h) (fun _ h => tlL_zero q h) i (by omega)
    · rw [co_mulL, show tlL p + tlL q - 1 - 1 = (tlL p - 1) + (tlL q - 1) from by omega,
        conv_top _ _ _ _ (fun i hi => tlL_zero p (by omega)) (fun i hi => tlL_zero q (by omega))]
      exact gm_ne _ _ (tlL_top p (by omega)) (tlL_top q (by omega))
end Go.Proofs.Ytdgflbbffimpkaa
