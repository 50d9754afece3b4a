/- Several texts in one: PolyM PolyL PolyL2 PolyL3. -/
import Derived.Test.YtdglhppcfdpcaaaGfQ
namespace Go.Proofs.Ytdglhppcfdpcaaa

/-- The sum of the first n. -/
def xs (n : Nat) (f : Nat → UInt8) : UInt8 :=
  match n with
  | 0 => 0
  | n + 1 => xs n f ^^^ f n
theorem xs_succ (n : Nat) (f : Nat → UInt8) : xs (n + 1) f = xs n f ^^^ f n := rfl
theorem xs_congr {n : Nat} {f g : Nat → UInt8} (h : ∀ i, i < n → f i = g i) : xs n f = xs n g := by
  induction n with
  | zero => rfl
  | succ n ih => rw [xs, xs, ih (fun i hi => h i (by omega)), h n (by omega)]
theorem xs_zero {n : Nat} {f : Nat → UInt8} (h : ∀ i, i < n → f i = 0) : xs n f = 0 := by
  induction n with
  | zero => rfl
  | succ n ih => rw [xs, ih (fun i hi => h i (by omega)), h n (by omega), UInt8.xor_zero]
theorem xs_xor (n : Nat) (f g : Nat → UInt8) : xs n (fun i => f i ^^^ g i) = xs n f ^^^ xs n g := by
  induction n with
  | zero => exact (UInt8.xor_self (a := 0)).symm
  | succ n ih => rw [xs, xs, xs, ih, x4]
theorem xs_gm (c : UInt8) (n : Nat) (f : Nat → UInt8) : xs n (fun i => gm c (f i)) = gm c (xs n f) := by
  induction n with
  | zero => exact (gm_zero c).symm
  | succ n ih => rw [xs, xs, ih, gm_xor]
theorem xs_mg (c : UInt8) (n : Nat) (f : Nat → UInt8) : xs n (fun i => gm (f i) c) = gm (xs n f) c := by
  rw [gm_comm, ← xs_gm]; exact xs_congr (fun i _ => gm_comm _ _)
theorem xs_more (n d : Nat) (f : Nat → UInt8) (h : ∀ i, n ≤ i → f i = 0) : xs (n + d) f = xs n f := by
  induction d with
  | zero => rfl
  | succ d ih => rw [← Nat.add_assoc, xs, ih, h (n + d) (by omega), UInt8.xor_zero]
theorem xs_le {n m : Nat} (hnm : n ≤ m) (f : Nat → UInt8) (h : ∀ i, n ≤ i → f i = 0) : xs m f = xs n f := by
  have := xs_more n (m - n) f h
  rwa [show n + (m - n) = m from by omega] at this
theorem xs_tri (n : Nat) (F : Nat → Nat → UInt8) : xs (n + 1) (fun i => xs (i + 1) (fun j => F j (i - j))) = xs (n + 1) (fun j => xs (n - j + 1) (fun k => F j k)) := by
  induction n with
  | zero => rfl
  | succ n ih =>
    rw [xs_succ, ih, xs_succ (n + 1) (fun j => xs (n + 1 - j + 1) (fun k => F j k))]
    have h1 : xs (n + 1) (fun j => xs (n + 1 - j + 1) (fun k => F j k)) = xs (n + 1) (fun j => xs (n - j + 1) (fun k => F j k)) ^^^ xs (n + 1) (fun j => F j (n + 1 - j)) := by
      rw [← xs_xor]
      refine xs_congr (fun j hj => ?_)
      rw [show n + 1 - j + 1 = (n - j + 1) + 1 from by omega, xs, show n - j + 1 = n + 1 - j from by omega]
    rw [h1, xs_succ (n + 1) (fun j => F j (n + 1 - j)), UInt8.xor_assoc]
    congr 2
    rw [Nat.sub_self]
    exact (UInt8.zero_xor).symm

/-- The product of two polynomials, place by place. -/
def conv (f g : Nat → UInt8) (n : Nat) : UInt8 := xs (n + 1) (fun i => gm (f i) (g (n - i)))
theorem conv_congr {f f' g g' : Nat → UInt8} {n : Nat} (h : ∀ i, i ≤ n → f i = f' i) (h' : ∀ i, i ≤ n → g i = g' i) : conv f g n = conv f' g' n :=
  xs_congr (fun i hi => by rw [h i (by omega), h' (n - i) (by omega)])
theorem conv_xor (f g h : Nat → UInt8) (n : Nat) : conv (fun i => f i ^^^ g i) h n = conv f h n ^^^ conv g h n := by
  unfold conv
  rw [← xs_xor]
  exact xs_congr (fun i _ => xor_gm _ _ _)
theorem conv_zero (f g : Nat → UInt8) (M N : Nat) (hf : ∀ i, M ≤ i → f i = 0) (hg : ∀ i, N ≤ i → g i = 0) (n : Nat) (h : M + N ≤ n + 1) : conv f g n = 0 := by
  refine xs_zero (fun i _ => ?_)
  by_cases hi : M ≤ i
  · rw [hf i hi, zero_gm]
  · rw [hg (n - i) (by omega), gm_zero]
/-- The product's greatest coefficient. -/
theorem conv_top (f g : Nat → UInt8) (M N : Nat) (hf : ∀ i, M < i → f i = 0) (hg : ∀ i, N < i → g i = 0) : conv f g (M + N) = gm (f M) (g N) := by
  unfold conv
  have h1 : xs (M + N + 1) (fun i => gm (f i) (g (M + N - i))) = xs (M + 1) (fun i => gm (f i) (g (M + N - i))) :=
    xs_le (by omega) _ (fun i hi => by rw [hf i (by omega), zero_gm])
  rw [h1, xs, xs_zero (fun i hi => by rw [hg (M + N - i) (by omega), gm_zero]), UInt8.zero_xor, show M + N - M = N from by omega]

/-- A power. -/
def pw (x : UInt8) : Nat → UInt8
  | 0 => 1
  | n + 1 => gm (pw x n) x
theorem pw_add (x : UInt8) (m n : Nat) : pw x (m + n) = gm (pw x m) (pw x n) := by
  induction n with
  | zero => rw [Nat.add_zero, pw, gm_one]
  | succ n ih => rw [← Nat.add_assoc, pw, ih, pw, gm_assoc]
/-- The value at x of a polynomial with N places. -/
def ev (f : Nat → UInt8) (N : Nat) (x : UInt8) : UInt8 := xs N (fun i => gm (f i) (pw x i))
theorem ev_le (f : Nat → UInt8) {N M : Nat} (h : N ≤ M) (x : UInt8) (hf : ∀ i, N ≤ i → f i = 0) : ev f M x = ev f N x :=
  xs_le h _ (fun i hi => by rw [hf i hi, zero_gm])
theorem ev_congr {f g : Nat → UInt8} {N : Nat} (x : UInt8) (h : ∀ i, i < N → f i = g i) : ev f N x = ev g N x := xs_congr (fun i hi => by rw [h i hi])
theorem ev_xor (f g : Nat → UInt8) (N : Nat) (x : UInt8) : ev (fun i => f i ^^^ g i) N x = ev f N x ^^^ ev g N x := by
  unfold ev
  rw [← xs_xor]
  exact xs_congr (fun i _ => xor_gm _ _ _)
theorem ev_conv (f g : Nat → UInt8) (M N : Nat) (x : UInt8) (hf : ∀ i, M ≤ i → f i = 0) (hg : ∀ i, N ≤ i → g i = 0) (T : Nat) (hT : M + N ≤ T) : ev (conv f g) T x = gm (ev f M x) (ev g N x) := by
  have hc : ∀ i, M + N ≤ i → conv f g i = 0 := fun i hi => conv_zero f g M N hf hg i (by omega)
  rw [ev_le _ hT x hc]
  obtain ⟨n, hn⟩ : ∃ n, M + N + 1 = n + 1 := ⟨M + N, rfl⟩
  have e1 : ev (conv f g) (M + N) x = ev (conv f g) (n + 1) x := (ev_le _ (by omega) x hc).symm
  rw [e1]
  have e2 : ev (conv f g) (n + 1) x = xs (n + 1) (fun i => xs (i + 1) (fun j => (fun a b => gm (gm (f a) (g b)) (pw x (a + b))) j (i - j))) :=
    xs_congr (fun i _ => by
      unfold conv
      rw [← xs_mg]
      exact xs_congr (fun j hj => by show _ = gm (gm (f j) (g (i - j))) (pw x (j + (i - j))); rw [show j + (i - j) = i from by omega]))
  refine e2.trans ((xs_tri n (fun a b => gm (gm (f a) (g b)) (pw x (a + b)))).trans ?_)
  have e3 : xs (n + 1) (fun j => xs (n - j + 1) (fun k => gm (gm (f j) (g k)) (pw x (j + k)))) = xs M (fun j => xs (n - j + 1) (fun k => gm (gm (f j) (g k)) (pw x (j + k)))) :=
    xs_le (by omega) _ (fun j hj => xs_zero (fun k _ => by rw [hf j hj, zero_gm, zero_gm]))
  rw [e3]
  have e4 : ∀ j, j < M → xs (n - j + 1) (fun k => gm (gm (f j) (g k)) (pw x (j + k))) = gm (gm (f j) (pw x j)) (ev g N x) := by
    intro j hj
    rw [xs_le (n := N) (by omega) _ (fun k hk => by rw [hg k hk, gm_zero, zero_gm])]
    unfold ev
    rw [← xs_gm]
    refine xs_congr (fun k _ => ?_)
    rw [pw_add, gm_assoc, gm_assoc, gm_left_comm (g k) (pw x j)]
  rw [xs_congr e4, xs_mg]
  rfl
end Go.Proofs.Ytdglhppcfdpcaaa
namespace Go.Proofs.Ytdglhppcfdpcaaa

/-- A coefficient. -/
def co (p : List UInt8) (i : Nat) : UInt8 := p.getD i 0
theorem co_of_lt {p : List UInt8} {i : Nat} (h : i < p.length) : co p i = p[i] := by simp [co, h]
theorem co_ge {p : List UInt8} {i : Nat} (h : p.length ≤ i) : co p i = 0 := by simp [co, h]
/-- The trimmed length of the first k places. -/
def tl (p : List UInt8) : Nat → Nat
  | 0 => 0
  | k + 1 => if co p k = 0 then tl p k else k + 1
def tlL (p : List UInt8) : Nat := tl p p.length
theorem tl_le (p : List UInt8) (k : Nat) : tl p k ≤ k := by
  induction k with
  | zero => exact Nat.le_refl 0
  | succ k ih => rw [tl]; split <;> omega
theorem tl_zero (p : List UInt8) (k : Nat) : ∀ i, tl p k ≤ i → i < k → co p i = 0 := by
  induction k with
  | zero => intro i _ h; omega
  | succ k ih =>
    intro i h1 h2
    rw [tl] at h1
    by_cases h0 : co p k = 0
    · rw [if_pos h0] at h1
      by_cases hik : i = k
      · rw [hik]; exact h0
      · exact ih i h1 (by omega)
    · rw [if_neg h0] at h1; omega
theorem tl_top (p : List UInt8) (k : Nat) : ∀ t, tl p k = t + 1 → co p t ≠ 0 := by
  induction k with
  | zero => intro t h; rw [tl] at h; omega
  | succ k ih =>
    intro t h
    rw [tl] at h
    by_cases h0 : co p k = 0
    · rw [if_pos h0] at h; exact ih t h
    · rw [if_neg h0] at h
      obtain rfl : k = t := by omega
      exact h0
theorem tlL_le (p : List UInt8) : tlL p ≤ p.length := tl_le p _
theorem tlL_zero (p : List UInt8) {i : Nat} (h : tlL p ≤ i) : co p i = 0 := by
  by_cases hl : i < p.length
  · exact tl_zero p _ i h hl
  · exact co_ge (by omega)
theorem tlL_top (p : List UInt8) {t : Nat} (h : tlL p = t + 1) : co p t ≠ 0 := tl_top p _ t h
/-- The trimmed length is told by the coefficients alone. -/
theorem tlL_of {p : List UInt8} {n : Nat} (h0 : ∀ i, n ≤ i → co p i = 0) (h1 : n = 0 ∨ co p (n - 1) ≠ 0) : tlL p = n := by
  rcases Nat.lt_trichotomy (tlL p) n with h | h | h
  · rcases h1 with h1 | h1
    · omega
    · exact absurd (tlL_zero p (show tlL p ≤ n - 1 by omega)) h1
  · exact h
  · have := tlL_top p (t := tlL p - 1) (by omega)
    exact absurd (h0 _ (by omega)) this
theorem tlL_congr {p q : List UInt8} (h : ∀ i, co p i = co q i) : tlL p = tlL q := by
  refine tlL_of (fun i hi => by rw [h]; exact tlL_zero q hi) ?_
  by_cases h0 : tlL q = 0
  · exact .inl h0
  · exact .inr (by rw [h]; exact tlL_top q (by omega))
theorem tlL_le_of {p : List UInt8} {n : Nat} (h0 : ∀ i, n ≤ i → co p i = 0) : tlL p ≤ n := by
  apply Nat.le_of_not_lt
  intro h
  exact tlL_top p (t := tlL p - 1) (by omega) (h0 _ (by omega))
/-- Without noughts at the end. -/
def trimL (p : List UInt8) : List UInt8 := p.take (tlL p)
theorem trimL_len (p : List UInt8) : (trimL p).length = tlL p := by unfold trimL; rw [List.length_take]; have := tlL_le p; omega
theorem co_trimL (p : List UInt8) (i : Nat) : co (trimL p) i = co p i := by
  by_cases h : i < tlL p
  · unfold co trimL; rw [List.getD_eq_getElem?_getD, List.getD_eq_getElem?_getD, List.getElem?_take_of_lt h]
  · rw [tlL_zero p (by omega), co_ge (by rw [trimL_len]; omega)]
theorem tlL_trimL (p : List UInt8) : tlL (trimL p) = tlL p := tlL_congr (co_trimL p)
theorem list_ext {p q : List UInt8} (hl : p.length = q.length) (h : ∀ i, i < p.length → co p i = co q i) : p = q := by
  refine List.ext_getElem hl fun i h1 h2 => ?_
  have := h i h1
  rwa [co_of_lt h1, co_of_lt h2] at this
theorem trimL_congr {p q : List UInt8} (h : ∀ i, co p i = co q i) : trimL p = trimL q :=
  list_ext (by rw [trimL_len, trimL_len, tlL_congr h]) fun i _ => by rw [co_trimL, co_trimL, h]
/-- The list of the first n of a function. -/
def ofF (n : Nat) (f : Nat → UInt8) : List UInt8 := (List.range n).map f
theorem ofF_len (n : Nat) (f : Nat → UInt8) : (ofF n f).length = n := by simp [ofF]
theorem co_ofF (n : Nat) (f : Nat → UInt8) (i : Nat) : co (ofF n f) i = if i < n then f i else 0 := by
  by_cases h : i < n
  · rw [if_pos h, co_of_lt (by rw [ofF_len]; exact h)]; simp [ofF]
  · rw [if_neg h, co_ge (by rw [ofF_len]; omega)]
theorem co_ofF_all {n : Nat} {f : Nat → UInt8} (h : ∀ i, n ≤ i → f i = 0) (i : Nat) : co (ofF n f) i = f i := by
  rw [co_ofF]; split
  · rfl
  · exact (h i (by omega)).symm
theorem ofF_succ_set (n : Nat) (f g : Nat → UInt8) (k : Nat) (v : UInt8) (hg : ∀ i, i < n → g i = if i = k then v else f i) : (ofF n f).set k v = ofF n g := by
  refine List.ext_getElem (by rw [List.length_set, ofF_len, ofF_len]) fun i h1 h2 => ?_
  rw [List.length_set, ofF_len] at h1
  rw [List.getElem_set]
  simp only [ofF, List.getElem_map, List.getElem_range]
  rw [hg i h1]
  by_cases e : k = i
  · rw [if_pos e, if_pos e.symm]
  · rw [if_neg e, if_neg (Ne.symm e)]

def addL (p q : List UInt8) : List UInt8 := trimL (ofF (max p.length q.length) fun i => co p i ^^^ co q i)
theorem co_addL (p q : List UInt8) (i : Nat) : co (addL p q) i = co p i ^^^ co q i := by
  unfold addL
  rw [co_trimL, co_ofF_all]
  intro i hi
  rw [co_ge (by omega), co_ge (by omega)]; rfl
def mulL (p q : List UInt8) : List UInt8 := trimL (ofF (tlL p + tlL q) (conv (co p) (co q)))
theorem co_mulL (p q : List UInt8) (i : Nat) : co (mulL p q) i = conv (co p) (co q) i := by
  unfold mulL
  rw [co_trimL, co_ofF_all]
  intro i hi
  exact conv_zero _ _ (tlL p) (tlL q) (fun _ h => tlL_zero p h) (fun _ h => tlL_zero q h) i (by omega)
def evalL (p : List UInt8) (x : UInt8) : UInt8 := ev (co p) p.length x
theorem evalL_eq (p : List UInt8) (x : UInt8) {n : Nat} (h : ∀ i, n ≤ i → co p i = 0) : evalL p x = ev (co p) n x := by
  unfold evalL
  rcases Nat.le_total n p.length with h1 | h1
  · exact ev_le _ h1 x h
  · exact (ev_le _ h1 x (fun i hi => co_ge hi)).symm
theorem evalL_congr {p q : List UInt8} (x : UInt8) (h : ∀ i, co p i = co q i) : evalL p x = evalL q x := by
  rw [evalL_eq p x (n := max p.length q.length) (fun i hi => co_ge (by omega)), evalL_eq q x (n := max p.length q.length) (fun i hi => co_ge (by omega))]
  exact ev_congr x (fun i _ => h i)
theorem evalL_addL (p q : List UInt8) (x : UInt8) : evalL (addL p q) x = evalL p x ^^^ evalL q x := by
  rw [evalL_eq p x (n := max p.length q.length) (fun i hi => co_ge (by omega)), evalL_eq q x (n := max p.length q.length) (fun i hi => co_ge (by omega)),
    evalL_eq (addL p q) x (n := max p.length q.length) (fun i hi => by rw [co_addL, co_ge (by omega), co_ge (by omega)]; rfl), ← ev_xor]
  exact ev_congr x (fun i _ => co_addL p q i)
/-- Degrees add up. -/
theorem tlL_mulL (p q : List UInt8) : tlL (mulL p q) = if tlL p = 0 ∨ tlL q = 0 then 0 else tlL p + tlL q - 1 := by
  split
  · rename_i h
    refine tlL_of (fun i _ => ?_) (.inl rfl)
    rw [co_mulL]
    rcases h with h | h
    · exact xs_zero (fun j _ => by rw [tlL_zero p (by omega), zero_gm])
    · exact xs_zero (fun j _ => by rw [tlL_zero q (by omega), gm_zero])
  · rename_i h
    refine tlL_of (fun i hi => ?_) (.inr ?_)
    · rw [co_mulL]
      exact conv_zero _ _ (tlL p) (tlL q) (fun _ h => tlL_zero p h) (fun _ h => tlL_zero q h) i (by omega)
    · rw [co_mulL, show tlL p + tlL q - 1 - 1 = (tlL p - 1) + (tlL q - 1) from by omega,
        conv_top _ _ _ _ (fun i hi => tlL_zero p (by omega)) (fun i hi => tlL_zero q (by omega))]
      exact gm_ne _ _ (tlL_top p (by omega)) (tlL_top q (by omega))
end Go.Proofs.Ytdglhppcfdpcaaa
namespace Go.Proofs.Ytdglhppcfdpcaaa

theorem tlL_lin (r : UInt8) : tlL [r, 1] = 2 := tlL_of (fun i hi => co_ge (show 2 ≤ i from hi)) (.inr (show (1 : UInt8) ≠ 0 by decide))
theorem xor_cancel (a c : UInt8) : a = c ^^^ (a ^^^ c) := by rw [UInt8.xor_comm a c, ← UInt8.xor_assoc, UInt8.xor_self, UInt8.zero_xor]
theorem mulL_len (p q : List UInt8) : (mulL p q).length = tlL (mulL p q) := by
  have h : tlL (mulL p q) = tlL (ofF (tlL p + tlL q) (conv (co p) (co q))) := by unfold mulL; rw [tlL_trimL]
  rw [h]; unfold mulL; rw [trimL_len]
/-- Behind k roots. -/
def rtTo (rs : List UInt8) : Nat → List UInt8
  | 0 => [1]
  | k + 1 => mulL (rtTo rs k) [co rs k, 1]
def rootsL (rs : List UInt8) : List UInt8 := rtTo rs rs.length
theorem rtTo_tl (rs : List UInt8) (k : Nat) : tlL (rtTo rs k) = k + 1 := by
  induction k with
  | zero => exact tlL_of (fun i hi => co_ge (show 1 ≤ i by omega)) (.inr (show (1 : UInt8) ≠ 0 by decide))
  | succ k ih => rw [rtTo, tlL_mulL, ih, tlL_lin, if_neg (by omega)]; omega
theorem rtTo_len (rs : List UInt8) (k : Nat) : (rtTo rs k).length = k + 1 := by
  cases k with
  | zero => rfl
  | succ k => rw [rtTo, mulL_len]; exact rtTo_tl rs (k + 1)
/-- One round of a division: i: the place that is struck, d: the divisor's degree, t: the inverse of its greatest coefficient. -/
def mdStep (q : List UInt8) (d : Nat) (t : UInt8) (o : List UInt8) (i : Nat) : List UInt8 := ofF o.length fun j => if i - d ≤ j ∧ j ≤ i then co o j ^^^ gm (gm (co o i) t) (co q (j - (i - d))) else co o j
theorem mdStep_len (q : List UInt8) (d : Nat) (t : UInt8) (o : List UInt8) (i : Nat) : (mdStep q d t o i).length = o.length := ofF_len _ _
/-- Behind k rounds, from the place n - 1 down. -/
def mdTo (p q : List UInt8) (d : Nat) (t : UInt8) : Nat → List UInt8
  | 0 => p
  | k + 1 => mdStep q d t (mdTo p q d t k) (p.length - 1 - k)
theorem mdTo_len (p q : List UInt8) (d : Nat) (t : UInt8) (k : Nat) : (mdTo p q d t k).length = p.length := by
  induction k with
  | zero => rfl
  | succ k ih => rw [mdTo, mdStep_len, ih]
/-- What is left of a division of p by q, of the degree d. -/
def modL (p q : List UInt8) (t : UInt8) : List UInt8 := trimL (mdTo p q (tlL q - 1) t (p.length - (tlL q - 1)))
/-- A round takes away a multiple of the divisor, and strikes one place. -/
theorem mdStep_co {q o : List UInt8} {d : Nat} {t : UInt8} {i : Nat} (hd : tlL q = d + 1) (hdi : d ≤ i) (hi : i < o.length) (j : Nat) :
    co (mdStep q d t o i) j = co o j ^^^ conv (fun a => if a = i - d then gm (co o i) t else 0) (co q) j := by
  have hc : conv (fun a => if a = i - d then gm (co o i) t else 0) (co q) j = if i - d ≤ j then gm (gm (co o i) t) (co q (j - (i - d))) else 0 := by
    unfold conv
    by_cases h : i - d ≤ j
    · rw [if_pos h]
      have h1 : xs (j + 1) (fun a => gm (if a = i - d then gm (co o i) t else 0) (co q (j - a))) = xs (i - d + 1) (fun a => gm (if a = i - d then gm (co o i) t else 0) (co q (j - a))) :=
        xs_le (by omega) _ fun a ha => by
          show gm (if a = i - d then gm (co o i) t else 0) (co q (j - a)) = 0
          rw [if_neg (by omega), zero_gm]
      rw [h1, xs_succ, xs_zero (fun a ha => by
        show gm (if a = i - d then gm (co o i) t else 0) (co q (j - a)) = 0
        rw [if_neg (by omega), zero_gm]), if_pos rfl, UInt8.zero_xor]
    · rw [if_neg h]
      exact xs_zero fun a ha => by
        show gm (if a = i - d then gm (co o i) t else 0) (co q (j - a)) = 0
        rw [if_neg (by omega), zero_gm]
  rw [hc]
  unfold mdStep
  rw [co_ofF]
  by_cases hj : j < o.length
  · rw [if_pos hj]
    by_cases h1 : i - d ≤ j
    · rw [if_pos h1]
      by_cases h2 : j ≤ i
      · rw [if_pos ⟨h1, h2⟩]
      · rw [if_neg (by omega), tlL_zero q (by omega), gm_zero, UInt8.xor_zero]
    · rw [if_neg (by omega), if_neg h1, UInt8.xor_zero]
  · rw [if_neg hj, co_ge (p := o) (by omega)]
    split
    · rw [tlL_zero q (by omega), gm_zero]; rfl
    · rfl
theorem mdTo_spec {p q : List UInt8} {d : Nat} {t : UInt8} (hd : tlL q = d + 1) (ht : gm (co q d) t = 1) (k : Nat) (hk : k ≤ p.length - d) :
    (∃ s : Nat → UInt8, (∀ i, p.length ≤ i → s i = 0) ∧ ∀ j, co p j = co (mdTo p q d t k) j ^^^ conv s (co q) j) ∧ ∀ j, p.length - k ≤ j → co (mdTo p q d t k) j = 0 := by
  induction k with
  | zero => exact ⟨⟨fun _ => 0, fun _ _ => rfl, fun j => by
      rw [show conv (fun _ => 0) (co q) j = 0 from xs_zero fun i _ => zero_gm _, UInt8.xor_zero]; rfl⟩, fun j hj => co_ge (by rw [mdTo_len]; omega)⟩
  | succ k ih =>
    obtain ⟨⟨s, hfin, hs⟩, hz⟩ := ih (by omega)
    have hl := mdTo_len p q d t k
    have hst := fun j => mdStep_co (q := q) (o := mdTo p q d t k) (d := d) (t := t) (i := p.length - 1 - k) hd (by omega) (by omega) j
    refine ⟨⟨fun a => s a ^^^ (if a = p.length - 1 - k - d then gm (co (mdTo p q d t k) (p.length - 1 - k)) t else 0), fun i hi => by
      show s i ^^^ (if i = p.length - 1 - k - d then gm (co (mdTo p q d t k) (p.length - 1 - k)) t else 0) = 0
      rw [hfin i hi, if_neg (by omega)]; rfl, fun j => ?_⟩, fun j hj => ?_⟩
    · rw [conv_xor, mdTo, hst j, hs j, UInt8.xor_assoc]
      congr 1
      exact xor_cancel _ _
    · rw [mdTo]
      unfold mdStep
      rw [co_ofF]
      by_cases hj2 : j < (mdTo p q d t k).length
      · rw [if_pos hj2]
        by_cases h3 : p.length - 1 - k = j
        · subst h3
          rw [if_pos (by omega), show p.length - 1 - k - (p.length - 1 - k - d) = d from by omega, gm_assoc, gm_comm t, ht, gm_one, UInt8.xor_self]
        · rw [if_neg (by omega)]
          exact hz j (by omega)
      · rw [if_neg hj2]
theorem modL_spec {p q : List UInt8} {t : UInt8} (h0 : 0 < tlL q) (ht : gm (co q (tlL q - 1)) t = 1) :
    (∃ s : Nat → UInt8, (∀ i, p.length ≤ i → s i = 0) ∧ ∀ j, co p j = co (modL p q t) j ^^^ conv s (co q) j) ∧ tlL (modL p q t) < tlL q := by
  obtain ⟨h1, h2⟩ := mdTo_spec (p := p) (q := q) (d := tlL q - 1) (t := t) (by omega) ht (p.length - (tlL q - 1)) (Nat.le_refl _)
  refine ⟨?_, ?_⟩
  · obtain ⟨s, hf, hs⟩ := h1
    exact ⟨s, hf, fun j => by rw [hs j]; unfold modL; rw [co_trimL]⟩
  · have h3 : tlL (modL p q t) ≤ tlL q - 1 := tlL_le_of fun i hi => by
      unfold modL
      rw [co_trimL]
      by_cases hlp : p.length ≤ tlL q - 1
      · exact co_ge (by rw [mdTo_len]; omega)
      · exact h2 i (by omega)
    omega
theorem modL_trimmed (p q : List UInt8) (t : UInt8) : tlL (modL p q t) = (modL p q t).length := by unfold modL; rw [tlL_trimL, trimL_len]

end Go.Proofs.Ytdglhppcfdpcaaa
namespace Go.Proofs.Ytdglhppcfdpcaaa

/-- The value of what a division takes away. -/
theorem modL_eval {p q : List UInt8} {t : UInt8} (h0 : 0 < tlL q) (ht : gm (co q (tlL q - 1)) t = 1) {x : UInt8} (hx : evalL q x = 0) : evalL (modL p q t) x = evalL p x := by
  obtain ⟨⟨s, hf, hs⟩, hlt⟩ := modL_spec (p := p) (q := q) (t := t) h0 ht
  obtain ⟨N, hN⟩ : ∃ N, p.length + q.length + (modL p q t).length = N := ⟨_, rfl⟩
  rw [evalL_eq p x (n := N) (fun i hi => co_ge (by omega)), evalL_eq (modL p q t) x (n := N) (fun i hi => co_ge (by omega)), ev_congr x (fun i _ => hs i), ev_xor,
    ev_conv s (co q) p.length q.length x hf (fun i hi => co_ge hi) N (by omega), show ev (co q) q.length x = evalL q x from rfl, hx, gm_zero, UInt8.xor_zero]
end Go.Proofs.Ytdglhppcfdpcaaa
