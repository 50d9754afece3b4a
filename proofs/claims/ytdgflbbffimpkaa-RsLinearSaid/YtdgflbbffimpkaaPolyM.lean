/- Polynomials over the field as functions from places to bytes: sums, products, values. No program in sight. -/
import Derived.Test.YtdgflbbffimpkaaGfU
namespace Go.Proofs.Ytdgflbbffimpkaa

/-- The sum of the first n. -/
def xs (n : Nat) (f : Nat → UInt8) : UInt8 :=
  match n with
  | 0 => 0
  | n + 1 => xs n f ^^^ f n
theorem xs_succ (n : Nat) (f : Nat → UInt8) : xs (n + 1) f = xs n f ^^^ f n := rfl
theorem xs_congr {n : Nat} {f g : Nat → UInt8} (h : ∀ i, i < n → f i = g i) : xs n f = xs n g := by
  induction n with
  | zero => rfl
  | succ n ih => rw [xs, xs, ih (fun i hi => h i (by omega)), h n (by omega)]
theorem xs_zero {n : Nat} {f : Nat → UInt8} (h : ∀ i, i < n → f i = 0) : xs n f = 0 := by
  induction n with
  | zero => rfl
  | succ n ih => rw [xs, ih (fun i hi => h i (by omega)), h n (by omega), UInt8.xor_zero]
theorem xs_xor (n : Nat) (f g : Nat → UInt8) : xs n (fun i => f i ^^^ g i) = xs n f ^^^ xs n g := by
  induction n with
  | zero => exact (UInt8.xor_self (a := 0)).symm
  | succ n ih => rw [xs, xs, xs, ih, x4]
theorem xs_gm (c : UInt8) (n : Nat) (f : Nat → UInt8) : xs n (fun i => gm c (f i)) = gm c (xs n f) := by
  induction n with
  | zero => exact (gm_zero c).symm
  | succ n ih => rw [xs, xs, ih, gm_xor]
theorem xs_mg (c : UInt8) (n : Nat) (f : Nat → UInt8) : xs n (fun i => gm (f i) c) = gm (xs n f) c := by
  rw [gm_comm, ← xs_gm]; exact xs_congr (fun i _ => gm_comm _ _)
theorem xs_more (n d : Nat) (f : Nat → UInt8) (h : ∀ i, n ≤ i → f i = 0) : xs (n + d) f = xs n f := by
  induction d with
  | zero => rfl
  | succ d ih => rw [← Nat.add_assoc, xs, ih, h (n + d) (by omega), UInt8.xor_zero]
theorem xs_le {n m : Nat} (hnm : n ≤ m) (f : Nat → UInt8) (h : ∀ i, n ≤ i → f i = 0) : xs m f = xs n f := by
  have := xs_more n (m - n) f h
  rwa [show n + (m - n) = m from by omega] at this
theorem xs_front (n : Nat) (f : Nat → UInt8) : xs (n + 1) f = f 0 ^^^ xs n (fun i => f (i + 1)) := by
  induction n with
  | zero => rw [xs, xs, xs, UInt8.zero_xor, UInt8.xor_zero]
  | succ n ih => rw [xs, ih, xs, UInt8.xor_assoc]
theorem xs_rev (n : Nat) : ∀ f : Nat → UInt8, xs n f = xs n (fun i => f (n - 1 - i)) := by
  induction n with
  | zero => intro f; rfl
  | succ n ih =>
    intro f
    rw [xs_front n (fun i => f (n + 1 - 1 - i)), xs, UInt8.xor_comm, ih f]
    rw [show n + 1 - 1 - 0 = n from by omega]
    congr 1
    exact xs_congr (fun i hi => by rw [show n + 1 - 1 - (i + 1) = n - 1 - i from by omega])
theorem xs_swap (n m : Nat) (F : Nat → Nat → UInt8) : xs n (fun i => xs m (fun j => F i j)) = xs m (fun j => xs n (fun i => F i j)) := by
  induction n with
  | zero => exact (xs_zero (fun j _ => rfl)).symm
  | succ n ih => rw [xs, ih, ← xs_xor]; exact xs_congr (fun j _ => rfl)
theorem xs_tri (n : Nat) (F : Nat → Nat → UInt8) : xs (n + 1) (fun i => xs (i + 1) (fun j => F j (i - j))) = xs (n + 1) (fun j => xs (n - j + 1) (fun k => F j k)) := by
  induction n with
  | zero => rfl
  | succ n ih =>
    rw [xs_succ, ih, xs_succ (n + 1) (fun j => xs (n + 1 - j + 1) (fun k => F j k))]
    have h1 : xs (n + 1) (fun j => xs (n + 1 - j + 1) (fun k => F j k)) = xs (n + 1) (fun j => xs (n - j + 1) (fun k => F j k)) ^^^ xs (n + 1) (fun j => F j (n + 1 - j)) := by
      rw [← xs_xor]
      refine xs_congr (fun j hj => ?_)
      rw [show n + 1 - j + 1 = (n - j + 1) + 1 from by omega, xs, show n - j + 1 = n + 1 - j from by omega]
    rw [h1, xs_succ (n + 1) (fun j => F j (n + 1 - j)), UInt8.xor_assoc]
    congr 2
    rw [Nat.sub_self]
    exact (UInt8.zero_xor).symm

/-- The product of two polynomials, place by place. -/
def conv (f g : Nat → UInt8) (n : Nat) : UInt8 := xs (n + 1) (fun i => gm (f i) (g (n - i)))
theorem conv_comm (f g : Nat → UInt8) (n : Nat) : conv f g n = conv g f n := by
  unfold conv
  rw [xs_rev]
  refine xs_congr (fun i hi => ?_)
  rw [gm_comm, show n + 1 - 1 - i = n - i from by omega, show n - (n - i) = i from by omega]
theorem conv_congr {f f' g g' : Nat → UInt8} {n : Nat} (h : ∀ i, i ≤ n → f i = f' i) (h' : ∀ i, i ≤ n → g i = g' i) : conv f g n = conv f' g' n :=
  xs_congr (fun i hi => by rw [h i (by omega), h' (n - i) (by omega)])
theorem conv_xor (f g h : Nat → UInt8) (n : Nat) : conv (fun i => f i ^^^ g i) h n = conv f h n ^^^ conv g h n := by
  unfold conv
  rw [← xs_xor]
  exact xs_congr (fun i _ => xor_gm _ _ _)
theorem conv_assoc (f g h : Nat → UInt8) (n : Nat) : conv (conv f g) h n = conv f (conv g h) n := by
  have h1 : conv (conv f g) h n = xs (n + 1) (fun i => xs (i + 1) (fun j => gm (gm (f j) (g (i - j))) (h (n - i)))) :=
    xs_congr (fun i _ => by show gm (xs (i + 1) _) _ = _; rw [← xs_mg])
  have h2 : ∀ i, i < n + 1 → xs (i + 1) (fun j => gm (gm (f j) (g (i - j))) (h (n - i))) = xs (i + 1) (fun j => (fun a b => gm (gm (f a) (g b)) (h (n - (a + b)))) j (i - j)) :=
    fun i _ => xs_congr (fun j hj => by show _ = gm (gm (f j) (g (i - j))) (h (n - (j + (i - j)))); rw [show j + (i - j) = i from by omega])
  refine (h1.trans (xs_congr h2)).trans ((xs_tri n (fun a b => gm (gm (f a) (g b)) (h (n - (a + b))))).trans ?_)
  refine xs_congr (fun j hj => ?_)
  unfold conv
  rw [← xs_gm]
  refine xs_congr (fun k hk => ?_)
  rw [gm_assoc, show n - (j + k) = n - j - k from by omega]
theorem conv_zero (f g : Nat → UInt8) (M N : Nat) (hf : ∀ i, M ≤ i → f i = 0) (hg : ∀ i, N ≤ i → g i = 0) (n : Nat) (h : M + N ≤ n + 1) : conv f g n = 0 := by
  refine xs_zero (fun i _ => ?_)
  by_cases hi : M ≤ i
  · rw [hf i hi, zero_gm]
  · rw [hg (n - i) (by omega), gm_zero]
/-- The product's greatest coefficient. -/
theorem conv_top (f g : Nat → UInt8) (M N : Nat) (hf : ∀ i, M < i → f i = 0) (hg : ∀ i, N < i → g i = 0) : conv f g (M + N) = gm (f M) (g N) := by
  unfold conv
  have h1 : xs (M + N + 1) (fun i => gm (f i) (g (M + N - i))) = xs (M + 1) (fun i => gm (f i) (g (M + N - i))) :=
    xs_le (by omega) _ (fun i hi => by rw [hf i (by omega), zero_gm])
  rw [h1, xs, xs_zero (fun i hi => by rw [hg (M + N - i) (by omega), gm_zero]), UInt8.zero_xor, show M + N - M = N from by omega]

/-- A power. -/
def pw (x : UInt8) : Nat → UInt8
  | 0 => 1
  | n + 1 => gm (pw x n) x
theorem pw_add (x : UInt8) (m n : Nat) : pw x (m + n) = gm (pw x m) (pw x n) := by
  induction n with
  | zero => rw [Nat.add_zero, pw, gm_one]
  | succ n ih => rw [← Nat.add_assoc, pw, ih, pw, gm_assoc]
/-- The value at x of a polynomial with N places. -/
def ev (f : Nat → UInt8) (N : Nat) (x : UInt8) : UInt8 := xs N (fun i => gm (f i) (pw x i))
theorem ev_le (f : Nat → UInt8) {N M : Nat} (h : N ≤ M) (x : UInt8) (hf : ∀ i, N ≤ i → f i = 0) : ev f M x = ev f N x :=
  xs_le h _ (fun i hi => by rw [hf i hi, zero_gm])
theorem ev_congr {f g : Nat → UInt8} {N : Nat} (x : UInt8) (h : ∀ i, i < N → f i = g i) : ev f N x = ev g N x := xs_congr (fun i hi => by rw [h i hi])
theorem ev_xor (f g : Nat → UInt8) (N : Nat) (x : UInt8) : ev (fun i => f i ^^^ g i) N x = ev f N x ^^^ ev g N x := by
  unfold ev
  rw [← xs_xor]
  exact xs_congr (fun i _ => xor_gm _ _ _)
theorem ev_gm (c : UInt8) (f : Nat → UInt8) (N : Nat) (x : UInt8) : ev (fun i => gm c (f i)) N x = gm c (ev f N x) := by
  unfold ev
  rw [← xs_gm]
  exact xs_congr (fun i _ => gm_assoc _ _ _)
theorem ev_conv (f g : Nat → UInt8) (M N : Nat) (x : UInt8) (hf : ∀ i, M ≤ i → f i = 0) (hg : ∀ i, N ≤ i → g i = 0) (T : Nat) (hT : M + N ≤ T) : ev (conv f g) T x = gm (ev f M x) (ev g N x) := by
  have hc : ∀ i, M + N ≤ i → conv f g i = 0 := fun i hi => conv_zero f g M N hf hg i (by omega)
  rw [ev_le _ hT x hc]
  obtain ⟨n, hn⟩ : ∃ n, M + N + 1 = n + 1 := ⟨M + N, rfl⟩
  have e1 : ev (conv f g) (M + N) x = ev (conv f g) (n + 1) x := (ev_le _ (by omega) x hc).symm
  rw [e1]
  have e2 : ev (conv f g) (n + 1) x = xs (n + 1) (fun i => xs (i + 1) (fun j => (fun a b => gm (gm (f a) (g b)) (pw x (a + b))) j (i - j))) :=
    xs_congr (fun i _ => by
      unfold conv
      rw [← xs_mg]
      exact xs_congr (fun j hj => by show _ = gm (gm (f j) (g (i - j))) (pw x (j + (i - j))); rw [show j + (i - j) = i from by omega]))
  refine e2.trans ((xs_tri n (fun a b => gm (gm (f a) (g b)) (pw x (a + b)))).trans ?_)
  have e3 : xs (n + 1) (fun j => xs (n - j + 1) (fun k => gm (gm (f j) (g k)) (pw x (j + k)))) = xs M (fun j => xs (n - j + 1) (fun k => gm (gm (f j) (g k)) (pw x (j + k)))) :=
    xs_le (by omega) _ (fun j hj => xs_zero (fun k _ => by rw [hf j hj, zero_gm, zero_gm]))
  rw [e3]
  have e4 : ∀ j, j < M → xs (n - j + 1) (fun k => gm (gm (f j) (g k)) (pw x (j + k))) = gm (gm (f j) (pw x j)) (ev g N x) := by
    intro j hj
    rw [xs_le (n := N) (by omega) _ (fun k hk => by rw [hg k hk, gm_zero, zero_gm])]
    unfold ev
    rw [← xs_gm]
    refine xs_congr (fun k _ => ?_)
    rw [pw_add, gm_assoc, gm_assoc, gm_left_comm (g k) (pw x j)]
  rw [xs_congr e4, xs_mg]
  rfl
end Go.Proofs.Ytdgflbbffimpkaa
