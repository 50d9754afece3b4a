/- The stable sort's blocks, plainly. -/
import Derived.Test.YtdglhppcfdpcaaaSoA
set_option linter.unusedVariables false
namespace Go.Proofs.Ytdglhppcfdpcaaa.So
section
variable {α : Type} {key : α → Int}
def wj (w j : Nat) : Nat := w * j
theorem wj_succ (w j : Nat) : wj w (j + 1) = wj w j + w := Nat.mul_succ w j
theorem wj_zero (w : Nat) : wj w 0 = 0 := rfl
theorem wj_ge {w : Nat} (h : 1 ≤ w) (j : Nat) : j ≤ wj w j := Nat.le_mul_of_pos_left j h
theorem wj_le {w i j : Nat} (h : i < j) : wj w i + w ≤ wj w j := by
  rw [← wj_succ]; exact Nat.mul_le_mul_left w h
theorem wj_div {w j n : Nat} (h1 : wj w j ≤ n) (h2 : n < wj w j + w) : n / w = j := by
  unfold wj at h1 h2
  rw [Nat.mul_comm] at h1 h2
  exact Nat.div_eq_of_lt_le h1 (by rw [Nat.succ_mul]; exact h2)
/-- A block's size in round r. -/
def szS : Nat → Nat
  | 0 => 20
  | r + 1 => szS r * 2
theorem szS_zero : szS 0 = 20 := rfl
theorem szS_lt : ∀ r, r + 20 ≤ szS r
  | 0 => Nat.le_refl _
  | r + 1 => by have := szS_lt r; show r + 1 + 20 ≤ szS r * 2; omega
/-- The first j blocks of size w sorted. -/
def bl (key : α → Int) (w : Nat) (ys : List α) : Nat → List α
  | 0 => ys
  | j + 1 => sg key (bl key w ys j) (wj w j) (wj w j + w)
theorem bl_len {w : Nat} {ys : List α} : ∀ {j : Nat}, wj w j ≤ ys.length → (bl key w ys j).length = ys.length
  | 0, _ => rfl
  | j + 1, h => by
    rw [wj_succ] at h
    have e : (bl key w ys j).length = ys.length := bl_len (by omega)
    rw [bl, sg_len _ (by omega) (by omega), e]
theorem sg_st (ys : List α) {a b : Nat} (h : a ≤ b) : St key ys (sg key ys a b) := by
  have hw := whole (ys := ys) h
  have h1 : St key (ys.take a ++ seg ys a b ++ ys.drop b) (sg key ys a b) := ((St.refl _).app (srt_st _)).app (St.refl _)
  rwa [← hw] at h1
theorem bl_st {w : Nat} {ys : List α} : ∀ j, St key ys (bl key w ys j)
  | 0 => St.refl _
  | j + 1 => (bl_st j).trans (sg_st _ (Nat.le_add_right _ _))
theorem seg_sg_lt {ys : List α} {a b x y : Nat} (hab : a ≤ b) (hb : b ≤ ys.length) (hy : y ≤ a) : seg (sg key ys a b) x y = seg ys x y := seg_ext (sg_len ys hab hb) fun p _ h2 => sg_get_lt hab hb (by omega)
theorem seg_sg_ge {ys : List α} {a b x y : Nat} (hab : a ≤ b) (hb : b ≤ ys.length) (hx : b ≤ x) : seg (sg key ys a b) x y = seg ys x y := seg_ext (sg_len ys hab hb) fun p h1 _ => sg_get_ge hab hb (by omega)
theorem bl_ge {w : Nat} {ys : List α} {x y : Nat} : ∀ {j : Nat}, wj w j ≤ ys.length → wj w j ≤ x → seg (bl key w ys j) x y = seg ys x y
  | 0, _, _ => rfl
  | j + 1, h, hx => by
    rw [wj_succ] at h hx
    have e := bl_len (key := key) (w := w) (ys := ys) (j := j) (by omega)
    rw [bl, seg_sg_ge (by omega) (by omega) (by omega)]
    exact bl_ge (by omega) (by omega)
theorem bl_up {w : Nat} {ys : List α} {i : Nat} : ∀ {j : Nat}, wj w j ≤ ys.length → i < j → Up key (seg (bl key w ys j) (wj w i) (wj w i + w))
  | 0, _, h => absurd h (Nat.not_lt_zero i)
  | j + 1, h, hi => by
    rw [wj_succ] at h
    have e := bl_len (key := key) (w := w) (ys := ys) (j := j) (by omega)
    rw [bl]
    by_cases hij : i = j
    · subst hij
      rw [sg_seg (by omega) (by omega)]
      exact srt_up _
    · have hw := wj_le (w := w) (show i < j by omega)
      rw [seg_sg_lt (by omega) (by omega) (by omega)]
      exact bl_up (by omega) (by omega)
/-- The blocks of size w are sorted. -/
def Bk (key : α → Int) (w n : Nat) (ys : List α) : Prop := ∀ i, Up key (seg ys (wj w i) (min (wj w i + w) n))
theorem seg_nil {ys : List α} {x y : Nat} (h : y ≤ x) : seg ys x y = [] := by
  unfold seg
  exact List.drop_eq_nil_of_le (by rw [List.length_take]; omega)
theorem bk_fin {w n j : Nat} {ys : List α} (hn : n = ys.length) (h1 : wj w j ≤ n) (h2 : n < wj w j + w) : Bk key w n (sg key (bl key w ys j) (wj w j) n) := fun i => by
  have e := bl_len (key := key) (w := w) (ys := ys) (j := j) (by omega)
  rcases Nat.lt_trichotomy i j with h | h | h
  · have hw := wj_le (w := w) h
    rw [show min (wj w i + w) n = wj w i + w by omega, seg_sg_lt h1 (by omega) hw]
    exact bl_up (by omega) h
  · subst h
    rw [show min (wj w i + w) n = n by omega, sg_seg h1 (by omega)]
    exact srt_up _
  · have hw := wj_le (w := w) h
    rw [seg_nil (by omega)]
    exact List.Pairwise.nil
theorem bk_two {s n j : Nat} {ys : List α} (hb : Bk key s n ys) : Up key (seg ys (wj (2 * s) j) (min (wj (2 * s) j + s) n)) ∧ Up key (seg ys (wj (2 * s) j + s) (min (wj (2 * s) j + 2 * s) n)) := by
  have e1 : wj s (2 * j) = wj (2 * s) j := by unfold wj; rw [← Nat.mul_assoc, Nat.mul_comm s 2]
  have e2 : wj s (2 * j + 1) = wj (2 * s) j + s := by rw [wj_succ, e1]
  have h1 := hb (2 * j)
  have h2 := hb (2 * j + 1)
  rw [e1] at h1
  rw [e2] at h2
  exact ⟨h1, by rw [show wj (2 * s) j + 2 * s = wj (2 * s) j + s + s by omega]; exact h2⟩
theorem bk_no {s n j : Nat} {ys : List α} (hb : Bk key s n ys) (hn : n = ys.length) (h1 : wj (2 * s) j ≤ n) (h2 : ¬ wj (2 * s) j + s < n) : Bk key (2 * s) n (bl key (2 * s) ys j) := fun i => by
  rcases Nat.lt_trichotomy i j with h | h | h
  · have hw := wj_le (w := 2 * s) h
    rw [show min (wj (2 * s) i + 2 * s) n = wj (2 * s) i + 2 * s by omega]
    exact bl_up (by omega) h
  · subst h
    have h3 := (bk_two (j := i) hb).1
    rw [bl_ge (by omega) (Nat.le_refl _), show min (wj (2 * s) i + 2 * s) n = min (wj (2 * s) i + s) n by omega]
    exact h3
  · have hw := wj_le (w := 2 * s) h
    rw [seg_nil (by omega)]
    exact List.Pairwise.nil
/-- Behind r rounds of merging. -/
def ph (key : α → Int) (xs : List α) (n : Nat) : Nat → List α
  | 0 => sg key (bl key 20 xs (n / 20)) (wj 20 (n / 20)) n
  | r + 1 => bif decide (wj (2 * szS r) (n / (2 * szS r)) + szS r < n) then sg key (bl key (2 * szS r) (ph key xs n r) (n / (2 * szS r))) (wj (2 * szS r) (n / (2 * szS r))) n else bl key (2 * szS r) (ph key xs n r) (n / (2 * szS r))
theorem ph_0 {xs : List α} {n j : Nat} (h1 : wj 20 j ≤ n) (h2 : n < wj 20 j + 20) : ph key xs n 0 = sg key (bl key 20 xs j) (wj 20 j) n := by
  rw [ph, wj_div h1 h2]
theorem ph_t {xs : List α} {n r j : Nat} (h1 : wj (2 * szS r) j ≤ n) (h2 : n < wj (2 * szS r) j + 2 * szS r) (h3 : wj (2 * szS r) j + szS r < n) : ph key xs n (r + 1) = sg key (bl key (2 * szS r) (ph key xs n r) j) (wj (2 * szS r) j) n := by
  rw [ph, wj_div h1 h2, decide_eq_true h3]; rfl
theorem ph_f {xs : List α} {n r j : Nat} (h1 : wj (2 * szS r) j ≤ n) (h2 : n < wj (2 * szS r) j + 2 * szS r) (h3 : ¬ wj (2 * szS r) j + szS r < n) : ph key xs n (r + 1) = bl key (2 * szS r) (ph key xs n r) j := by
  rw [ph, wj_div h1 h2, decide_eq_false h3]; rfl
structure PhI (key : α → Int) (xs : List α) (n r : Nat) (ys : List α) : Prop where
  bk : Bk key (szS r) n ys
  st : St key xs ys
  le : ys.length = n
theorem wj_q {w n : Nat} (h : 1 ≤ w) : wj w (n / w) ≤ n ∧ n < wj w (n / w) + w := by
  unfold wj
  have h1 := Nat.div_add_mod n w
  have h2 := Nat.mod_lt n h
  omega
theorem PhI.zero {xs : List α} {n : Nat} (hn : n = xs.length) : PhI key xs n 0 (ph key xs n 0) := by
  have hq := wj_q (w := 20) (n := n) (by omega)
  have e := bl_len (key := key) (w := 20) (ys := xs) (j := n / 20) (by omega)
  rw [ph_0 hq.1 hq.2]
  exact ⟨bk_fin hn hq.1 hq.2, (bl_st _).trans (sg_st _ hq.1), by rw [sg_len _ hq.1 (by omega)]; omega⟩
theorem PhI.next {xs : List α} {n r : Nat} (h : PhI key xs n r (ph key xs n r)) : PhI key xs n (r + 1) (ph key xs n (r + 1)) := by
  have hs := szS_lt r
  have hq := wj_q (w := 2 * szS r) (n := n) (by omega)
  have hl := h.le
  have e := bl_len (key := key) (w := 2 * szS r) (ys := ph key xs n r) (j := n / (2 * szS r)) (by omega)
  have hz : szS (r + 1) = 2 * szS r := Nat.mul_comm _ _
  by_cases h3 : wj (2 * szS r) (n / (2 * szS r)) + szS r < n
  · rw [ph_t hq.1 hq.2 h3]
    exact ⟨by rw [hz]; exact bk_fin hl.symm hq.1 hq.2, h.st.trans ((bl_st _).trans (sg_st _ hq.1)), by rw [sg_len _ hq.1 (by omega)]; omega⟩
  · rw [ph_f hq.1 hq.2 h3]
    exact ⟨by rw [hz]; exact bk_no h.bk hl.symm hq.1 h3, h.st.trans (bl_st _), by omega⟩
theorem seg_all (ys : List α) : seg ys 0 ys.length = ys := by unfold seg; rw [List.take_length]; rfl
theorem PhI.fin {xs : List α} {n r : Nat} {ys : List α} (h : PhI key xs n r ys) (hr : n ≤ szS r) : ys = srt key xs := by
  have h1 := h.bk 0
  rw [show wj (szS r) 0 = 0 from rfl, show min (0 + szS r) n = n by omega, ← h.le, seg_all] at h1
  exact srt_eq h.st h1
/-- What a merge of round r finds. -/
theorem PhI.up2 {xs : List α} {n r j : Nat} (h : PhI key xs n r (ph key xs n r)) (hj : wj (2 * szS r) j + 2 * szS r ≤ n) : Up key (seg (bl key (2 * szS r) (ph key xs n r) j) (wj (2 * szS r) j) (wj (2 * szS r) j + szS r)) ∧ Up key (seg (bl key (2 * szS r) (ph key xs n r) j) (wj (2 * szS r) j + szS r) (wj (2 * szS r) j + 2 * szS r)) := by
  have hl := h.le
  obtain ⟨u1, u2⟩ := bk_two (j := j) h.bk
  rw [bl_ge (by omega) (Nat.le_refl _), bl_ge (by omega) (Nat.le_add_right _ _)]
  rw [show min (wj (2 * szS r) j + szS r) n = wj (2 * szS r) j + szS r by omega] at u1
  rw [show min (wj (2 * szS r) j + 2 * szS r) n = wj (2 * szS r) j + 2 * szS r by omega] at u2
  exact ⟨u1, u2⟩
theorem PhI.up1 {xs : List α} {n r j : Nat} (h : PhI key xs n r (ph key xs n r)) (h1 : wj (2 * szS r) j + szS r < n) (h2 : n < wj (2 * szS r) j + 2 * szS r) : Up key (seg (bl key (2 * szS r) (ph key xs n r) j) (wj (2 * szS r) j) (wj (2 * szS r) j + szS r)) ∧ Up key (seg (bl key (2 * szS r) (ph key xs n r) j) (wj (2 * szS r) j + szS r) n) := by
  have hl := h.le
  obtain ⟨u1, u2⟩ := bk_two (j := j) h.bk
  rw [bl_ge (by omega) (Nat.le_refl _), bl_ge (by omega) (Nat.le_add_right _ _)]
  rw [show min (wj (2 * szS r) j + szS r) n = wj (2 * szS r) j + szS r by omega] at u1
  rw [show min (wj (2 * szS r) j + 2 * szS r) n = n by omega] at u2
  exact ⟨u1, u2⟩
theorem PhI.bll {xs : List α} {n r j : Nat} (h : PhI key xs n r (ph key xs n r)) (h1 : wj (2 * szS r) j ≤ n) : (bl key (2 * szS r) (ph key xs n r) j).length = n := (bl_len (by rw [h.le]; exact h1)).trans h.le
end
end Go.Proofs.Ytdglhppcfdpcaaa.So
