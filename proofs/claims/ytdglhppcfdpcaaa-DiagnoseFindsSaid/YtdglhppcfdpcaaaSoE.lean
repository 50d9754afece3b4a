/- The merge's search, plainly. -/
import Derived.Test.YtdglhppcfdpcaaaSoD
set_option linter.unusedVariables false
namespace Go.Proofs.Ytdglhppcfdpcaaa.E
/-- A binary search's rounds. -/
def bsS (p : Nat → Bool) (i j : Nat) : Nat → Nat × Nat
  | 0 => (i, j)
  | t + 1 => bif p (((bsS p i j t).1 + (bsS p i j t).2) / 2) then (((bsS p i j t).1 + (bsS p i j t).2) / 2 + 1, (bsS p i j t).2) else ((bsS p i j t).1, ((bsS p i j t).1 + (bsS p i j t).2) / 2)
theorem bsS_t {p : Nat → Bool} {i j t : Nat} (h : p (((bsS p i j t).1 + (bsS p i j t).2) / 2) = true) : (bsS p i j (t + 1)).1 = ((bsS p i j t).1 + (bsS p i j t).2) / 2 + 1 ∧ (bsS p i j (t + 1)).2 = (bsS p i j t).2 := by
  have e : bsS p i j (t + 1) = (((bsS p i j t).1 + (bsS p i j t).2) / 2 + 1, (bsS p i j t).2) := by
    show (bif _ then _ else _) = _
    rw [h]; rfl
  rw [e]; exact ⟨rfl, rfl⟩
theorem bsS_f {p : Nat → Bool} {i j t : Nat} (h : p (((bsS p i j t).1 + (bsS p i j t).2) / 2) = false) : (bsS p i j (t + 1)).1 = (bsS p i j t).1 ∧ (bsS p i j (t + 1)).2 = ((bsS p i j t).1 + (bsS p i j t).2) / 2 := by
  have e : bsS p i j (t + 1) = ((bsS p i j t).1, ((bsS p i j t).1 + (bsS p i j t).2) / 2) := by
    show (bif _ then _ else _) = _
    rw [h]; rfl
  rw [e]; exact ⟨rfl, rfl⟩
structure BsI (p : Nat → Bool) (i j t : Nat) (s : Nat × Nat) : Prop where
  lo : i ≤ s.1
  le : s.1 ≤ s.2
  hi : s.2 ≤ j
  tm : t + (s.2 - s.1) ≤ j - i
  f : ∀ c, i ≤ c → c < s.1 → p c = true
  g : ∀ c, s.2 ≤ c → c < j → p c = false
def Mono (p : Nat → Bool) (i j : Nat) : Prop := ∀ c c', i ≤ c → c ≤ c' → c' < j → p c' = true → p c = true
theorem BsI.zero {p : Nat → Bool} {i j : Nat} (h : i ≤ j) : BsI p i j 0 (bsS p i j 0) := ⟨Nat.le_refl _, h, Nat.le_refl _, by show 0 + (j - i) ≤ j - i; omega, fun c h1 h2 => by have h2' : c < i := h2; omega, fun c h1 h2 => by have h1' : j ≤ c := h1; omega⟩
theorem BsI.next {p : Nat → Bool} {i j t : Nat} (hm : Mono p i j) (h : BsI p i j t (bsS p i j t)) (hlt : (bsS p i j t).1 < (bsS p i j t).2) : BsI p i j (t + 1) (bsS p i j (t + 1)) := by
  have h1 := h.lo
  have h2 := h.hi
  have h3 := h.tm
  cases hp : p (((bsS p i j t).1 + (bsS p i j t).2) / 2) with
  | true =>
    obtain ⟨e1, e2⟩ := bsS_t hp
    refine ⟨by rw [e1]; omega, by rw [e1, e2]; omega, by rw [e2]; exact h2, by rw [e1, e2]; omega, fun c k1 k2 => ?_, fun c k1 k2 => h.g c (by rw [e2] at k1; exact k1) k2⟩
    rw [e1] at k2
    exact hm c _ k1 (by omega) (by omega) hp
  | false =>
    obtain ⟨e1, e2⟩ := bsS_f hp
    refine ⟨by rw [e1]; exact h1, by rw [e1, e2]; omega, by rw [e2]; omega, by rw [e1, e2]; omega, fun c k1 k2 => h.f c k1 (by rw [e1] at k2; exact k2), fun c k1 k2 => ?_⟩
    rw [e2] at k1
    cases hc : p c with
    | false => rfl
    | true =>
      have := hm _ c (by omega) k1 k2 hc
      rw [hp] at this
      exact absurd this (by decide)
def bp1 (xs : List Int) (a : Nat) : Nat → Bool := fun h => decide (kI (xs.getD h 0) < kI (xs.getD a 0))
def bp2 (xs : List Int) (m : Nat) : Nat → Bool := fun h => !decide (kI (xs.getD m 0) < kI (xs.getD h 0))
def bp3 (xs : List Int) (q : Nat) : Nat → Bool := fun c => !decide (kI (xs.getD (q - c) 0) < kI (xs.getD c 0))
theorem bp1_of {xs : List Int} {a h : Nat} {b : Bool} (H : decide (kcmp_0 (xs.getD h 0 % 4) (xs.getD a 0 % 4) < 0) = b) : bp1 xs a h = b := (cmp_lt _ _).symm.trans H
theorem bp2_of {xs : List Int} {m h : Nat} {b : Bool} (H : (!decide (kcmp_0 (xs.getD m 0 % 4) (xs.getD h 0 % 4) < 0)) = b) : bp2 xs m h = b := (congrArg (fun b => !b) (cmp_lt _ _).symm).trans H
theorem bp3_of {xs : List Int} {q c : Nat} {b : Bool} (H : (!decide (kcmp_0 (xs.getD (q - c) 0 % 4) (xs.getD c 0 % 4) < 0)) = b) : bp3 xs q c = b := (congrArg (fun b => !b) (cmp_lt _ _).symm).trans H
theorem up_at {xs : List Int} {a b : Nat} (hb : b ≤ xs.length) (h : So.Up kI (So.seg xs a b)) {p q : Nat} (h1 : a ≤ p) (h2 : p ≤ q) (h3 : q < b) : kI (xs.getD p 0) ≤ kI (xs.getD q 0) := by
  rcases Nat.lt_or_ge p q with hq | hq
  · exact (So.up_seg (d := 0) hb).1 h p q h1 hq h3
  · rw [show p = q by omega]; exact Int.le_refl _
theorem bp1_mono {xs : List Int} {a m b : Nat} (hb : b ≤ xs.length) (h : So.Up kI (So.seg xs m b)) : Mono (bp1 xs a) m b := fun c c' h1 h2 h3 h4 => by
  have h5 := of_decide_eq_true h4
  have h6 := up_at hb h h1 h2 h3
  exact decide_eq_true (by omega)
theorem not_dec {p : Prop} [Decidable p] {b : Bool} (h : (!decide p) = b) : decide p = !b := by rw [← h]; cases decide p <;> rfl
theorem bp2_mono {xs : List Int} {a m : Nat} (hb : m ≤ xs.length) (h : So.Up kI (So.seg xs a m)) : Mono (bp2 xs m) a m := fun c c' h1 h2 h3 h4 => by
  have h5 := of_decide_eq_false (not_dec h4)
  have h6 := up_at hb h h1 h2 h3
  show (!decide _) = true
  rw [decide_eq_false (by omega)]; rfl
/-- Where the search in the middle begins and ends. -/
def loM (a m b : Nat) : Nat := if (a + b) / 2 < m then (a + b) / 2 + m - b else a
def hiM (a m b : Nat) : Nat := if (a + b) / 2 < m then (a + b) / 2 else m
theorem lo_t {a m b : Nat} (h : (a + b) / 2 < m) : loM a m b = (a + b) / 2 + m - b ∧ hiM a m b = (a + b) / 2 := ⟨if_pos h, if_pos h⟩
theorem lo_f {a m b : Nat} (h : ¬ (a + b) / 2 < m) : loM a m b = a ∧ hiM a m b = m := ⟨if_neg h, if_neg h⟩
theorem lohi {a m b : Nat} (h1 : a < m) (h2 : m < b) : loM a m b ≤ hiM a m b ∧ a ≤ loM a m b ∧ hiM a m b ≤ m ∧ hiM a m b ≤ (a + b) / 2 := by
  by_cases h : (a + b) / 2 < m
  · rw [(lo_t h).1, (lo_t h).2]; omega
  · rw [(lo_f h).1, (lo_f h).2]; omega
theorem p3_bd {a m b c : Nat} (h1 : a < m) (h2 : m < b) (k1 : loM a m b ≤ c) (k2 : c < hiM a m b) : a ≤ c ∧ c < m ∧ m ≤ (a + b) / 2 + m - 1 - c ∧ (a + b) / 2 + m - 1 - c < b ∧ c ≤ (a + b) / 2 + m - 1 := by
  by_cases h : (a + b) / 2 < m
  · rw [(lo_t h).1] at k1; rw [(lo_t h).2] at k2; omega
  · rw [(lo_f h).1] at k1; rw [(lo_f h).2] at k2; omega
theorem bp3_mono {xs : List Int} {a m b : Nat} (h1 : a < m) (h2 : m < b) (hb : b ≤ xs.length) (u1 : So.Up kI (So.seg xs a m)) (u2 : So.Up kI (So.seg xs m b)) : Mono (bp3 xs ((a + b) / 2 + m - 1)) (loM a m b) (hiM a m b) := fun c c' g1 g2 g3 g4 => by
  have b1 := p3_bd h1 h2 g1 (Nat.lt_of_le_of_lt g2 g3)
  have b2 := p3_bd h1 h2 (Nat.le_trans g1 g2) g3
  have h5 := of_decide_eq_false (not_dec g4)
  have h6 := up_at (by omega) u1 (p := c) (q := c') (by omega) g2 (by omega)
  have h7 := up_at hb u2 (p := (a + b) / 2 + m - 1 - c') (q := (a + b) / 2 + m - 1 - c) (by omega) (by omega) (by omega)
  show (!decide _) = true
  rw [decide_eq_false (by omega)]; rfl
theorem mid_of {xs : List Int} {a m b t : Nat} (h1 : a < m) (h2 : m < b) (hb : b ≤ xs.length) (u1 : So.Up kI (So.seg xs a m)) (u2 : So.Up kI (So.seg xs m b)) {S : Nat × Nat} (hI : BsI (bp3 xs ((a + b) / 2 + m - 1)) (loM a m b) (hiM a m b) t S) (hn : S.2 ≤ S.1) : So.Mid kI 0 xs a m b S.1 := by
  have e := hI.le
  have l1 := hI.lo
  have l2 := hI.hi
  refine ⟨u1, u2, h1, h2, hb, l1, ?_, fun c k1 k2 => ?_, fun c k1 k2 => ?_⟩
  · show S.1 ≤ hiM a m b; omega
  · exact Int.not_lt.1 (of_decide_eq_false (not_dec (hI.f c k1 k2)))
  · exact of_decide_eq_true (not_dec (hI.g c (by omega) k2))
theorem mrg1 {xs : List Int} {a m b s t : Nat} (hm : m = a + 1) (hmb : m ≤ b) (hb : b ≤ xs.length) (u2 : So.Up kI (So.seg xs m b)) {S : Nat × Nat} (hI : BsI (bp1 xs a) m b s S) (hn : S.2 ≤ S.1) (ht : t = S.1 - 1 - a) : So.mvR 0 xs a t = So.sg kI xs a b := by
  have e := hI.le
  have l1 := hI.lo
  have l2 := hI.hi
  subst ht hm
  refine So.mrg_one hb l1 (by omega) u2 (fun p k1 k2 => ?_) (fun p k1 k2 => ?_)
  · exact of_decide_eq_true (hI.f p k1 k2)
  · exact Int.not_lt.1 (of_decide_eq_false (hI.g p (by omega) k2))
theorem mrg2 {xs : List Int} {a m b s t : Nat} (hm : b = m + 1) (ham : a ≤ m) (hb : b ≤ xs.length) (u1 : So.Up kI (So.seg xs a m)) {S : Nat × Nat} (hI : BsI (bp2 xs m) a m s S) (hn : S.2 ≤ S.1) (ht : t = m - S.1) : So.mvL 0 xs m t = So.sg kI xs a b := by
  have e := hI.le
  have l1 := hI.lo
  have l2 := hI.hi
  subst ht hm
  refine So.mrg_last (by omega) l1 (by omega) u1 (fun p k1 k2 => ?_) (fun p k1 k2 => ?_)
  · exact Int.not_lt.1 (of_decide_eq_false (not_dec (hI.f p k1 k2)))
  · exact of_decide_eq_true (not_dec (hI.g p (by omega) k2))
theorem rot_no {xs : List Int} {s m e : Nat} (h1 : s ≤ m) (h2 : m ≤ e) (h : ¬ (s < m ∧ m < e)) : So.rotL xs s m e = xs := by
  have hq : s = m ∨ m = e := by omega
  unfold So.rotL
  rcases hq with hq | hq <;> subst hq
  · rw [show So.seg xs s s = [] by unfold So.seg; rw [List.drop_take]; simp, List.append_nil]
    exact (So.whole h2).symm
  · rw [show So.seg xs m m = [] by unfold So.seg; rw [List.drop_take]; simp, List.append_nil]
    exact (So.whole h1).symm
theorem Mid_hd {xs : List Int} {a m b s : Nat} (h : So.Mid kI 0 xs a m b s) : a ≤ (a + b) / 2 ∧ (a + b) / 2 < b ∧ s ≤ (a + b) / 2 ∧ (a + b) / 2 ≤ (a + b) / 2 + m - s ∧ (a + b) / 2 + m - s ≤ b ∧ a ≤ s ∧ s ≤ m ∧ m ≤ (a + b) / 2 + m - s := by
  obtain ⟨b1, b2, b3, b4⟩ := h.bd
  have h1 := h.am
  have h2 := h.mb
  have h3 : s ≤ hiM a m b := h.hi
  have h4 := (lohi h1 h2).2.2.2
  omega
theorem Mid_a {xs : List Int} {a m b s : Nat} (h : So.Mid kI 0 xs a m b s) (hn : ¬ (a < s ∧ s < (a + b) / 2)) : So.sg kI (So.rotL xs s m ((a + b) / 2 + m - s)) a ((a + b) / 2) = So.rotL xs s m ((a + b) / 2 + m - s) := by
  have hd := Mid_hd h
  obtain ⟨_, u1, u2, _, _⟩ := h.sg
  have hq : s = a ∨ s = (a + b) / 2 := by omega
  rcases hq with hq | hq
  · refine So.sg_id hd.1 ?_
    rw [hq] at u2 ⊢; exact u2
  · refine So.sg_id hd.1 ?_
    rw [← hq]; rw [← hq] at u1; exact u1
theorem up_l {zs : List Int} {x y b : Nat} (h : x = y) (u : So.Up kI (So.seg zs y b)) : So.Up kI (So.seg zs x b) := by subst h; exact u
theorem up_r {zs : List Int} {x y a : Nat} (h : x = y) (u : So.Up kI (So.seg zs a y)) : So.Up kI (So.seg zs a x) := by subst h; exact u
theorem Mid_b {xs : List Int} {a m b s : Nat} (h : So.Mid kI 0 xs a m b s) (hn : ¬ ((a + b) / 2 < (a + b) / 2 + m - s ∧ (a + b) / 2 + m - s < b)) : So.sg kI (So.rotL xs s m ((a + b) / 2 + m - s)) a ((a + b) / 2) = So.sg kI xs a b := by
  have hd := Mid_hd h
  obtain ⟨e0, _, _, u3, u4⟩ := h.sg
  rw [← e0]
  refine (So.sg_id (Nat.le_of_lt hd.2.1) ?_).symm
  have hq : (a + b) / 2 = (a + b) / 2 + m - s ∨ (a + b) / 2 + m - s = b := by omega
  rcases hq with hq | hq
  · exact up_l hq u4
  · exact up_r hq.symm u3
theorem and_dec {p q : Prop} [Decidable p] [Decidable q] (h : (decide p && decide q) = true) : p ∧ q := by
  rw [Bool.and_eq_true] at h
  exact ⟨of_decide_eq_true h.1, of_decide_eq_true h.2⟩
theorem nand_dec {p q : Prop} [Decidable p] [Decidable q] (h : (decide p && decide q) = false) : ¬ (p ∧ q) := fun ⟨hp, hq⟩ => by
  rw [decide_eq_true hp, decide_eq_true hq] at h
  exact absurd h (by decide)
end Go.Proofs.Ytdglhppcfdpcaaa.E
