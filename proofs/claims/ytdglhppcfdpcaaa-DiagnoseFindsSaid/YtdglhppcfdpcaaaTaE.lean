/- The merge's search over Seen, plainly. -/
import Derived.Test.YtdglhppcfdpcaaaTaD
import Derived.Test.YtdglhppcfdpcaaaSoF
set_option linter.unusedVariables false
namespace Go.Proofs.Ytdglhppcfdpcaaa.E
def cp1 (xs : List Sn) (a : Nat) : Nat → Bool := fun h => decide (kS (xs.getD h zSn) < kS (xs.getD a zSn))
def cp2 (xs : List Sn) (m : Nat) : Nat → Bool := fun h => !decide (kS (xs.getD m zSn) < kS (xs.getD h zSn))
def cp3 (xs : List Sn) (q : Nat) : Nat → Bool := fun c => !decide (kS (xs.getD (q - c) zSn) < kS (xs.getD c zSn))
theorem cp1_of {xs : List Sn} {a h : Nat} {b : Bool} (H : decide (kcmp_0 (kSn (xs.getD h zSn).x0 (xs.getD h zSn).x4) (kSn (xs.getD a zSn).x0 (xs.getD a zSn).x4) < 0) = b) : cp1 xs a h = b := (cmp_lt _ _).symm.trans H
theorem cp2_of {xs : List Sn} {m h : Nat} {b : Bool} (H : (!decide (kcmp_0 (kSn (xs.getD m zSn).x0 (xs.getD m zSn).x4) (kSn (xs.getD h zSn).x0 (xs.getD h zSn).x4) < 0)) = b) : cp2 xs m h = b := (congrArg (fun b => !b) (cmp_lt _ _).symm).trans H
theorem cp3_of {xs : List Sn} {q c : Nat} {b : Bool} (H : (!decide (kcmp_0 (kSn (xs.getD (q - c) zSn).x0 (xs.getD (q - c) zSn).x4) (kSn (xs.getD c zSn).x0 (xs.getD c zSn).x4) < 0)) = b) : cp3 xs q c = b := (congrArg (fun b => !b) (cmp_lt _ _).symm).trans H
theorem up_atS {xs : List Sn} {a b : Nat} (hb : b ≤ xs.length) (h : So.Up kS (So.seg xs a b)) {p q : Nat} (h1 : a ≤ p) (h2 : p ≤ q) (h3 : q < b) : kS (xs.getD p zSn) ≤ kS (xs.getD q zSn) := by
  rcases Nat.lt_or_ge p q with hq | hq
  · exact (So.up_seg (d := zSn) hb).1 h p q h1 hq h3
  · rw [show p = q by omega]; exact Int.le_refl _
theorem cp1_mono {xs : List Sn} {a m b : Nat} (hb : b ≤ xs.length) (h : So.Up kS (So.seg xs m b)) : Mono (cp1 xs a) m b := fun c c' h1 h2 h3 h4 => by
  have h5 := of_decide_eq_true h4
  have h6 := up_atS hb h h1 h2 h3
  exact decide_eq_true (by omega)
theorem cp2_mono {xs : List Sn} {a m : Nat} (hb : m ≤ xs.length) (h : So.Up kS (So.seg xs a m)) : Mono (cp2 xs m) a m := fun c c' h1 h2 h3 h4 => by
  have h5 := of_decide_eq_false (not_dec h4)
  have h6 := up_atS hb h h1 h2 h3
  show (!decide _) = true
  rw [decide_eq_false (by omega)]; rfl
theorem cp3_mono {xs : List Sn} {a m b : Nat} (h1 : a < m) (h2 : m < b) (hb : b ≤ xs.length) (u1 : So.Up kS (So.seg xs a m)) (u2 : So.Up kS (So.seg xs m b)) : Mono (cp3 xs ((a + b) / 2 + m - 1)) (loM a m b) (hiM a m b) := fun c c' g1 g2 g3 g4 => by
  have b1 := p3_bd h1 h2 g1 (Nat.lt_of_le_of_lt g2 g3)
  have b2 := p3_bd h1 h2 (Nat.le_trans g1 g2) g3
  have h5 := of_decide_eq_false (not_dec g4)
  have h6 := up_atS (by omega) u1 (p := c) (q := c') (by omega) g2 (by omega)
  have h7 := up_atS hb u2 (p := (a + b) / 2 + m - 1 - c') (q := (a + b) / 2 + m - 1 - c) (by omega) (by omega) (by omega)
  show (!decide _) = true
  rw [decide_eq_false (by omega)]; rfl
theorem mid_ofS {xs : List Sn} {a m b t : Nat} (h1 : a < m) (h2 : m < b) (hb : b ≤ xs.length) (u1 : So.Up kS (So.seg xs a m)) (u2 : So.Up kS (So.seg xs m b)) {S : Nat × Nat} (hI : BsI (cp3 xs ((a + b) / 2 + m - 1)) (loM a m b) (hiM a m b) t S) (hn : S.2 ≤ S.1) : So.Mid kS zSn xs a m b S.1 := by
  have e := hI.le
  have l1 := hI.lo
  have l2 := hI.hi
  refine ⟨u1, u2, h1, h2, hb, l1, ?_, fun c k1 k2 => ?_, fun c k1 k2 => ?_⟩
  · show S.1 ≤ hiM a m b; omega
  · exact Int.not_lt.1 (of_decide_eq_false (not_dec (hI.f c k1 k2)))
  · exact of_decide_eq_true (not_dec (hI.g c (by omega) k2))
theorem mrg1S {xs : List Sn} {a m b s t : Nat} (hm : m = a + 1) (hmb : m ≤ b) (hb : b ≤ xs.length) (u2 : So.Up kS (So.seg xs m b)) {S : Nat × Nat} (hI : BsI (cp1 xs a) m b s S) (hn : S.2 ≤ S.1) (ht : t = S.1 - 1 - a) : So.mvR zSn xs a t = So.sg kS xs a b := by
  have e := hI.le
  have l1 := hI.lo
  have l2 := hI.hi
  subst ht hm
  refine So.mrg_one hb l1 (by omega) u2 (fun p k1 k2 => ?_) (fun p k1 k2 => ?_)
  · exact of_decide_eq_true (hI.f p k1 k2)
  · exact Int.not_lt.1 (of_decide_eq_false (hI.g p (by omega) k2))
theorem mrg2S {xs : List Sn} {a m b s t : Nat} (hm : b = m + 1) (ham : a ≤ m) (hb : b ≤ xs.length) (u1 : So.Up kS (So.seg xs a m)) {S : Nat × Nat} (hI : BsI (cp2 xs m) a m s S) (hn : S.2 ≤ S.1) (ht : t = m - S.1) : So.mvL zSn xs m t = So.sg kS xs a b := by
  have e := hI.le
  have l1 := hI.lo
  have l2 := hI.hi
  subst ht hm
  refine So.mrg_last (by omega) l1 (by omega) u1 (fun p k1 k2 => ?_) (fun p k1 k2 => ?_)
  · exact Int.not_lt.1 (of_decide_eq_false (not_dec (hI.f p k1 k2)))
  · exact of_decide_eq_true (not_dec (hI.g p (by omega) k2))
theorem rot_noS {xs : List Sn} {s m e : Nat} (h1 : s ≤ m) (h2 : m ≤ e) (h : ¬ (s < m ∧ m < e)) : So.rotL xs s m e = xs := by
  have hq : s = m ∨ m = e := by omega
  unfold So.rotL
  rcases hq with hq | hq <;> subst hq
  · rw [show So.seg xs s s = [] by unfold So.seg; rw [List.drop_take]; simp, List.append_nil]
    exact (So.whole h2).symm
  · rw [show So.seg xs m m = [] by unfold So.seg; rw [List.drop_take]; simp, List.append_nil]
    exact (So.whole h1).symm
theorem Mid_hdS {xs : List Sn} {a m b s : Nat} (h : So.Mid kS zSn xs a m b s) : a ≤ (a + b) / 2 ∧ (a + b) / 2 < b ∧ s ≤ (a + b) / 2 ∧ (a + b) / 2 ≤ (a + b) / 2 + m - s ∧ (a + b) / 2 + m - s ≤ b ∧ a ≤ s ∧ s ≤ m ∧ m ≤ (a + b) / 2 + m - s := by
  obtain ⟨b1, b2, b3, b4⟩ := h.bd
  have h1 := h.am
  have h2 := h.mb
  have h3 : s ≤ hiM a m b := h.hi
  have h4 := (lohi h1 h2).2.2.2
  omega
theorem Mid_aS {xs : List Sn} {a m b s : Nat} (h : So.Mid kS zSn xs a m b s) (hn : ¬ (a < s ∧ s < (a + b) / 2)) : So.sg kS (So.rotL xs s m ((a + b) / 2 + m - s)) a ((a + b) / 2) = So.rotL xs s m ((a + b) / 2 + m - s) := by
  have hd := Mid_hdS h
  obtain ⟨_, u1, u2, _, _⟩ := h.sg
  have hq : s = a ∨ s = (a + b) / 2 := by omega
  rcases hq with hq | hq
  · refine So.sg_id hd.1 ?_
    rw [hq] at u2 ⊢; exact u2
  · refine So.sg_id hd.1 ?_
    rw [← hq]; rw [← hq] at u1; exact u1
theorem up_lS {zs : List Sn} {x y b : Nat} (h : x = y) (u : So.Up kS (So.seg zs y b)) : So.Up kS (So.seg zs x b) := by subst h; exact u
theorem up_rS {zs : List Sn} {x y a : Nat} (h : x = y) (u : So.Up kS (So.seg zs a y)) : So.Up kS (So.seg zs a x) := by subst h; exact u
theorem Mid_bS {xs : List Sn} {a m b s : Nat} (h : So.Mid kS zSn xs a m b s) (hn : ¬ ((a + b) / 2 < (a + b) / 2 + m - s ∧ (a + b) / 2 + m - s < b)) : So.sg kS (So.rotL xs s m ((a + b) / 2 + m - s)) a ((a + b) / 2) = So.sg kS xs a b := by
  have hd := Mid_hdS h
  obtain ⟨e0, _, _, u3, u4⟩ := h.sg
  rw [← e0]
  refine (So.sg_id (Nat.le_of_lt hd.2.1) ?_).symm
  have hq : (a + b) / 2 = (a + b) / 2 + m - s ∨ (a + b) / 2 + m - s = b := by omega
  rcases hq with hq | hq
  · exact up_lS hq u4
  · exact up_rS hq.symm u3
end Go.Proofs.Ytdglhppcfdpcaaa.E
