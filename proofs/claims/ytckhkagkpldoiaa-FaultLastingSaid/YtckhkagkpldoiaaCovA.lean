/- FaultCovers in the mode 1. -/
import Derived.Test.YtckhkagkpldoiaaFlX
import Derived.Test.YtckhkagkpldoiaaRvX
import Derived.WalkKit
import Derived.Sort.CutIn
namespace Go.Proofs.Ytckhkagkpldoiaa
open Go.RowKit Go.Shelf
attribute [local go_sem] Oper.semAt_some
set_option linter.unusedVariables false
set_option linter.unusedSimpArgs false

section
variable {P : Program} {T : TypeId} {x y : Operand} {a c : Int} {w : World}
theorem bin_quo_in (h0 : 0 ≤ a) (h1 : a ≤ 9223372036854775807) (h2 : 1 ≤ c) : (do eqGuard .quo T x y (.int .i64 a) (.int .i64 c); Go.binOp .quo T (.int .i64 a) (.int .i64 c) : Sem Value).run P w = .ok (.int .i64 (a / c)) w := by
  have h : c ≠ 0 := by omega
  simp [eqGuard, Go.binOp, Op.intDiv, h, IntWalk.i64_quo a c ⟨h0, h1, h2⟩]
theorem bin_rem_in (h0 : 0 ≤ a) (h2 : c ≠ 0) : (do eqGuard .rem T x y (.int .i64 a) (.int .i64 c); Go.binOp .rem T (.int .i64 a) (.int .i64 c) : Sem Value).run P w = .ok (.int .i64 (a % c)) w := by
  simp [eqGuard, Go.binOp, Op.intDiv, h2, Int.tmod_eq_emod_of_nonneg h0]
theorem eqIT {b : Int} (h : a = b) : (do eqGuard .eql T x y (.int .i64 a) (.int .i64 b); Go.binOp .eql T (.int .i64 a) (.int .i64 b) : Sem Value).run P w = .ok (.bool true) w := by
  subst h; rw [bin_eql]; simp
theorem neIT {b : Int} (h : a ≠ b) : (do eqGuard .neq T x y (.int .i64 a) (.int .i64 b); Go.binOp .neq T (.int .i64 a) (.int .i64 b) : Sem Value).run P w = .ok (.bool true) w := by
  rw [bin_neq]; simp [h]
end
theorem addr_addZ (g m : Nat) : (⟨g, 0, none⟩ : Addr).add m = ⟨g, m, none⟩ := by unfold Addr.add; split <;> simp_all
theorem arXRaw (g k : Nat) (hk : k < 72) (W : World) : (Instr.indexAt 41 (.pointer (some ⟨g, 0, none⟩)) (.int .i64 (k : Int))).run Try.prog W = .ok (.pointer (some ⟨g, k, none⟩)) W := by
  have hz : (sizeOf (Try.prog.elem 41)).run Try.prog W = .ok 1 W := by kernel_rfl
  rw [run_indexAt_array (P := Try.prog) (w := W) 41 ⟨g, 0, none⟩ .i64 (k : Int) (by kernel_rfl), show Try.prog.arrayLen 41 = 72 by kernel_rfl, if_pos (by omega), hz, Result.andThen_ok, Int.toNat_natCast, Nat.mul_one, addr_addZ]

section
variable {k p0 p1 p2 p3 c b v mode q0 q1 q2 q3 : Int} {xs : List UInt8}
theorem fcov_bit (hm : mode = 1 ∨ mode = 2) (hk : k = 1 ∨ k = 2) (h0 : 0 ≤ b) (h1 : b < 576) : fcovers k p0 p1 p2 p3 c b v mode = ((b.toNat / 8 % chN mode : Nat) : Int) := by
  have e1 : whoseE mode b = 0 := if_pos ⟨h0, h1, hm⟩
  have e2 : whoseC mode b = b.toNat / 8 % chN mode := if_pos ⟨h0, h1, hm⟩
  unfold fcovers
  rw [e1, e2]
  rcases hk with rfl | rfl <;> rfl
theorem fcov_out (hk : k = 1 ∨ k = 2) (h : ¬ (0 ≤ b ∧ b < 576)) : fcovers k p0 p1 p2 p3 c b v mode = -1 := by
  have e1 : whoseE mode b = 12 := if_neg fun h2 => h ⟨h2.1, h2.2.1⟩
  unfold fcovers
  rw [e1]
  rcases hk with rfl | rfl <;> rfl
theorem fcov_chip (hk : 3 ≤ k ∧ k ≤ 5) : fcovers k p0 p1 p2 p3 c b v mode = if 0 ≤ c ∧ c < chN mode then c else -1 := by
  have h : k = 3 ∨ k = 4 ∨ k = 5 := by omega
  have hb : fbelow c ((chN mode : Nat) : Int) = decide (0 ≤ c ∧ c < chN mode) := by unfold fbelow; rw [Bool.decide_and]
  unfold fcovers
  rw [hb]
  by_cases hc : 0 ≤ c ∧ c < chN mode
  · rw [if_pos hc, decide_eq_true hc]
    rcases h with rfl | rfl | rfl <;> rfl
  · rw [if_neg hc, decide_eq_false hc]
    rcases h with rfl | rfl | rfl <;> rfl
theorem fcov_else (h1 : ¬ (k = 1 ∨ k = 2)) (h2 : ¬ (3 ≤ k ∧ k ≤ 5)) : fcovers k p0 p1 p2 p3 c b v mode = -1 := by
  have e : ∀ n : Int, k ≠ n → (k == n) = false := fun n h => by simpa using h
  unfold fcovers
  rw [e 1 (by omega), e 2 (by omega), e 3 (by omega), e 4 (by omega), e 5 (by omega)]
  rfl
theorem fcov_none (h1 : mode ≠ 1) (h2 : mode ≠ 2) : fcovers k p0 p1 p2 p3 c b v mode = -1 := by
  by_cases hk : k = 1 ∨ k = 2
  · have e1 : whoseE mode b = 12 := if_neg fun h => by omega
    unfold fcovers
    rw [e1]
    rcases hk with rfl | rfl <;> rfl
  · by_cases hc : 3 ≤ k ∧ k ≤ 5
    · have e : chN mode = 0 := by unfold chN; rw [if_neg h1, if_neg h2]
      rw [fcov_chip hc, if_neg (by rw [e]; omega)]
    · exact fcov_else hk hc
/-- What a fault makes of raw bytes. -/
theorem fa_cases (hm : mode = 1 ∨ mode = 2) (lx : xs.length = 72) :
    fapply k p0 p1 p2 p3 c b v mode q0 q1 q2 q3 xs = xs ∨ (k = 2 ∧ ∃ p : Nat, p < 576 ∧ b = (p : Int) ∧ fapply k p0 p1 p2 p3 c b v mode q0 q1 q2 q3 xs = flipI xs (p : Int)) ∨
      (3 ≤ k ∧ k ≤ 5 ∧ ∃ d : Nat, d < chN mode ∧ c = (d : Int) ∧ fapply k p0 p1 p2 p3 c b v mode q0 q1 q2 q3 xs = chipB mode xs (d : Int) (u8I v)) := by
  unfold fapply
  cases h : (!(flasts k p0 p1 p2 p3 c b v)) || (!(flies k p0 p1 p2 p3 c b v q0 q1 q2 q3))
  · rw [cond_false]
    simp only [Bool.or_eq_false_iff, Bool.not_eq_false'] at h
    have hl := h.1
    unfold flasts at hl
    simp only [Bool.and_eq_true, decide_eq_true_eq] at hl
    cases hk : k == 2
    · rw [cond_false]
      have hk2 : k ≠ 2 := by simpa using hk
      by_cases hc : 0 ≤ c ∧ c < chN mode
      · obtain ⟨d, rfl⟩ := Int.eq_ofNat_of_zero_le hc.1
        exact .inr (.inr ⟨by omega, hl.2, d, by omega, rfl, rfl⟩)
      · exact .inl (chipB_out hc xs _)
    · rw [cond_true]
      have hk2 : k = 2 := by simpa using hk
      by_cases hb : 0 ≤ b ∧ b < 576
      · obtain ⟨p, rfl⟩ := Int.eq_ofNat_of_zero_le hb.1
        unfold forceI
        by_cases e : bitI xs (p : Int) = lowI v
        · rw [if_pos e]; exact .inl rfl
        · rw [if_neg e]; exact .inr (.inl ⟨hk2, p, by omega, rfl, rfl⟩)
      · exact .inl (force_out lx hb v)
  · exact .inl rfl
theorem fa_len (hm : mode = 1 ∨ mode = 2) (lx : xs.length = 72) : (fapply k p0 p1 p2 p3 c b v mode q0 q1 q2 q3 xs).length = 72 := by
  rcases fa_cases (k := k) (p0 := p0) (p1 := p1) (p2 := p2) (p3 := p3) (c := c) (b := b) (v := v) (q0 := q0) (q1 := q1) (q2 := q2) (q3 := q3) hm lx with e | ⟨_, p, _, _, e⟩ | ⟨_, _, d, _, _, e⟩
  · rw [e]; exact lx
  · rw [e, flipI_length, lx]
  · rw [e]; exact chipB_len lx
theorem cov_at (hm : mode = 1 ∨ mode = 2) (lx : xs.length = 72) {i : Nat} (hi : i < 72) (h : (fapply k p0 p1 p2 p3 c b v mode q0 q1 q2 q3 xs).getD i 0 ≠ xs.getD i 0) : ((i % chN mode : Nat) : Int) = fcovers k p0 p1 p2 p3 c b v mode := by
  rcases fa_cases (k := k) (p0 := p0) (p1 := p1) (p2 := p2) (p3 := p3) (c := c) (b := b) (v := v) (q0 := q0) (q1 := q1) (q2 := q2) (q3 := q3) hm lx with e | ⟨hk, p, hp, hb, e⟩ | ⟨h3, h5, d, hd, hc, e⟩
  · rw [e] at h; exact absurd rfl h
  · rw [e, flip_get lx hp] at h
    by_cases hi2 : i = p / 8
    · rw [fcov_bit hm (.inr hk) (by omega) (by omega), hb, Int.toNat_natCast, hi2]
    · rw [if_neg hi2] at h; exact absurd rfl h
  · rw [e, chipB_get hm lx hd _ hi] at h
    by_cases hi2 : i % chN mode = d
    · rw [fcov_chip ⟨h3, h5⟩, if_pos ⟨by omega, by omega⟩, hi2, hc]
    · rw [if_neg hi2] at h; exact absurd rfl h
theorem u8ne {x y : UInt8} (h : (((x.toNat : Int)) != ((y.toNat : Int))) = true) : x ≠ y := by
  rintro rfl
  simp at h
theorem cov_bad {n : Int} (hm : mode = 1 ∨ mode = 2) (hn : (chN mode : Int) = n) (lx : xs.length = 72) {i : Nat} (hi : i < 72)
    (h : (((((fapply k p0 p1 p2 p3 c b v mode q0 q1 q2 q3 xs).getD i 0).toNat : Int) != ((xs.getD i 0).toNat : Int)) && ((i : Int) % n != fcovers k p0 p1 p2 p3 c b v mode)) = true) : False := by
  subst hn
  simp only [Bool.and_eq_true] at h
  have h1 := cov_at hm lx hi (u8ne h.1)
  have h2 := h.2
  rw [← h1] at h2
  simp at h2
theorem covW1 {n : Int} (hm : mode = 1 ∨ mode = 2) (hn : (chN mode : Int) = n) (h : ((fnarrow k p0 p1 p2 p3 c b v && decide (0 ≤ b)) && decide (b < 576)) = true) : fcovers k p0 p1 p2 p3 c b v mode = b / 8 % n := by
  subst hn
  unfold fnarrow at h
  simp only [Bool.and_eq_true, Bool.or_eq_true, beq_iff_eq, decide_eq_true_eq] at h
  rw [fcov_bit hm h.1.1 h.1.2 h.2]
  obtain ⟨p, rfl⟩ := Int.eq_ofNat_of_zero_le h.1.2
  rw [Int.toNat_natCast, Int.natCast_emod, Int.natCast_ediv]
  rfl
theorem covB (h : ((fnarrow k p0 p1 p2 p3 c b v && decide (0 ≤ b)) && decide (b < 576)) = true) : 0 ≤ b ∧ b < 576 := by
  simp only [Bool.and_eq_true, decide_eq_true_eq] at h
  exact ⟨h.1.2, h.2⟩
theorem covW2 {n : Int} (hn : (chN mode : Int) = n) (h : ((((decide (3 ≤ k)) && (decide (k ≤ 5))) && (decide (0 ≤ c))) && (decide (c < n))) = true) : fcovers k p0 p1 p2 p3 c b v mode = c := by
  subst hn
  simp only [Bool.and_eq_true, decide_eq_true_eq] at h
  rw [fcov_chip h.1.1, if_pos ⟨h.1.2, h.2⟩]
theorem covW3 {n : Int} (hn : (chN mode : Int) = n) (h1 : ((fnarrow k p0 p1 p2 p3 c b v && decide (0 ≤ b)) && decide (b < 576)) = false) (h : ((((decide (3 ≤ k)) && (decide (k ≤ 5))) && (decide (0 ≤ c))) && (decide (c < n))) = false) : fcovers k p0 p1 p2 p3 c b v mode = -1 := by
  subst hn
  by_cases hk : k = 1 ∨ k = 2
  · have e : fnarrow k p0 p1 p2 p3 c b v = true := by unfold fnarrow; simpa using hk
    rw [e] at h1
    simp only [Bool.true_and, Bool.and_eq_false_iff, decide_eq_false_iff_not] at h1
    exact fcov_out hk (by omega)
  · by_cases hc : 3 ≤ k ∧ k ≤ 5
    · rw [fcov_chip hc, if_neg]
      simp only [hc.1, hc.2, decide_true, Bool.true_and, Bool.and_eq_false_iff, decide_eq_false_iff_not] at h
      omega
    · exact fcov_else hk hc
theorem cF1 (hm : mode = 1 ∨ mode = 2) (lx : xs.length = 72) : ((!(fnarrow k p0 p1 p2 p3 c b v)) || decide (((expo 1 (fapply k p0 p1 p2 p3 c b v mode q0 q1 q2 q3 xs) xs : Nat) : Int) ≤ 1)) = true := by
  rcases fa_cases (k := k) (p0 := p0) (p1 := p1) (p2 := p2) (p3 := p3) (c := c) (b := b) (v := v) (q0 := q0) (q1 := q1) (q2 := q2) (q3 := q3) hm lx with e | ⟨hk, p, hp, hb, e⟩ | ⟨h3, h5, d, hd, hc, e⟩
  · rw [e, (expo_zero (.inl rfl) lx lx).2 rfl]; simp
  · rw [e, flip_expo (.inl rfl) lx hp]; simp
  · have : fnarrow k p0 p1 p2 p3 c b v = false := by unfold fnarrow; simp; omega
    rw [this]; rfl
theorem cF2 (lx : xs.length = 72) : decide (((expo 2 (fapply k p0 p1 p2 p3 c b v 2 q0 q1 q2 q3 xs) xs : Nat) : Int) ≤ 1) = true := by
  rcases fa_cases (k := k) (p0 := p0) (p1 := p1) (p2 := p2) (p3 := p3) (c := c) (b := b) (v := v) (q0 := q0) (q1 := q1) (q2 := q2) (q3 := q3) (.inr rfl) lx with e | ⟨hk, p, hp, hb, e⟩ | ⟨h3, h5, d, hd, hc, e⟩
  · rw [e, (expo_zero (.inr rfl) lx lx).2 rfl]; simp
  · rw [e, flip_expo (.inr rfl) lx hp]; simp
  · rw [e, expo_comm (chipB_len lx) lx]
    have := chip_expo (mode := 2) (.inr rfl) lx hd (u8I v)
    rw [if_neg (by decide)] at this
    simp; omega
end
attribute [local irreducible] fapply fcovers fnarrow expo forceI chipB

set_option maxRecDepth 100000 in
set_option maxHeartbeats 1000000 in
theorem FaultCovers1_any (k p0 p1 p2 p3 c b v q0 q1 q2 q3 : Int) (xs : List UInt8) (lx : xs.length = 72) (v0 : -9223372036854775808 ≤ b) (v1 : b ≤ 9223372036854775807) (w : World) : Calls Try.prog 6 #[.agg #[.int .i64 k, .int .i64 p0, .int .i64 p1, .int .i64 p2, .int .i64 p3, .int .i64 c, .int .i64 b, .int .i64 v], .int .i64 1, .agg #[.int .i64 q0, .int .i64 q1, .int .i64 q2, .int .i64 q3], .agg (rawV xs)] w fun e w' => e = .returned (.bool true) ∧ Below w.heap.size w w' := by
  obtain ⟨b0, hb0⟩ : ∃ b0, w.heap.size = b0 := ⟨_, rfl⟩
  have HB0 := Lib.hid hb0
  have OW := Lib.hid (Own.start b0 w)
  have OZ := Lib.hid (And.intro hb0 (Nat.le_refl b0))
  clear hb0
  have HX := Lib.hid lx
  have HF := Lib.hid (fa_len (k := k) (p0 := p0) (p1 := p1) (p2 := p2) (p3 := p3) (c := c) (b := b) (v := v) (q0 := q0) (q1 := q1) (q2 := q2) (q3 := q3) (.inl rfl) lx)
  clear lx
  refine (callsIn_wide (n := 6)).1 ?_
  refine callsIn_of_wp_marks Try.func6 rfl trivial ?_ rfl
  simp only [Try.ntmps6, List.size_toArray, List.length_cons, List.length_nil, Nat.reduceAdd, Nat.reduceSub, Array.replicate_succ, Array.replicate_zero, List.push_toArray, List.append_toArray, List.nil_append, List.cons_append]
  gi_upto_region 1 with (first | (refine onlyD 4 rfl ?_; refine own_boxV 4 25 (.tmp 0) rfl rfl rfl (.agg #[.int .i64 k, .int .i64 p0, .int .i64 p1, .int .i64 p2, .int .i64 p3, .int .i64 c, .int .i64 b, .int .i64 v]) rfl #[.int .i64 k, .int .i64 p0, .int .i64 p1, .int .i64 p2, .int .i64 p3, .int .i64 c, .int .i64 b, .int .i64 v] rfl OW OZ ?_; clear OW OZ; intro W g1 OW OZ; simp only [Act.put, List.setIfInBounds_toArray, List.set_cons_succ, List.set_cons_zero]) | (refine onlyD 6 rfl ?_; refine own_boxV 6 23 (.tmp 2) rfl rfl rfl (.agg #[.int .i64 q0, .int .i64 q1, .int .i64 q2, .int .i64 q3]) rfl #[.int .i64 q0, .int .i64 q1, .int .i64 q2, .int .i64 q3] rfl OW OZ ?_; clear OW OZ; intro W g2 OW OZ; simp only [Act.put, List.setIfInBounds_toArray, List.set_cons_succ, List.set_cons_zero]) | (refine onlyD 7 rfl ?_; refine own_boxV 7 41 (.tmp 3) rfl rfl rfl (.agg (rawV xs)) rfl (rawV xs) rfl OW OZ ?_; clear OW OZ; intro W g3 OW OZ; simp only [Act.put, List.setIfInBounds_toArray, List.set_cons_succ, List.set_cons_zero]))
  refine wpIn_region_heldL 2 (atD [[], [0]]) (atV [fun vH _ => vH = .bool true, fun vH _ => vH = .bool false]) BelowR (by kernel_rfl) BelowR.trans (BelowR.refl _)
    (StV.atV (.const _ (.const _ .nil)))
    ⟨?o4x0, ?o4x1, trivial⟩ ?_
  case o4x0 =>
    refine held_call free_wide rfl 15 _ _ rfl (enters_of Try.func15 (by kernel_rfl) rfl) fun xH w' kH hR => ⟨_, mapE0, ?_⟩
    refine (callsIn_wide.2 (anchor11_any  _)).mono ?_
    rintro e w2 ⟨rfl, h2⟩
    exact ⟨_, rfl, rfl, h2⟩
  case o4x1 =>
    exact held_run free_wide rfl (by rfl) BelowR.refl fun xH w' kH hR => ⟨_, run_unO rfl (pT 0 (by kernel_rfl) (by kernel_rfl) (kH 0 (by decide))) rfl, rfl⟩
  intro xH w' hv hR
  have h0 : xH 0 = _ := hv 0 (by omega)
  have h1 : xH 1 = _ := hv 1 (by omega)
  simp only [List.take_succ_cons, List.take_zero, List.drop_succ_cons, List.drop_zero, putsH, Act.put, List.setIfInBounds_toArray, List.set_cons_succ, List.set_cons_zero, h0, h1]
  have OW2 := Lib.hid (OW.out.step hR)
  clear hv hR OW OZ  h0 h1
  have OW := OW2
  clear OW2
  obtain ⟨g5, OZ⟩ := own_size OW HB0
  gi_upto_region 3 with fail
  refine wpIn_region_heldL 6 (atD [[], [0], [1], [2], [2], [2, 4]]) (atV [fun vH _ => vH = .int .i64 1, fun vH _ => vH = .bool false, fun vH _ => vH = .bool false, fun vH _ => vH = undef, fun vH _ => vH = undef, fun vH _ => vH = .bool false]) BelowR (by kernel_rfl) BelowR.trans (BelowR.refl _)
    (StV.atV (.const _ (.const _ (.const _ (.const _ (.const _ (.const _ .nil)))))))
    ⟨?o6x0, ?o6x1, ?o6x2, ?o6x3, ?o6x4, ?o6x5, trivial⟩ ?_
  case o6x0 =>
    exact held_move free_wide rfl BelowR.refl (.tmp 1) (.inl rfl) fun xH w' kH _ => (pO (by kernel_rfl) rfl)
  case o6x1 =>
    exact held_run free_wide rfl (by rfl) BelowR.refl fun xH w' kH hR => ⟨_, run_binO rfl (pT 0 (by kernel_rfl) (by kernel_rfl) (kH 0 (by decide))) rfl (by kernel_rfl), rfl⟩
  case o6x2 =>
    exact held_move free_wide rfl BelowR.refl (.tmp 17) (.inl rfl) fun xH w' kH _ => (pT 1 (by kernel_rfl) (by kernel_rfl) (kH 1 (by decide)))
  case o6x3 =>
    exact heldGd_not free_wide 2 18 true rfl (by kernel_rfl) (by kernel_rfl) (by kernel_rfl) (fun xH w' kH => kH 2 (by decide)) BelowR.refl (fun _ => rfl)
  case o6x4 =>
    exact heldGd_not free_wide 2 18 true rfl (by kernel_rfl) (by kernel_rfl) (by kernel_rfl) (fun xH w' kH => kH 2 (by decide)) BelowR.refl (fun _ => rfl)
  case o6x5 =>
    exact held_run free_wide rfl (by rfl) BelowR.refl fun xH w' kH hR => ⟨_, run_pickF rfl (pT 2 (by kernel_rfl) (by kernel_rfl) (kH 2 (by decide))) rfl, rfl⟩
  intro xH w' hv hR
  have h0 : xH 0 = _ := hv 0 (by omega)
  have h1 : xH 1 = _ := hv 1 (by omega)
  have h2 : xH 2 = _ := hv 2 (by omega)
  have h3 : xH 3 = _ := hv 3 (by omega)
  have h4 : xH 4 = _ := hv 4 (by omega)
  have h5 : xH 5 = _ := hv 5 (by omega)
  simp only [List.take_succ_cons, List.take_zero, List.drop_succ_cons, List.drop_zero, putsH, Act.put, List.setIfInBounds_toArray, List.set_cons_succ, List.set_cons_zero, h0, h1, h2, h3, h4, h5]
  have OW2 := Lib.hid (OW.out.step hR)
  clear hv hR OW OZ  h0 h1 h2 h3 h4 h5
  have OW := OW2
  clear OW2
  obtain ⟨g7, OZ⟩ := own_size OW HB0
  gi_upto_region 5 with fail
  refine wpIn_region_heldL 3 (atD [[], [0], [1]]) (atV [fun vH _ => vH = .int .i64 1, fun vH _ => vH = .int .i64 9, fun vH _ => vH = .int .i64 9]) BelowR (by kernel_rfl) BelowR.trans (BelowR.refl _)
    (StV.atV (.const _ (.const _ (.const _ .nil))))
    ⟨?o8x0, ?o8x1, ?o8x2, trivial⟩ ?_
  case o8x0 =>
    exact held_move free_wide rfl BelowR.refl (.tmp 1) (.inl rfl) fun xH w' kH _ => (pO (by kernel_rfl) rfl)
  case o8x1 =>
    refine held_call free_wide rfl 28 _ _ rfl (enters_of Try.func28 (by kernel_rfl) rfl) fun xH w' kH hR => ⟨_, mapE1 (pT 0 (by kernel_rfl) (by kernel_rfl) (kH 0 (by decide))), ?_⟩
    refine (callsIn_wide.2 ((refChips_any 1) _)).mono ?_
    rintro e w2 ⟨rfl, rfl⟩
    exact ⟨_, rfl, rfl, BelowR.refl _⟩
  case o8x2 =>
    exact held_move free_wide rfl BelowR.refl (.tmp 27) (.inr rfl) fun xH w' kH _ => (pT 1 (by kernel_rfl) (by kernel_rfl) (kH 1 (by decide)))
  intro xH w' hv hR
  have h0 : xH 0 = _ := hv 0 (by omega)
  have h1 : xH 1 = _ := hv 1 (by omega)
  have h2 : xH 2 = _ := hv 2 (by omega)
  simp only [List.take_succ_cons, List.take_zero, List.drop_succ_cons, List.drop_zero, putsH, Act.put, List.setIfInBounds_toArray, List.set_cons_succ, List.set_cons_zero, h0, h1, h2]
  have OW2 := Lib.hid (OW.out.step hR)
  clear hv hR OW OZ  h0 h1 h2
  have OW := OW2
  clear OW2
  obtain ⟨g9, OZ⟩ := own_size OW HB0
  gi_upto_region 6 with fail
  refine wpIn_region_heldL 4 (atD [[], [], [0, 1], [2]]) (atV [fun vH _ => vH = .agg #[.int .i64 k, .int .i64 p0, .int .i64 p1, .int .i64 p2, .int .i64 p3, .int .i64 c, .int .i64 b, .int .i64 v], fun vH _ => vH = .int .i64 1, fun vH _ => vH = .int .i64 (fcovers k p0 p1 p2 p3 c b v 1), fun vH _ => vH = .int .i64 (fcovers k p0 p1 p2 p3 c b v 1)]) BelowR (by kernel_rfl) BelowR.trans (BelowR.refl _)
    (StV.atV (.const _ (.const _ (.const _ (.const _ .nil)))))
    ⟨?o10x0, ?o10x1, ?o10x2, ?o10x3, trivial⟩ ?_
  case o10x0 =>
    exact held_load free_wide rfl BelowR.refl 25 (.tmp 4) rfl fun xH w' kH hR => ⟨_, _, (pO (by kernel_rfl) rfl), ldS OW hR 0 rfl 8 rfl Try.underlying25 rfl rfl (by kernel_rfl), rfl⟩
  case o10x1 =>
    exact held_move free_wide rfl BelowR.refl (.tmp 1) (.inl rfl) fun xH w' kH _ => (pO (by kernel_rfl) rfl)
  case o10x2 =>
    refine held_call free_wide rfl 27 _ _ rfl (enters_of Try.func27 (by kernel_rfl) rfl) fun xH w' kH hR => ⟨_, mapE2 (pT 0 (by kernel_rfl) (by kernel_rfl) (kH 0 (by decide))) (pT 1 (by kernel_rfl) (by kernel_rfl) (kH 1 (by decide))), ?_⟩
    refine (callsIn_wide.2 (fcovers_any k p0 p1 p2 p3 c b v 1 (by omega) (by omega) _)).mono ?_
    rintro e w2 ⟨rfl, h2⟩
    exact ⟨_, rfl, rfl, h2⟩
  case o10x3 =>
    exact held_move free_wide rfl BelowR.refl (.tmp 30) (.inr rfl) fun xH w' kH _ => (pT 2 (by kernel_rfl) (by kernel_rfl) (kH 2 (by decide)))
  intro xH w' hv hR
  have h0 : xH 0 = _ := hv 0 (by omega)
  have h1 : xH 1 = _ := hv 1 (by omega)
  have h2 : xH 2 = _ := hv 2 (by omega)
  have h3 : xH 3 = _ := hv 3 (by omega)
  simp only [List.take_succ_cons, List.take_zero, List.drop_succ_cons, List.drop_zero, putsH, Act.put, List.setIfInBounds_toArray, List.set_cons_succ, List.set_cons_zero, h0, h1, h2, h3]
  have OW2 := Lib.hid (OW.out.step hR)
  clear hv hR OW OZ  h0 h1 h2 h3
  have OW := OW2
  clear OW2
  obtain ⟨g11, OZ⟩ := own_size OW HB0
  gi_upto_region 8 with fail
  obtain ⟨eo121, qeo121⟩ : ∃ e, (fnarrow k p0 p1 p2 p3 c b v) = e := ⟨_, rfl⟩
  obtain ⟨eo125, qeo125⟩ : ∃ e, (decide (0 ≤ b)) = e := ⟨_, rfl⟩
  obtain ⟨eo126, qeo126⟩ : ∃ e, (eo121 && eo125) = e := ⟨_, rfl⟩
  obtain ⟨eo1210, qeo1210⟩ : ∃ e, (decide (b < 576)) = e := ⟨_, rfl⟩
  obtain ⟨eo1211, qeo1211⟩ : ∃ e, (eo126 && eo1210) = e := ⟨_, rfl⟩
  refine wpIn_region_heldL 12 (atD [[], [0], [1], [2], [2, 3], [2, 4], [2, 5], [6], [7], [7, 8], [7, 9], [7, 10]]) (atV [fun vH _ => vH = .agg #[.int .i64 k, .int .i64 p0, .int .i64 p1, .int .i64 p2, .int .i64 p3, .int .i64 c, .int .i64 b, .int .i64 v], fun vH _ => vH = .bool eo121, fun vH _ => vH = .bool eo121, cdV (True ∧ eo121 = true) (fun vH _ => vH = .pointer (some ⟨b0, 6, none⟩)), cdV (True ∧ eo121 = true) (fun vH _ => vH = .int .i64 b), cdV (True ∧ eo121 = true) (fun vH _ => vH = .bool eo125), fun vH _ => vH = .bool eo126, fun vH _ => vH = .bool eo126, cdV (True ∧ eo126 = true) (fun vH _ => vH = .pointer (some ⟨b0, 6, none⟩)), cdV (True ∧ eo126 = true) (fun vH _ => vH = .int .i64 b), cdV (True ∧ eo126 = true) (fun vH _ => vH = .bool eo1210), fun vH _ => vH = .bool eo1211]) BelowR (by kernel_rfl) BelowR.trans (BelowR.refl _)
    (StV.atV (.const _ (.const _ (.const _ (.cons (fun v x y h _ => h) (.cons (fun v x y h _ => h) (.cons (fun v x y h _ => h) (.const _ (.const _ (.cons (fun v x y h _ => h) (.cons (fun v x y h _ => h) (.cons (fun v x y h _ => h) (.const _ .nil)))))))))))))
    ⟨?o12x0, ?o12x1, ?o12x2, ?o12x3, ?o12x4, ?o12x5, ?o12x6, ?o12x7, ?o12x8, ?o12x9, ?o12x10, ?o12x11, trivial⟩ ?_
  case o12x0 =>
    exact held_load free_wide rfl BelowR.refl 25 (.tmp 4) rfl fun xH w' kH hR => ⟨_, _, (pO (by kernel_rfl) rfl), ldS OW hR 0 rfl 8 rfl Try.underlying25 rfl rfl (by kernel_rfl), rfl⟩
  case o12x1 =>
    refine held_call free_wide rfl 22 _ _ rfl (enters_of Try.func22 (by kernel_rfl) rfl) fun xH w' kH hR => ⟨_, mapE1 (pT 0 (by kernel_rfl) (by kernel_rfl) (kH 0 (by decide))), ?_⟩
    refine (callsIn_wide.2 (fnarrow_any k p0 p1 p2 p3 c b v _)).mono ?_
    rintro e w2 ⟨rfl, h2⟩
    exact ⟨_, rfl, (congrArg Value.bool qeo121), h2⟩
  case o12x2 =>
    exact held_move free_wide rfl BelowR.refl (.tmp 32) (.inl rfl) fun xH w' kH _ => (pT 1 (by kernel_rfl) (by kernel_rfl) (kH 1 (by decide)))
  case o12x3 =>
    refine held_guard free_wide 2 33 true True eo121 BelowR.refl rfl (by kernel_rfl) (by kernel_rfl) (by kernel_rfl) (fun xH w' kH => .inl ⟨trivial, kH 2 (by decide)⟩) (fun hC hG => ?_) (fun hN w' => .inr ⟨hN, rfl⟩)
    exact held_runG free_wide hG (by rfl) BelowR.refl fun xH w' kH hR => ⟨_, run_fldO rfl (pO (by kernel_rfl) rfl) (by kernel_rfl), (.inl ⟨hC, rfl⟩)⟩
  case o12x4 =>
    refine held_guard free_wide 2 33 true True eo121 BelowR.refl rfl (by kernel_rfl) (by kernel_rfl) (by kernel_rfl) (fun xH w' kH => .inl ⟨trivial, kH 2 (by decide)⟩) (fun hC hG => ?_) (fun hN w' => .inr ⟨hN, rfl⟩)
    exact held_loadG free_wide hG BelowR.refl 3 (.tmp 34) rfl fun xH w' kH hR => ⟨_, _, (pT 3 (by kernel_rfl) (by kernel_rfl) (cdAt (kH 3 (by decide)) rfl hC)), ldC OW hR 0 rfl rfl naInt, (.inl ⟨hC, rfl⟩)⟩
  case o12x5 =>
    refine held_guard free_wide 2 33 true True eo121 BelowR.refl rfl (by kernel_rfl) (by kernel_rfl) (by kernel_rfl) (fun xH w' kH => .inl ⟨trivial, kH 2 (by decide)⟩) (fun hC hG => ?_) (fun hN w' => .inr ⟨hN, rfl⟩)
    exact held_runG free_wide hG (by rfl) BelowR.refl fun xH w' kH hR => ⟨_, run_binO rfl (pT 4 (by kernel_rfl) (by kernel_rfl) (cdAt (kH 4 (by decide)) rfl hC)) rfl bin_geq, (.inl ⟨hC, congrArg Value.bool qeo125⟩)⟩
  case o12x6 =>
    exact held_run free_wide rfl (by rfl) BelowR.refl fun xH w' kH hR => ⟨_, run_pickAnd rfl (pT 2 (by kernel_rfl) (by kernel_rfl) (kH 2 (by decide))) rfl (fun h => pT 5 (by kernel_rfl) (by kernel_rfl) (cdAt (kH 5 (by decide)) rfl (And.intro trivial h))), (congrArg Value.bool qeo126)⟩
  case o12x7 =>
    exact held_move free_wide rfl BelowR.refl (.tmp 37) (.inl rfl) fun xH w' kH _ => (pT 6 (by kernel_rfl) (by kernel_rfl) (kH 6 (by decide)))
  case o12x8 =>
    refine held_guard free_wide 7 38 true True eo126 BelowR.refl rfl (by kernel_rfl) (by kernel_rfl) (by kernel_rfl) (fun xH w' kH => .inl ⟨trivial, kH 7 (by decide)⟩) (fun hC hG => ?_) (fun hN w' => .inr ⟨hN, rfl⟩)
    exact held_runG free_wide hG (by rfl) BelowR.refl fun xH w' kH hR => ⟨_, run_fldO rfl (pO (by kernel_rfl) rfl) (by kernel_rfl), (.inl ⟨hC, rfl⟩)⟩
  case o12x9 =>
    refine held_guard free_wide 7 38 true True eo126 BelowR.refl rfl (by kernel_rfl) (by kernel_rfl) (by kernel_rfl) (fun xH w' kH => .inl ⟨trivial, kH 7 (by decide)⟩) (fun hC hG => ?_) (fun hN w' => .inr ⟨hN, rfl⟩)
    exact held_loadG free_wide hG BelowR.refl 3 (.tmp 39) rfl fun xH w' kH hR => ⟨_, _, (pT 8 (by kernel_rfl) (by kernel_rfl) (cdAt (kH 8 (by decide)) rfl hC)), ldC OW hR 0 rfl rfl naInt, (.inl ⟨hC, rfl⟩)⟩
  case o12x10 =>
    refine held_guard free_wide 7 38 true True eo126 BelowR.refl rfl (by kernel_rfl) (by kernel_rfl) (by kernel_rfl) (fun xH w' kH => .inl ⟨trivial, kH 7 (by decide)⟩) (fun hC hG => ?_) (fun hN w' => .inr ⟨hN, rfl⟩)
    exact held_runG free_wide hG (by rfl) BelowR.refl fun xH w' kH hR => ⟨_, run_binO rfl (pT 9 (by kernel_rfl) (by kernel_rfl) (cdAt (kH 9 (by decide)) rfl hC)) rfl bin_lss, (.inl ⟨hC, congrArg Value.bool qeo1210⟩)⟩
  case o12x11 =>
    exact held_run free_wide rfl (by rfl) BelowR.refl fun xH w' kH hR => ⟨_, run_pickAnd rfl (pT 7 (by kernel_rfl) (by kernel_rfl) (kH 7 (by decide))) rfl (fun h => pT 10 (by kernel_rfl) (by kernel_rfl) (cdAt (kH 10 (by decide)) rfl (And.intro trivial h))), (congrArg Value.bool qeo1211)⟩
  intro xH w' hv hR
  subst qeo1211 qeo1210 qeo126 qeo125 qeo121
  have h0 : xH 0 = _ := hv 0 (by omega)
  have h1 : xH 1 = _ := hv 1 (by omega)
  have h2 : xH 2 = _ := hv 2 (by omega)
  have h6 : xH 6 = _ := hv 6 (by omega)
  have h7 : xH 7 = _ := hv 7 (by omega)
  have h11 : xH 11 = _ := hv 11 (by omega)
  simp only [List.take_succ_cons, List.take_zero, List.drop_succ_cons, List.drop_zero, putsH, Act.put, List.setIfInBounds_toArray, List.set_cons_succ, List.set_cons_zero, h0, h1, h2, h6, h7, h11]
  have OW2 := Lib.hid (OW.out.step hR)
  clear hv hR OW OZ  h0 h1 h2 h6 h7 h11
  have OW := OW2
  clear OW2
  obtain ⟨g13, OZ⟩ := own_size OW HB0
  cases hB14 : (((fnarrow k p0 p1 p2 p3 c b v) && (decide (0 ≤ b))) && (decide (b < 576)))
  case true =>
    have hbb := covB hB14
    gi_upto_region 9 with fail
    refine wpIn_region_heldL 6 (atD [[], [0], [1], [], [2, 3], [4]]) (atV [fun vH _ => vH = .pointer (some ⟨b0, 6, none⟩), fun vH _ => vH = .int .i64 b, fun vH _ => vH = .int .i64 (b / 8), fun vH _ => vH = .int .i64 9, fun vH _ => vH = .int .i64 (b / 8 % 9), fun vH _ => vH = .int .i64 (b / 8 % 9)]) BelowR (by kernel_rfl) BelowR.trans (BelowR.refl _)
      (StV.atV (.const _ (.const _ (.const _ (.const _ (.const _ (.const _ .nil)))))))
      ⟨?o15x0, ?o15x1, ?o15x2, ?o15x3, ?o15x4, ?o15x5, trivial⟩ ?_
    case o15x0 =>
      exact held_run free_wide rfl (by rfl) BelowR.refl fun xH w' kH hR => ⟨_, run_fldO rfl (pO (by kernel_rfl) rfl) (by kernel_rfl), rfl⟩
    case o15x1 =>
      exact held_load free_wide rfl BelowR.refl 3 (.tmp 43) rfl fun xH w' kH hR => ⟨_, _, (pT 0 (by kernel_rfl) (by kernel_rfl) (kH 0 (by decide))), ldC OW hR 0 rfl rfl naInt, rfl⟩
    case o15x2 =>
      exact held_run free_wide rfl (by rfl) BelowR.refl fun xH w' kH hR => ⟨_, run_binO rfl (pT 1 (by kernel_rfl) (by kernel_rfl) (kH 1 (by decide))) rfl (bin_quo_in (by omega) (by omega) (by omega)), rfl⟩
    case o15x3 =>
      exact held_move free_wide rfl BelowR.refl (.tmp 9) (.inl rfl) fun xH w' kH _ => (pO (by kernel_rfl) rfl)
    case o15x4 =>
      exact held_run free_wide rfl (by rfl) BelowR.refl fun xH w' kH hR => ⟨_, run_binO rfl (pT 2 (by kernel_rfl) (by kernel_rfl) (kH 2 (by decide))) (pT 3 (by kernel_rfl) (by kernel_rfl) (kH 3 (by decide))) (bin_rem_in (by omega) (by omega)), rfl⟩
    case o15x5 =>
      exact held_move free_wide rfl BelowR.refl (.tmp 47) (.inr rfl) fun xH w' kH _ => (pT 4 (by kernel_rfl) (by kernel_rfl) (kH 4 (by decide)))
    intro xH w' hv hR
    have h0 : xH 0 = _ := hv 0 (by omega)
    have h1 : xH 1 = _ := hv 1 (by omega)
    have h2 : xH 2 = _ := hv 2 (by omega)
    have h3 : xH 3 = _ := hv 3 (by omega)
    have h4 : xH 4 = _ := hv 4 (by omega)
    have h5 : xH 5 = _ := hv 5 (by omega)
    simp only [List.take_succ_cons, List.take_zero, List.drop_succ_cons, List.drop_zero, putsH, Act.put, List.setIfInBounds_toArray, List.set_cons_succ, List.set_cons_zero, h0, h1, h2, h3, h4, h5]
    have OW2 := Lib.hid (OW.out.step hR)
    clear hv hR OW OZ  h0 h1 h2 h3 h4 h5
    have OW := OW2
    clear OW2
    obtain ⟨g16, OZ⟩ := own_size OW HB0
    gi_wp2_with (first | (refine onlyD 69 rfl ?_; refine own_loadSubV 69 0 0 25 (.tmp 4) rfl rfl rfl rfl rfl [.int .i64 k, .int .i64 p0, .int .i64 p1, .int .i64 p2, .int .i64 p3, .int .i64 c, .int .i64 b, .int .i64 v] rfl Try.underlying25 rfl (by kernel_rfl) OW ?_; simp only [Act.put, List.setIfInBounds_toArray, List.set_cons_succ, List.set_cons_zero]) | (refine onlyD 71 rfl ?_; refine own_loadSubV 71 1 0 23 (.tmp 6) rfl rfl rfl rfl rfl [.int .i64 q0, .int .i64 q1, .int .i64 q2, .int .i64 q3] rfl Try.underlying23 rfl (by kernel_rfl) OW ?_; simp only [Act.put, List.setIfInBounds_toArray, List.set_cons_succ, List.set_cons_zero]) | (refine onlyD 72 rfl ?_; refine own_loadRowV 72 2 41 (.tmp 7) rfl rfl rfl rfl rfl _ Try.underlying41 rfl (by rw [rawV_size, (show (xs).length = 72 from HX.out)]; exact infoRaw) OW ?_; simp only [Act.put, List.setIfInBounds_toArray, List.set_cons_succ, List.set_cons_zero]))
    refine ⟨trivial, ?_⟩
    refine (callsIn_wide.2 (fapply_any k p0 p1 p2 p3 c b v 1 q0 q1 q2 q3 xs (show (xs).length = 72 from HX.out) (by omega) (by omega) _)).mono ?_
    rintro e Wg17 ⟨rfl, hbw⟩
    obtain ⟨g17, OW2, OZ2⟩ := own_call OW OZ hbw
    clear hbw OW OZ
    have OW := OW2
    have OZ := OZ2
    clear OW2 OZ2
    gi_wp2_with (first | (refine onlyD 12 rfl ?_; refine own_allocV 12 41 rfl rfl rfl (rawV zero72) alRaw OW OZ ?_; clear OW OZ; intro W g18 OW OZ; simp only [Act.put, List.setIfInBounds_toArray, List.set_cons_succ, List.set_cons_zero]) | (refine onlyO (.store 41 (.tmp 12) (.tmp 73)) rfl ?_; refine own_storeRow 3 41 (.tmp 12) (.tmp 73) rfl rfl rfl rfl (rawV (fapply k p0 p1 p2 p3 c b v 1 q0 q1 q2 q3 xs)) rfl (by rw [rawV_size, rawV_size, (show ((fapply k p0 p1 p2 p3 c b v 1 q0 q1 q2 q3 xs)).length = 72 from HF.out), (show (zero72).length = 72 from (show zero72.length = 72 from rfl))]) (rawV_one _) (by rw [rawV_size, (show ((fapply k p0 p1 p2 p3 c b v 1 q0 q1 q2 q3 xs)).length = 72 from HF.out)]; exact infoRaw) _ rfl OW OZ ?_; clear OW OZ; intro W OW OZ; simp only [Act.put, List.setIfInBounds_toArray, List.set_cons_succ, List.set_cons_zero]))
    gi_loopw [74] (fun z74 wr => ∃ j : Nat, j ≤ 72 ∧ z74 = .int .i64 (j : Int) ∧ Own b0 w [(b0, Obj.cells (#[.int .i64 k, .int .i64 p0, .int .i64 p1, .int .i64 p2, .int .i64 p3, .int .i64 c, .int .i64 b, .int .i64 v]) 25 (0, 0)), (g1, Obj.cells (#[.int .i64 q0, .int .i64 q1, .int .i64 q2, .int .i64 q3]) 23 (0, 0)), (g2, Obj.cells (rawV xs) 41 (0, 0)), (g17, Obj.cells (rawV (fapply k p0 p1 p2 p3 c b v 1 q0 q1 q2 q3 xs)) 41 (0, 0))] wr) (fun z74 _ => 72 - (intOf z74).toNat)
    case atStart => exact ⟨0, by omega, rfl, (by skip; exact OW.out)⟩
    case round =>
      obtain ⟨j, hk20, rfl, hO⟩ := hrel
      clear OW OZ
      have OW := Lib.hid hO
      obtain ⟨g19, OZ⟩ := own_size OW HB0
      clear hO
      gi_upto_region 14 with fail
      obtain ⟨eo210, qeo210⟩ : ∃ e, (decide ((j : Int) < 72)) = e := ⟨_, rfl⟩
      refine wpIn_region_heldL 1 (atD [[]]) (atV [fun vH _ => vH = .bool eo210]) BelowR (by kernel_rfl) BelowR.trans (BelowR.refl _)
        (StV.atV (.const _ .nil))
        ⟨?o21x0, trivial⟩ ?_
      case o21x0 =>
        exact held_run free_wide rfl (by rfl) BelowR.refl fun xH w' kH hR => ⟨_, run_binO rfl (pO (by kernel_rfl) rfl) rfl bin_lss, (congrArg Value.bool qeo210)⟩
      intro xH w' hv hR
      subst qeo210
      have h0 : xH 0 = _ := hv 0 (by omega)
      simp only [List.take_succ_cons, List.take_zero, List.drop_succ_cons, List.drop_zero, putsH, Act.put, List.setIfInBounds_toArray, List.set_cons_succ, List.set_cons_zero, h0]
      have OW2 := Lib.hid (OW.out.step hR)
      clear hv hR OW OZ  h0
      have OW := OW2
      clear OW2
      obtain ⟨g22, OZ⟩ := own_size OW HB0
      cases hB23 : (decide ((j : Int) < 72))
      case true =>
        have dhB23 := of_decide_eq_true hB23
        gi_upto_region 15 with fail
        refine wpIn_region_heldL 2 (atD [[], [0]]) (atV [fun vH _ => vH = .int .i64 (j : Int), fun vH _ => vH = .int .i64 (j : Int)]) BelowR (by kernel_rfl) BelowR.trans (BelowR.refl _)
          (StV.atV (.const _ (.const _ .nil)))
          ⟨?o24x0, ?o24x1, trivial⟩ ?_
        case o24x0 =>
          exact held_move free_wide rfl BelowR.refl (.tmp 74) (.inl rfl) fun xH w' kH _ => (pO (by kernel_rfl) rfl)
        case o24x1 =>
          exact held_move free_wide rfl BelowR.refl (.tmp 76) (.inr rfl) fun xH w' kH _ => (pT 0 (by kernel_rfl) (by kernel_rfl) (kH 0 (by decide)))
        intro xH w' hv hR
        have h0 : xH 0 = _ := hv 0 (by omega)
        have h1 : xH 1 = _ := hv 1 (by omega)
        simp only [List.take_succ_cons, List.take_zero, List.drop_succ_cons, List.drop_zero, putsH, Act.put, List.setIfInBounds_toArray, List.set_cons_succ, List.set_cons_zero, h0, h1]
        have OW2 := Lib.hid (OW.out.step hR)
        clear hv hR OW OZ  h0 h1
        have OW := OW2
        clear OW2
        obtain ⟨g25, OZ⟩ := own_size OW HB0
        gi_upto_region 16 with fail
        obtain ⟨eo266, qeo266⟩ : ∃ e, ((((fapply k p0 p1 p2 p3 c b v 1 q0 q1 q2 q3 xs).getD j 0).toNat : Int) != ((xs.getD j 0).toNat : Int)) = e := ⟨_, rfl⟩
        obtain ⟨eo2612, qeo2612⟩ : ∃ e, (((j : Int) % 9) != (fcovers k p0 p1 p2 p3 c b v 1)) = e := ⟨_, rfl⟩
        obtain ⟨eo2613, qeo2613⟩ : ∃ e, (eo266 && eo2612) = e := ⟨_, rfl⟩
        refine wpIn_region_held 14 (atD [[], [0], [1], [], [3], [4], [2, 5], [6], [7], [7], [7, 8, 9], [7], [7, 10, 11], [7, 12]]) (atV [fun vH _ => vH = .int .i64 (j : Int), fun vH _ => vH = .pointer (some ⟨g17, j, none⟩), fun vH _ => vH = .int .u8 (((fapply k p0 p1 p2 p3 c b v 1 q0 q1 q2 q3 xs).getD j 0).toNat : Int), fun vH _ => vH = .int .i64 (j : Int), fun vH _ => vH = .pointer (some ⟨g2, j, none⟩), fun vH _ => vH = .int .u8 ((xs.getD j 0).toNat : Int), fun vH _ => vH = .bool eo266, fun vH _ => vH = .bool eo266, cdV (True ∧ eo266 = true) (fun vH _ => vH = .int .i64 (j : Int)), cdV (True ∧ eo266 = true) (fun vH _ => vH = .int .i64 9), cdV (True ∧ eo266 = true) (fun vH _ => vH = .int .i64 ((j : Int) % 9)), cdV (True ∧ eo266 = true) (fun vH _ => vH = .int .i64 (fcovers k p0 p1 p2 p3 c b v 1)), cdV (True ∧ eo266 = true) (fun vH _ => vH = .bool eo2612), fun vH _ => vH = .bool eo2613]) BelowR (by kernel_rfl) (by kernel_rfl) BelowR.trans (BelowR.drew _)
          (StV.atV (.const _ (.const _ (.const _ (.const _ (.const _ (.const _ (.const _ (.const _ (.cons (fun v x y h _ => h) (.cons (fun v x y h _ => h) (.cons (fun v x y h _ => h) (.cons (fun v x y h _ => h) (.cons (fun v x y h _ => h) (.const _ .nil)))))))))))))))
          ⟨?o26x0, ?o26x1, ?o26x2, ?o26x3, ?o26x4, ?o26x5, ?o26x6, ?o26x7, ?o26x8, ?o26x9, ?o26x10, ?o26x11, ?o26x12, ?o26x13, trivial⟩ ?_
        case o26x0 =>
          exact held_move free_wide rfl BelowR.refl (.tmp 13) (.inl rfl) fun xH w' kH _ => (pO (by kernel_rfl) rfl)
        case o26x1 =>
          exact held_run free_wide rfl (by rfl) BelowR.refl fun xH w' kH hR => ⟨_, run_idxO (vx := .pointer (some ⟨g17, 0, none⟩)) (vi := .int .i64 (j : Int)) rfl (pO (by kernel_rfl) rfl) (pT 0 (by kernel_rfl) (by kernel_rfl) (kH 0 (by decide))) (arXRaw _ j (by omega) _), rfl⟩
        case o26x2 =>
          exact held_load free_wide rfl BelowR.refl 5 (.tmp 78) rfl fun xH w' kH hR => ⟨_, _, (pT 1 (by kernel_rfl) (by kernel_rfl) (kH 1 (by decide))), ldC OW hR 3 rfl (rawV_get _ (by rw [(show ((fapply k p0 p1 p2 p3 c b v 1 q0 q1 q2 q3 xs)).length = 72 from HF.out)]; omega)) naU8, rfl⟩
        case o26x3 =>
          exact held_move free_wide rfl BelowR.refl (.tmp 13) (.inl rfl) fun xH w' kH _ => (pO (by kernel_rfl) rfl)
        case o26x4 =>
          exact held_run free_wide rfl (by rfl) BelowR.refl fun xH w' kH hR => ⟨_, run_idxO (vx := .pointer (some ⟨g2, 0, none⟩)) (vi := .int .i64 (j : Int)) rfl (pO (by kernel_rfl) rfl) (pT 3 (by kernel_rfl) (by kernel_rfl) (kH 3 (by decide))) (arXRaw _ j (by omega) _), rfl⟩
        case o26x5 =>
          exact held_load free_wide rfl BelowR.refl 5 (.tmp 81) rfl fun xH w' kH hR => ⟨_, _, (pT 4 (by kernel_rfl) (by kernel_rfl) (kH 4 (by decide))), ldC OW hR 2 rfl (rawV_get _ (by rw [(show (xs).length = 72 from HX.out)]; omega)) naU8, rfl⟩
        case o26x6 =>
          exact held_run free_wide rfl (by rfl) BelowR.refl fun xH w' kH hR => ⟨_, run_binO rfl (pT 2 (by kernel_rfl) (by kernel_rfl) (kH 2 (by decide))) (pT 5 (by kernel_rfl) (by kernel_rfl) (kH 5 (by decide))) bin_neq, (congrArg Value.bool qeo266)⟩
        case o26x7 =>
          exact held_move free_wide rfl BelowR.refl (.tmp 83) (.inl rfl) fun xH w' kH _ => (pT 6 (by kernel_rfl) (by kernel_rfl) (kH 6 (by decide)))
        case o26x8 =>
          refine held_guard free_wide 7 84 true True eo266 BelowR.refl rfl (by kernel_rfl) (by kernel_rfl) (by kernel_rfl) (fun xH w' kH => .inl ⟨trivial, kH 7 (by decide)⟩) (fun hC hG => ?_) (fun hN w' => .inr ⟨hN, rfl⟩)
          exact held_moveG free_wide hG BelowR.refl (.tmp 13) (.inl rfl) fun xH w' kH _ => .inl ⟨hC, (pO (by kernel_rfl) rfl)⟩
        case o26x9 =>
          refine held_guard free_wide 7 84 true True eo266 BelowR.refl rfl (by kernel_rfl) (by kernel_rfl) (by kernel_rfl) (fun xH w' kH => .inl ⟨trivial, kH 7 (by decide)⟩) (fun hC hG => ?_) (fun hN w' => .inr ⟨hN, rfl⟩)
          exact held_moveG free_wide hG BelowR.refl (.tmp 9) (.inl rfl) fun xH w' kH _ => .inl ⟨hC, (pO (by kernel_rfl) rfl)⟩
        case o26x10 =>
          refine held_guard free_wide 7 84 true True eo266 BelowR.refl rfl (by kernel_rfl) (by kernel_rfl) (by kernel_rfl) (fun xH w' kH => .inl ⟨trivial, kH 7 (by decide)⟩) (fun hC hG => ?_) (fun hN w' => .inr ⟨hN, rfl⟩)
          exact held_runG free_wide hG (by rfl) BelowR.refl fun xH w' kH hR => ⟨_, run_binO rfl (pT 8 (by kernel_rfl) (by kernel_rfl) (cdAt (kH 8 (by decide)) rfl hC)) (pT 9 (by kernel_rfl) (by kernel_rfl) (cdAt (kH 9 (by decide)) rfl hC)) (bin_rem_in (by subst qeo266; omega) (by subst qeo266; omega)), (.inl ⟨hC, rfl⟩)⟩
        case o26x11 =>
          refine held_guard free_wide 7 84 true True eo266 BelowR.refl rfl (by kernel_rfl) (by kernel_rfl) (by kernel_rfl) (fun xH w' kH => .inl ⟨trivial, kH 7 (by decide)⟩) (fun hC hG => ?_) (fun hN w' => .inr ⟨hN, rfl⟩)
          exact held_moveG free_wide hG BelowR.refl (.tmp 10) (.inl rfl) fun xH w' kH _ => .inl ⟨hC, (pO (by kernel_rfl) rfl)⟩
        case o26x12 =>
          refine held_guard free_wide 7 84 true True eo266 BelowR.refl rfl (by kernel_rfl) (by kernel_rfl) (by kernel_rfl) (fun xH w' kH => .inl ⟨trivial, kH 7 (by decide)⟩) (fun hC hG => ?_) (fun hN w' => .inr ⟨hN, rfl⟩)
          exact held_runG free_wide hG (by rfl) BelowR.refl fun xH w' kH hR => ⟨_, run_binO rfl (pT 10 (by kernel_rfl) (by kernel_rfl) (cdAt (kH 10 (by decide)) rfl hC)) (pT 11 (by kernel_rfl) (by kernel_rfl) (cdAt (kH 11 (by decide)) rfl hC)) bin_neq, (.inl ⟨hC, congrArg Value.bool qeo2612⟩)⟩
        case o26x13 =>
          exact held_run free_wide rfl (by rfl) BelowR.refl fun xH w' kH hR => ⟨_, run_pickAnd rfl (pT 7 (by kernel_rfl) (by kernel_rfl) (kH 7 (by decide))) rfl (fun h => pT 12 (by kernel_rfl) (by kernel_rfl) (cdAt (kH 12 (by decide)) rfl (And.intro trivial h))), (congrArg Value.bool qeo2613)⟩
        intro xH w' hv hR
        subst qeo2613 qeo2612 qeo266
        have h0 : xH 0 = _ := hv 0 (by omega)
        have h1 : xH 1 = _ := hv 1 (by omega)
        have h2 : xH 2 = _ := hv 2 (by omega)
        have h3 : xH 3 = _ := hv 3 (by omega)
        have h4 : xH 4 = _ := hv 4 (by omega)
        have h5 : xH 5 = _ := hv 5 (by omega)
        have h6 : xH 6 = _ := hv 6 (by omega)
        have h7 : xH 7 = _ := hv 7 (by omega)
        have h13 : xH 13 = _ := hv 13 (by omega)
        simp only [List.take_succ_cons, List.take_zero, List.drop_succ_cons, List.drop_zero, putsH, Act.put, List.setIfInBounds_toArray, List.set_cons_succ, List.set_cons_zero, h0, h1, h2, h3, h4, h5, h6, h7, h13]
        have OW2 := Lib.hid (OW.out.step hR)
        clear hv hR OW OZ  h0 h1 h2 h3 h4 h5 h6 h7 h13
        have OW := OW2
        clear OW2
        obtain ⟨g27, OZ⟩ := own_size OW HB0
        cases hB28 : (((((fapply k p0 p1 p2 p3 c b v 1 q0 q1 q2 q3 xs).getD j 0).toNat : Int) != ((xs.getD j 0).toNat : Int)) && (((j : Int) % 9) != (fcovers k p0 p1 p2 p3 c b v 1)))
        case true =>
          gi_wp2
          refine leaves_own [] _ (Nat.le_of_eq HB0.out) (by simpa using OW.out) ?_
          intro W' hO
          exact ⟨.bool false, by simp [results, Try.results6, go_sem], (by first | rfl | exact (cov_bad (mode := 1) (n := 9) (i := j) (.inl rfl) rfl HX.out (by omega) (by assumption)).elim | (rw [cF1 (.inl rfl) HX.out]; rfl) | (rw [cF1 (.inl rfl) HX.out, cF2 HX.out]; rfl)), hO.done HB0⟩
        gi_wp2_with (first | (refine onlyD 91 rfl ?_; refine own_valV 91 rfl rfl rfl (.int .i64 ((j : Int) + 1)) (run_binO (vx := .int .i64 (j : Int)) (vy := .int .i64 1) rfl rfl rfl (bin_add_in (by omega) (by omega))) ?_; simp only [Act.put, List.setIfInBounds_toArray, List.set_cons_succ, List.set_cons_zero]))
        go_roundw
        case rel => exact ⟨j + 1, by omega, by go_num, (by skip; exact OW.out)⟩
        case measure => (simp [intOf] <;> omega)
      have dhB23 := of_decide_eq_false hB23
      obtain rfl : j = 72 := by omega
      gi_upto_region 19 with fail
      obtain ⟨eo295, qeo295⟩ : ∃ e, (fnarrow k p0 p1 p2 p3 c b v) = e := ⟨_, rfl⟩
      obtain ⟨eo2911, qeo2911⟩ : ∃ e, (decide (((expo 1 (fapply k p0 p1 p2 p3 c b v 1 q0 q1 q2 q3 xs) xs : Nat) : Int) ≤ 1)) = e := ⟨_, rfl⟩
      obtain ⟨eo2912, qeo2912⟩ : ∃ e, ((!eo295) || eo2911) = e := ⟨_, rfl⟩
      obtain ⟨eo2921, qeo2921⟩ : ∃ e, (decide (((expo 2 (fapply k p0 p1 p2 p3 c b v 1 q0 q1 q2 q3 xs) xs : Nat) : Int) ≤ 1)) = e := ⟨_, rfl⟩
      obtain ⟨eo2923, qeo2923⟩ : ∃ e, (eo2912 && true) = e := ⟨_, rfl⟩
      refine wpIn_region_heldL 25 (atD [[], [], [0, 1], [2], [3], [3, 4], [3, 5], [3, 6], [7], [7], [7, 8, 9], [7, 10], [3, 7, 11], [3, 12], [13], [14], [14, 15], [14, 16], [17], [17], [17, 18, 19], [17, 20], [14, 17, 21], [14, 22], [23]]) (atV [fun vH _ => vH = .int .i64 (fcovers k p0 p1 p2 p3 c b v 1), fun vH _ => vH = .int .i64 (b / 8 % 9), fun vH _ => vH = .bool true, fun vH _ => vH = .bool true, fun vH _ => vH = .agg #[.int .i64 k, .int .i64 p0, .int .i64 p1, .int .i64 p2, .int .i64 p3, .int .i64 c, .int .i64 b, .int .i64 v], fun vH _ => vH = .bool eo295, fun vH _ => vH = .bool (!eo295), fun vH _ => vH = .bool (!eo295), cdV (True ∧ (!eo295) = false) (fun vH _ => vH = .agg (rawV (fapply k p0 p1 p2 p3 c b v 1 q0 q1 q2 q3 xs))), cdV (True ∧ (!eo295) = false) (fun vH _ => vH = .agg (rawV xs)), cdV (True ∧ (!eo295) = false) (fun vH _ => vH = .int .i64 ((expo 1 (fapply k p0 p1 p2 p3 c b v 1 q0 q1 q2 q3 xs) xs : Nat) : Int)), cdV (True ∧ (!eo295) = false) (fun vH _ => vH = .bool eo2911), fun vH _ => vH = .bool eo2912, fun vH _ => vH = .bool eo2912, fun vH _ => vH = .bool eo2912, cdV (True ∧ eo2912 = true) (fun vH _ => vH = .int .i64 1), cdV (True ∧ eo2912 = true) (fun vH _ => vH = .bool true), cdV (True ∧ eo2912 = true) (fun vH _ => vH = .bool true), cdV ((True ∧ eo2912 = true) ∧ true = false) (fun vH _ => vH = .agg (rawV (fapply k p0 p1 p2 p3 c b v 1 q0 q1 q2 q3 xs))), cdV ((True ∧ eo2912 = true) ∧ true = false) (fun vH _ => vH = .agg (rawV xs)), cdV ((True ∧ eo2912 = true) ∧ true = false) (fun vH _ => vH = .int .i64 ((expo 2 (fapply k p0 p1 p2 p3 c b v 1 q0 q1 q2 q3 xs) xs : Nat) : Int)), cdV ((True ∧ eo2912 = true) ∧ true = false) (fun vH _ => vH = .bool eo2921), cdV (True ∧ eo2912 = true) (fun vH _ => vH = .bool true), fun vH _ => vH = .bool eo2923, fun vH _ => vH = .bool eo2923]) BelowR (by kernel_rfl) BelowR.trans (BelowR.refl _)
        (StV.atV (.const _ (.const _ (.const _ (.const _ (.const _ (.const _ (.const _ (.const _ (.cons (fun v x y h _ => h) (.cons (fun v x y h _ => h) (.cons (fun v x y h _ => h) (.cons (fun v x y h _ => h) (.const _ (.const _ (.const _ (.cons (fun v x y h _ => h) (.cons (fun v x y h _ => h) (.cons (fun v x y h _ => h) (.cons (fun v x y h _ => h) (.cons (fun v x y h _ => h) (.cons (fun v x y h _ => h) (.cons (fun v x y h _ => h) (.cons (fun v x y h _ => h) (.const _ (.const _ .nil))))))))))))))))))))))))))
        ⟨?o29x0, ?o29x1, ?o29x2, ?o29x3, ?o29x4, ?o29x5, ?o29x6, ?o29x7, ?o29x8, ?o29x9, ?o29x10, ?o29x11, ?o29x12, ?o29x13, ?o29x14, ?o29x15, ?o29x16, ?o29x17, ?o29x18, ?o29x19, ?o29x20, ?o29x21, ?o29x22, ?o29x23, ?o29x24, trivial⟩ ?_
      case o29x0 =>
        exact held_move free_wide rfl BelowR.refl (.tmp 10) (.inl rfl) fun xH w' kH _ => (pO (by kernel_rfl) rfl)
      case o29x1 =>
        exact held_move free_wide rfl BelowR.refl (.tmp 11) (.inl rfl) fun xH w' kH _ => (pO (by kernel_rfl) rfl)
      case o29x2 =>
        exact held_run free_wide rfl (by rfl) BelowR.refl fun xH w' kH hR => ⟨_, run_binO rfl (pT 0 (by kernel_rfl) (by kernel_rfl) (kH 0 (by decide))) (pT 1 (by kernel_rfl) (by kernel_rfl) (kH 1 (by decide))) (eqIT (by first | exact covW1 (.inl rfl) rfl (by assumption) | exact covW2 rfl (by assumption) | exact covW3 rfl (by assumption) (by assumption))), rfl⟩
      case o29x3 =>
        exact held_move free_wide rfl BelowR.refl (.tmp 94) (.inl rfl) fun xH w' kH _ => (pT 2 (by kernel_rfl) (by kernel_rfl) (kH 2 (by decide)))
      case o29x4 =>
        exact held_loadG free_wide (heldGd_some 3 95 true rfl (by kernel_rfl) (by kernel_rfl) (by kernel_rfl) (fun xH w' kH => kH 3 (by decide))) BelowR.refl 25 (.tmp 4) rfl fun xH w' kH hR => ⟨_, _, (pO (by kernel_rfl) rfl), ldS OW hR 0 rfl 8 rfl Try.underlying25 rfl rfl (by kernel_rfl), rfl⟩
      case o29x5 =>
        refine held_callG free_wide (heldGd_some 3 95 true rfl (by kernel_rfl) (by kernel_rfl) (by kernel_rfl) (fun xH w' kH => kH 3 (by decide))) 22 _ _ rfl (enters_of Try.func22 (by kernel_rfl) rfl) fun xH w' kH hR => ⟨_, mapE1 (pT 4 (by kernel_rfl) (by kernel_rfl) (kH 4 (by decide))), ?_⟩
        refine (callsIn_wide.2 (fnarrow_any k p0 p1 p2 p3 c b v _)).mono ?_
        rintro e w2 ⟨rfl, h2⟩
        exact ⟨_, rfl, (congrArg Value.bool qeo295), h2⟩
      case o29x6 =>
        exact held_runG free_wide (heldGd_some 3 95 true rfl (by kernel_rfl) (by kernel_rfl) (by kernel_rfl) (fun xH w' kH => kH 3 (by decide))) (by rfl) BelowR.refl fun xH w' kH hR => ⟨_, run_unO rfl (pT 5 (by kernel_rfl) (by kernel_rfl) (kH 5 (by decide))) rfl, rfl⟩
      case o29x7 =>
        exact held_moveG free_wide (heldGd_some 3 95 true rfl (by kernel_rfl) (by kernel_rfl) (by kernel_rfl) (fun xH w' kH => kH 3 (by decide))) BelowR.refl (.tmp 98) (.inl rfl) fun xH w' kH _ => (pT 6 (by kernel_rfl) (by kernel_rfl) (kH 6 (by decide)))
      case o29x8 =>
        refine held_guard free_wide 7 99 false True (!eo295) BelowR.refl rfl (by kernel_rfl) (by kernel_rfl) (by kernel_rfl) (fun xH w' kH => .inl ⟨trivial, kH 7 (by decide)⟩) (fun hC hG => ?_) (fun hN w' => .inr ⟨hN, rfl⟩)
        exact held_loadG free_wide hG BelowR.refl 41 (.tmp 12) rfl fun xH w' kH hR => ⟨_, _, (pO (by kernel_rfl) rfl), ldR OW hR 3 rfl Try.underlying41 rfl (by rw [rawV_size, (show ((fapply k p0 p1 p2 p3 c b v 1 q0 q1 q2 q3 xs)).length = 72 from HF.out)]; exact infoRaw), (.inl ⟨hC, rfl⟩)⟩
      case o29x9 =>
        refine held_guard free_wide 7 99 false True (!eo295) BelowR.refl rfl (by kernel_rfl) (by kernel_rfl) (by kernel_rfl) (fun xH w' kH => .inl ⟨trivial, kH 7 (by decide)⟩) (fun hC hG => ?_) (fun hN w' => .inr ⟨hN, rfl⟩)
        exact held_loadG free_wide hG BelowR.refl 41 (.tmp 7) rfl fun xH w' kH hR => ⟨_, _, (pO (by kernel_rfl) rfl), ldR OW hR 2 rfl Try.underlying41 rfl (by rw [rawV_size, (show (xs).length = 72 from HX.out)]; exact infoRaw), (.inl ⟨hC, rfl⟩)⟩
      case o29x10 =>
        refine held_guard free_wide 7 99 false True (!eo295) BelowR.refl rfl (by kernel_rfl) (by kernel_rfl) (by kernel_rfl) (fun xH w' kH => .inl ⟨trivial, kH 7 (by decide)⟩) (fun hC hG => ?_) (fun hN w' => .inr ⟨hN, rfl⟩)
        refine held_callG free_wide hG 29 _ _ rfl (enters_of Try.func29 (by kernel_rfl) rfl) fun xH w' kH hR => ⟨_, mapE3 rfl (pT 8 (by kernel_rfl) (by kernel_rfl) (cdAt (kH 8 (by decide)) rfl hC)) (pT 9 (by kernel_rfl) (by kernel_rfl) (cdAt (kH 9 (by decide)) rfl hC)), ?_⟩
        refine (callsIn_wide.2 (refExp_any 1 (fapply k p0 p1 p2 p3 c b v 1 q0 q1 q2 q3 xs) xs (show ((fapply k p0 p1 p2 p3 c b v 1 q0 q1 q2 q3 xs)).length = 72 from HF.out) (show (xs).length = 72 from HX.out) _)).mono ?_
        rintro e w2 ⟨rfl, h2⟩
        exact ⟨_, rfl, (.inl ⟨hC, rfl⟩), h2⟩
      case o29x11 =>
        refine held_guard free_wide 7 99 false True (!eo295) BelowR.refl rfl (by kernel_rfl) (by kernel_rfl) (by kernel_rfl) (fun xH w' kH => .inl ⟨trivial, kH 7 (by decide)⟩) (fun hC hG => ?_) (fun hN w' => .inr ⟨hN, rfl⟩)
        exact held_runG free_wide hG (by rfl) BelowR.refl fun xH w' kH hR => ⟨_, run_binO rfl (pT 10 (by kernel_rfl) (by kernel_rfl) (cdAt (kH 10 (by decide)) rfl hC)) rfl bin_leq, (.inl ⟨hC, congrArg Value.bool qeo2911⟩)⟩
      case o29x12 =>
        exact held_runG free_wide (heldGd_some 3 95 true rfl (by kernel_rfl) (by kernel_rfl) (by kernel_rfl) (fun xH w' kH => kH 3 (by decide))) (by rfl) BelowR.refl fun xH w' kH hR => ⟨_, run_pickOr rfl (pT 7 (by kernel_rfl) (by kernel_rfl) (kH 7 (by decide))) rfl (fun h => pT 11 (by kernel_rfl) (by kernel_rfl) (cdAt (kH 11 (by decide)) rfl (And.intro trivial h))), (congrArg Value.bool qeo2912)⟩
      case o29x13 =>
        exact held_run free_wide rfl (by rfl) BelowR.refl fun xH w' kH hR => ⟨_, run_pickT rfl (pT 3 (by kernel_rfl) (by kernel_rfl) (kH 3 (by decide))) (pT 12 (by kernel_rfl) (by kernel_rfl) (kH 12 (by decide))), rfl⟩
      case o29x14 =>
        exact held_move free_wide rfl BelowR.refl (.tmp 105) (.inl rfl) fun xH w' kH _ => (pT 13 (by kernel_rfl) (by kernel_rfl) (kH 13 (by decide)))
      case o29x15 =>
        refine held_guard free_wide 14 106 true True eo2912 BelowR.refl rfl (by kernel_rfl) (by kernel_rfl) (by kernel_rfl) (fun xH w' kH => .inl ⟨trivial, kH 14 (by decide)⟩) (fun hC hG => ?_) (fun hN w' => .inr ⟨hN, rfl⟩)
        exact held_moveG free_wide hG BelowR.refl (.tmp 1) (.inl rfl) fun xH w' kH _ => .inl ⟨hC, (pO (by kernel_rfl) rfl)⟩
      case o29x16 =>
        refine held_guard free_wide 14 106 true True eo2912 BelowR.refl rfl (by kernel_rfl) (by kernel_rfl) (by kernel_rfl) (fun xH w' kH => .inl ⟨trivial, kH 14 (by decide)⟩) (fun hC hG => ?_) (fun hN w' => .inr ⟨hN, rfl⟩)
        exact held_runG free_wide hG (by rfl) BelowR.refl fun xH w' kH hR => ⟨_, run_binO rfl (pT 15 (by kernel_rfl) (by kernel_rfl) (cdAt (kH 15 (by decide)) rfl hC)) rfl (by kernel_rfl), (.inl ⟨hC, rfl⟩)⟩
      case o29x17 =>
        refine held_guard free_wide 14 106 true True eo2912 BelowR.refl rfl (by kernel_rfl) (by kernel_rfl) (by kernel_rfl) (fun xH w' kH => .inl ⟨trivial, kH 14 (by decide)⟩) (fun hC hG => ?_) (fun hN w' => .inr ⟨hN, rfl⟩)
        exact held_moveG free_wide hG BelowR.refl (.tmp 108) (.inl rfl) fun xH w' kH _ => .inl ⟨hC, (pT 16 (by kernel_rfl) (by kernel_rfl) (cdAt (kH 16 (by decide)) rfl hC))⟩
      case o29x18 =>
        refine held_guard free_wide 17 109 false (True ∧ eo2912 = true) true BelowR.refl rfl (by kernel_rfl) (by kernel_rfl) (by kernel_rfl) (fun xH w' kH => kH 17 (by decide)) (fun hC hG => ?_) (fun hN w' => .inr ⟨hN, rfl⟩)
        exact held_loadG free_wide hG BelowR.refl 41 (.tmp 12) rfl fun xH w' kH hR => ⟨_, _, (pO (by kernel_rfl) rfl), ldR OW hR 3 rfl Try.underlying41 rfl (by rw [rawV_size, (show ((fapply k p0 p1 p2 p3 c b v 1 q0 q1 q2 q3 xs)).length = 72 from HF.out)]; exact infoRaw), (.inl ⟨hC, rfl⟩)⟩
      case o29x19 =>
        refine held_guard free_wide 17 109 false (True ∧ eo2912 = true) true BelowR.refl rfl (by kernel_rfl) (by kernel_rfl) (by kernel_rfl) (fun xH w' kH => kH 17 (by decide)) (fun hC hG => ?_) (fun hN w' => .inr ⟨hN, rfl⟩)
        exact held_loadG free_wide hG BelowR.refl 41 (.tmp 7) rfl fun xH w' kH hR => ⟨_, _, (pO (by kernel_rfl) rfl), ldR OW hR 2 rfl Try.underlying41 rfl (by rw [rawV_size, (show (xs).length = 72 from HX.out)]; exact infoRaw), (.inl ⟨hC, rfl⟩)⟩
      case o29x20 =>
        refine held_guard free_wide 17 109 false (True ∧ eo2912 = true) true BelowR.refl rfl (by kernel_rfl) (by kernel_rfl) (by kernel_rfl) (fun xH w' kH => kH 17 (by decide)) (fun hC hG => ?_) (fun hN w' => .inr ⟨hN, rfl⟩)
        refine held_callG free_wide hG 29 _ _ rfl (enters_of Try.func29 (by kernel_rfl) rfl) fun xH w' kH hR => ⟨_, mapE3 rfl (pT 18 (by kernel_rfl) (by kernel_rfl) (cdAt (kH 18 (by decide)) rfl hC)) (pT 19 (by kernel_rfl) (by kernel_rfl) (cdAt (kH 19 (by decide)) rfl hC)), ?_⟩
        refine (callsIn_wide.2 (refExp_any 2 (fapply k p0 p1 p2 p3 c b v 1 q0 q1 q2 q3 xs) xs (show ((fapply k p0 p1 p2 p3 c b v 1 q0 q1 q2 q3 xs)).length = 72 from HF.out) (show (xs).length = 72 from HX.out) _)).mono ?_
        rintro e w2 ⟨rfl, h2⟩
        exact ⟨_, rfl, (.inl ⟨hC, rfl⟩), h2⟩
      case o29x21 =>
        refine held_guard free_wide 17 109 false (True ∧ eo2912 = true) true BelowR.refl rfl (by kernel_rfl) (by kernel_rfl) (by kernel_rfl) (fun xH w' kH => kH 17 (by decide)) (fun hC hG => ?_) (fun hN w' => .inr ⟨hN, rfl⟩)
        exact held_runG free_wide hG (by rfl) BelowR.refl fun xH w' kH hR => ⟨_, run_binO rfl (pT 20 (by kernel_rfl) (by kernel_rfl) (cdAt (kH 20 (by decide)) rfl hC)) rfl bin_leq, (.inl ⟨hC, congrArg Value.bool qeo2921⟩)⟩
      case o29x22 =>
        refine held_guard free_wide 14 106 true True eo2912 BelowR.refl rfl (by kernel_rfl) (by kernel_rfl) (by kernel_rfl) (fun xH w' kH => .inl ⟨trivial, kH 14 (by decide)⟩) (fun hC hG => ?_) (fun hN w' => .inr ⟨hN, rfl⟩)
        exact held_runG free_wide hG (by rfl) BelowR.refl fun xH w' kH hR => ⟨_, run_pickT rfl (pT 17 (by kernel_rfl) (by kernel_rfl) (cdAt (kH 17 (by decide)) rfl hC)) rfl, (.inl ⟨hC, rfl⟩)⟩
      case o29x23 =>
        exact held_run free_wide rfl (by rfl) BelowR.refl fun xH w' kH hR => ⟨_, run_pickAnd rfl (pT 14 (by kernel_rfl) (by kernel_rfl) (kH 14 (by decide))) rfl (fun h => pT 22 (by kernel_rfl) (by kernel_rfl) (cdAt (kH 22 (by decide)) rfl (And.intro trivial h))), (congrArg Value.bool qeo2923)⟩
      case o29x24 =>
        exact held_move free_wide rfl BelowR.refl (.tmp 115) (.inr rfl) fun xH w' kH _ => (pT 23 (by kernel_rfl) (by kernel_rfl) (kH 23 (by decide)))
      intro xH w' hv hR
      subst qeo2923 qeo2921 qeo2912 qeo2911 qeo295
      have h0 : xH 0 = _ := hv 0 (by omega)
      have h1 : xH 1 = _ := hv 1 (by omega)
      have h2 : xH 2 = _ := hv 2 (by omega)
      have h3 : xH 3 = _ := hv 3 (by omega)
      have h4 : xH 4 = _ := hv 4 (by omega)
      have h5 : xH 5 = _ := hv 5 (by omega)
      have h6 : xH 6 = _ := hv 6 (by omega)
      have h7 : xH 7 = _ := hv 7 (by omega)
      have h12 : xH 12 = _ := hv 12 (by omega)
      have h13 : xH 13 = _ := hv 13 (by omega)
      have h14 : xH 14 = _ := hv 14 (by omega)
      have h23 : xH 23 = _ := hv 23 (by omega)
      have h24 : xH 24 = _ := hv 24 (by omega)
      simp only [List.take_succ_cons, List.take_zero, List.drop_succ_cons, List.drop_zero, putsH, Act.put, List.setIfInBounds_toArray, List.set_cons_succ, List.set_cons_zero, h0, h1, h2, h3, h4, h5, h6, h7, h12, h13, h14, h23, h24]
      have OW2 := Lib.hid (OW.out.step hR)
      clear hv hR OW OZ  h0 h1 h2 h3 h4 h5 h6 h7 h12 h13 h14 h23 h24
      have OW := OW2
      clear OW2
      obtain ⟨g30, OZ⟩ := own_size OW HB0
      gi_wp2
      refine leaves_own [] _ (Nat.le_of_eq HB0.out) (by simpa using OW.out) ?_
      intro W' hO
      exact ⟨.bool (((!(fnarrow k p0 p1 p2 p3 c b v)) || (decide (((expo 1 (fapply k p0 p1 p2 p3 c b v 1 q0 q1 q2 q3 xs) xs : Nat) : Int) ≤ 1))) && true), by simp [results, Try.results6, go_sem], (by first | rfl | exact (cov_bad (mode := 1) (n := 9) (i := j) (.inl rfl) rfl HX.out (by omega) (by assumption)).elim | (rw [cF1 (.inl rfl) HX.out]; rfl) | (rw [cF1 (.inl rfl) HX.out, cF2 HX.out]; rfl)), hO.done HB0⟩
  gi_upto_region 10 with fail
  obtain ⟨eo312, qeo312⟩ : ∃ e, (decide (3 ≤ k)) = e := ⟨_, rfl⟩
  obtain ⟨eo316, qeo316⟩ : ∃ e, (decide (k ≤ 5)) = e := ⟨_, rfl⟩
  obtain ⟨eo317, qeo317⟩ : ∃ e, (eo312 && eo316) = e := ⟨_, rfl⟩
  obtain ⟨eo3111, qeo3111⟩ : ∃ e, (decide (0 ≤ c)) = e := ⟨_, rfl⟩
  obtain ⟨eo3112, qeo3112⟩ : ∃ e, (eo317 && eo3111) = e := ⟨_, rfl⟩
  obtain ⟨eo3117, qeo3117⟩ : ∃ e, (decide (c < 9)) = e := ⟨_, rfl⟩
  obtain ⟨eo3118, qeo3118⟩ : ∃ e, (eo3112 && eo3117) = e := ⟨_, rfl⟩
  refine wpIn_region_heldL 19 (atD [[], [0], [1], [2], [3], [3, 4], [3, 5], [3, 6], [7], [8], [8, 9], [8, 10], [8, 11], [12], [13], [13, 14], [13], [13, 15, 16], [13, 17]]) (atV [fun vH _ => vH = .pointer (some ⟨b0, 0, none⟩), fun vH _ => vH = .int .i64 k, fun vH _ => vH = .bool eo312, fun vH _ => vH = .bool eo312, cdV (True ∧ eo312 = true) (fun vH _ => vH = .pointer (some ⟨b0, 0, none⟩)), cdV (True ∧ eo312 = true) (fun vH _ => vH = .int .i64 k), cdV (True ∧ eo312 = true) (fun vH _ => vH = .bool eo316), fun vH _ => vH = .bool eo317, fun vH _ => vH = .bool eo317, cdV (True ∧ eo317 = true) (fun vH _ => vH = .pointer (some ⟨b0, 5, none⟩)), cdV (True ∧ eo317 = true) (fun vH _ => vH = .int .i64 c), cdV (True ∧ eo317 = true) (fun vH _ => vH = .bool eo3111), fun vH _ => vH = .bool eo3112, fun vH _ => vH = .bool eo3112, cdV (True ∧ eo3112 = true) (fun vH _ => vH = .pointer (some ⟨b0, 5, none⟩)), cdV (True ∧ eo3112 = true) (fun vH _ => vH = .int .i64 c), cdV (True ∧ eo3112 = true) (fun vH _ => vH = .int .i64 9), cdV (True ∧ eo3112 = true) (fun vH _ => vH = .bool eo3117), fun vH _ => vH = .bool eo3118]) BelowR (by kernel_rfl) BelowR.trans (BelowR.refl _)
    (StV.atV (.const _ (.const _ (.const _ (.const _ (.cons (fun v x y h _ => h) (.cons (fun v x y h _ => h) (.cons (fun v x y h _ => h) (.const _ (.const _ (.cons (fun v x y h _ => h) (.cons (fun v x y h _ => h) (.cons (fun v x y h _ => h) (.const _ (.const _ (.cons (fun v x y h _ => h) (.cons (fun v x y h _ => h) (.cons (fun v x y h _ => h) (.cons (fun v x y h _ => h) (.const _ .nil))))))))))))))))))))
    ⟨?o31x0, ?o31x1, ?o31x2, ?o31x3, ?o31x4, ?o31x5, ?o31x6, ?o31x7, ?o31x8, ?o31x9, ?o31x10, ?o31x11, ?o31x12, ?o31x13, ?o31x14, ?o31x15, ?o31x16, ?o31x17, ?o31x18, trivial⟩ ?_
  case o31x0 =>
    exact held_run free_wide rfl (by rfl) BelowR.refl fun xH w' kH hR => ⟨_, run_fldO rfl (pO (by kernel_rfl) rfl) (by kernel_rfl), rfl⟩
  case o31x1 =>
    exact held_load free_wide rfl BelowR.refl 3 (.tmp 48) rfl fun xH w' kH hR => ⟨_, _, (pT 0 (by kernel_rfl) (by kernel_rfl) (kH 0 (by decide))), ldC OW hR 0 rfl rfl naInt, rfl⟩
  case o31x2 =>
    exact held_run free_wide rfl (by rfl) BelowR.refl fun xH w' kH hR => ⟨_, run_binO rfl (pT 1 (by kernel_rfl) (by kernel_rfl) (kH 1 (by decide))) rfl bin_geq, (congrArg Value.bool qeo312)⟩
  case o31x3 =>
    exact held_move free_wide rfl BelowR.refl (.tmp 50) (.inl rfl) fun xH w' kH _ => (pT 2 (by kernel_rfl) (by kernel_rfl) (kH 2 (by decide)))
  case o31x4 =>
    refine held_guard free_wide 3 51 true True eo312 BelowR.refl rfl (by kernel_rfl) (by kernel_rfl) (by kernel_rfl) (fun xH w' kH => .inl ⟨trivial, kH 3 (by decide)⟩) (fun hC hG => ?_) (fun hN w' => .inr ⟨hN, rfl⟩)
    exact held_runG free_wide hG (by rfl) BelowR.refl fun xH w' kH hR => ⟨_, run_fldO rfl (pO (by kernel_rfl) rfl) (by kernel_rfl), (.inl ⟨hC, rfl⟩)⟩
  case o31x5 =>
    refine held_guard free_wide 3 51 true True eo312 BelowR.refl rfl (by kernel_rfl) (by kernel_rfl) (by kernel_rfl) (fun xH w' kH => .inl ⟨trivial, kH 3 (by decide)⟩) (fun hC hG => ?_) (fun hN w' => .inr ⟨hN, rfl⟩)
    exact held_loadG free_wide hG BelowR.refl 3 (.tmp 52) rfl fun xH w' kH hR => ⟨_, _, (pT 4 (by kernel_rfl) (by kernel_rfl) (cdAt (kH 4 (by decide)) rfl hC)), ldC OW hR 0 rfl rfl naInt, (.inl ⟨hC, rfl⟩)⟩
  case o31x6 =>
    refine held_guard free_wide 3 51 true True eo312 BelowR.refl rfl (by kernel_rfl) (by kernel_rfl) (by kernel_rfl) (fun xH w' kH => .inl ⟨trivial, kH 3 (by decide)⟩) (fun hC hG => ?_) (fun hN w' => .inr ⟨hN, rfl⟩)
    exact held_runG free_wide hG (by rfl) BelowR.refl fun xH w' kH hR => ⟨_, run_binO rfl (pT 5 (by kernel_rfl) (by kernel_rfl) (cdAt (kH 5 (by decide)) rfl hC)) rfl bin_leq, (.inl ⟨hC, congrArg Value.bool qeo316⟩)⟩
  case o31x7 =>
    exact held_run free_wide rfl (by rfl) BelowR.refl fun xH w' kH hR => ⟨_, run_pickAnd rfl (pT 3 (by kernel_rfl) (by kernel_rfl) (kH 3 (by decide))) rfl (fun h => pT 6 (by kernel_rfl) (by kernel_rfl) (cdAt (kH 6 (by decide)) rfl (And.intro trivial h))), (congrArg Value.bool qeo317)⟩
  case o31x8 =>
    exact held_move free_wide rfl BelowR.refl (.tmp 55) (.inl rfl) fun xH w' kH _ => (pT 7 (by kernel_rfl) (by kernel_rfl) (kH 7 (by decide)))
  case o31x9 =>
    refine held_guard free_wide 8 56 true True eo317 BelowR.refl rfl (by kernel_rfl) (by kernel_rfl) (by kernel_rfl) (fun xH w' kH => .inl ⟨trivial, kH 8 (by decide)⟩) (fun hC hG => ?_) (fun hN w' => .inr ⟨hN, rfl⟩)
    exact held_runG free_wide hG (by rfl) BelowR.refl fun xH w' kH hR => ⟨_, run_fldO rfl (pO (by kernel_rfl) rfl) (by kernel_rfl), (.inl ⟨hC, rfl⟩)⟩
  case o31x10 =>
    refine held_guard free_wide 8 56 true True eo317 BelowR.refl rfl (by kernel_rfl) (by kernel_rfl) (by kernel_rfl) (fun xH w' kH => .inl ⟨trivial, kH 8 (by decide)⟩) (fun hC hG => ?_) (fun hN w' => .inr ⟨hN, rfl⟩)
    exact held_loadG free_wide hG BelowR.refl 3 (.tmp 57) rfl fun xH w' kH hR => ⟨_, _, (pT 9 (by kernel_rfl) (by kernel_rfl) (cdAt (kH 9 (by decide)) rfl hC)), ldC OW hR 0 rfl rfl naInt, (.inl ⟨hC, rfl⟩)⟩
  case o31x11 =>
    refine held_guard free_wide 8 56 true True eo317 BelowR.refl rfl (by kernel_rfl) (by kernel_rfl) (by kernel_rfl) (fun xH w' kH => .inl ⟨trivial, kH 8 (by decide)⟩) (fun hC hG => ?_) (fun hN w' => .inr ⟨hN, rfl⟩)
    exact held_runG free_wide hG (by rfl) BelowR.refl fun xH w' kH hR => ⟨_, run_binO rfl (pT 10 (by kernel_rfl) (by kernel_rfl) (cdAt (kH 10 (by decide)) rfl hC)) rfl bin_geq, (.inl ⟨hC, congrArg Value.bool qeo3111⟩)⟩
  case o31x12 =>
    exact held_run free_wide rfl (by rfl) BelowR.refl fun xH w' kH hR => ⟨_, run_pickAnd rfl (pT 8 (by kernel_rfl) (by kernel_rfl) (kH 8 (by decide))) rfl (fun h => pT 11 (by kernel_rfl) (by kernel_rfl) (cdAt (kH 11 (by decide)) rfl (And.intro trivial h))), (congrArg Value.bool qeo3112)⟩
  case o31x13 =>
    exact held_move free_wide rfl BelowR.refl (.tmp 60) (.inl rfl) fun xH w' kH _ => (pT 12 (by kernel_rfl) (by kernel_rfl) (kH 12 (by decide)))
  case o31x14 =>
    refine held_guard free_wide 13 61 true True eo3112 BelowR.refl rfl (by kernel_rfl) (by kernel_rfl) (by kernel_rfl) (fun xH w' kH => .inl ⟨trivial, kH 13 (by decide)⟩) (fun hC hG => ?_) (fun hN w' => .inr ⟨hN, rfl⟩)
    exact held_runG free_wide hG (by rfl) BelowR.refl fun xH w' kH hR => ⟨_, run_fldO rfl (pO (by kernel_rfl) rfl) (by kernel_rfl), (.inl ⟨hC, rfl⟩)⟩
  case o31x15 =>
    refine held_guard free_wide 13 61 true True eo3112 BelowR.refl rfl (by kernel_rfl) (by kernel_rfl) (by kernel_rfl) (fun xH w' kH => .inl ⟨trivial, kH 13 (by decide)⟩) (fun hC hG => ?_) (fun hN w' => .inr ⟨hN, rfl⟩)
    exact held_loadG free_wide hG BelowR.refl 3 (.tmp 62) rfl fun xH w' kH hR => ⟨_, _, (pT 14 (by kernel_rfl) (by kernel_rfl) (cdAt (kH 14 (by decide)) rfl hC)), ldC OW hR 0 rfl rfl naInt, (.inl ⟨hC, rfl⟩)⟩
  case o31x16 =>
    refine held_guard free_wide 13 61 true True eo3112 BelowR.refl rfl (by kernel_rfl) (by kernel_rfl) (by kernel_rfl) (fun xH w' kH => .inl ⟨trivial, kH 13 (by decide)⟩) (fun hC hG => ?_) (fun hN w' => .inr ⟨hN, rfl⟩)
    exact held_moveG free_wide hG BelowR.refl (.tmp 9) (.inl rfl) fun xH w' kH _ => .inl ⟨hC, (pO (by kernel_rfl) rfl)⟩
  case o31x17 =>
    refine held_guard free_wide 13 61 true True eo3112 BelowR.refl rfl (by kernel_rfl) (by kernel_rfl) (by kernel_rfl) (fun xH w' kH => .inl ⟨trivial, kH 13 (by decide)⟩) (fun hC hG => ?_) (fun hN w' => .inr ⟨hN, rfl⟩)
    exact held_runG free_wide hG (by rfl) BelowR.refl fun xH w' kH hR => ⟨_, run_binO rfl (pT 15 (by kernel_rfl) (by kernel_rfl) (cdAt (kH 15 (by decide)) rfl hC)) (pT 16 (by kernel_rfl) (by kernel_rfl) (cdAt (kH 16 (by decide)) rfl hC)) bin_lss, (.inl ⟨hC, congrArg Value.bool qeo3117⟩)⟩
  case o31x18 =>
    exact held_run free_wide rfl (by rfl) BelowR.refl fun xH w' kH hR => ⟨_, run_pickAnd rfl (pT 13 (by kernel_rfl) (by kernel_rfl) (kH 13 (by decide))) rfl (fun h => pT 17 (by kernel_rfl) (by kernel_rfl) (cdAt (kH 17 (by decide)) rfl (And.intro trivial h))), (congrArg Value.bool qeo3118)⟩
  intro xH w' hv hR
  subst qeo3118 qeo3117 qeo3112 qeo3111 qeo317 qeo316 qeo312
  have h0 : xH 0 = _ := hv 0 (by omega)
  have h1 : xH 1 = _ := hv 1 (by omega)
  have h2 : xH 2 = _ := hv 2 (by omega)
  have h3 : xH 3 = _ := hv 3 (by omega)
  have h7 : xH 7 = _ := hv 7 (by omega)
  have h8 : xH 8 = _ := hv 8 (by omega)
  have h12 : xH 12 = _ := hv 12 (by omega)
  have h13 : xH 13 = _ := hv 13 (by omega)
  have h18 : xH 18 = _ := hv 18 (by omega)
  simp only [List.take_succ_cons, List.take_zero, List.drop_succ_cons, List.drop_zero, putsH, Act.put, List.setIfInBounds_toArray, List.set_cons_succ, List.set_cons_zero, h0, h1, h2, h3, h7, h8, h12, h13, h18]
  have OW2 := Lib.hid (OW.out.step hR)
  clear hv hR OW OZ  h0 h1 h2 h3 h7 h8 h12 h13 h18
  have OW := OW2
  clear OW2
  obtain ⟨g32, OZ⟩ := own_size OW HB0
  cases hB33 : ((((decide (3 ≤ k)) && (decide (k ≤ 5))) && (decide (0 ≤ c))) && (decide (c < 9)))
  case true =>
    gi_upto_region 11 with fail
    refine wpIn_region_heldL 3 (atD [[], [0], [1]]) (atV [fun vH _ => vH = .pointer (some ⟨b0, 5, none⟩), fun vH _ => vH = .int .i64 c, fun vH _ => vH = .int .i64 c]) BelowR (by kernel_rfl) BelowR.trans (BelowR.refl _)
      (StV.atV (.const _ (.const _ (.const _ .nil))))
      ⟨?o34x0, ?o34x1, ?o34x2, trivial⟩ ?_
    case o34x0 =>
      exact held_run free_wide rfl (by rfl) BelowR.refl fun xH w' kH hR => ⟨_, run_fldO rfl (pO (by kernel_rfl) rfl) (by kernel_rfl), rfl⟩
    case o34x1 =>
      exact held_load free_wide rfl BelowR.refl 3 (.tmp 67) rfl fun xH w' kH hR => ⟨_, _, (pT 0 (by kernel_rfl) (by kernel_rfl) (kH 0 (by decide))), ldC OW hR 0 rfl rfl naInt, rfl⟩
    case o34x2 =>
      exact held_move free_wide rfl BelowR.refl (.tmp 68) (.inr rfl) fun xH w' kH _ => (pT 1 (by kernel_rfl) (by kernel_rfl) (kH 1 (by decide)))
    intro xH w' hv hR
    have h0 : xH 0 = _ := hv 0 (by omega)
    have h1 : xH 1 = _ := hv 1 (by omega)
    have h2 : xH 2 = _ := hv 2 (by omega)
    simp only [List.take_succ_cons, List.take_zero, List.drop_succ_cons, List.drop_zero, putsH, Act.put, List.setIfInBounds_toArray, List.set_cons_succ, List.set_cons_zero, h0, h1, h2]
    have OW2 := Lib.hid (OW.out.step hR)
    clear hv hR OW OZ  h0 h1 h2
    have OW := OW2
    clear OW2
    obtain ⟨g35, OZ⟩ := own_size OW HB0
    gi_wp2_with (first | (refine onlyD 69 rfl ?_; refine own_loadSubV 69 0 0 25 (.tmp 4) rfl rfl rfl rfl rfl [.int .i64 k, .int .i64 p0, .int .i64 p1, .int .i64 p2, .int .i64 p3, .int .i64 c, .int .i64 b, .int .i64 v] rfl Try.underlying25 rfl (by kernel_rfl) OW ?_; simp only [Act.put, List.setIfInBounds_toArray, List.set_cons_succ, List.set_cons_zero]) | (refine onlyD 71 rfl ?_; refine own_loadSubV 71 1 0 23 (.tmp 6) rfl rfl rfl rfl rfl [.int .i64 q0, .int .i64 q1, .int .i64 q2, .int .i64 q3] rfl Try.underlying23 rfl (by kernel_rfl) OW ?_; simp only [Act.put, List.setIfInBounds_toArray, List.set_cons_succ, List.set_cons_zero]) | (refine onlyD 72 rfl ?_; refine own_loadRowV 72 2 41 (.tmp 7) rfl rfl rfl rfl rfl _ Try.underlying41 rfl (by rw [rawV_size, (show (xs).length = 72 from HX.out)]; exact infoRaw) OW ?_; simp only [Act.put, List.setIfInBounds_toArray, List.set_cons_succ, List.set_cons_zero]))
    refine ⟨trivial, ?_⟩
    refine (callsIn_wide.2 (fapply_any k p0 p1 p2 p3 c b v 1 q0 q1 q2 q3 xs (show (xs).length = 72 from HX.out) (by omega) (by omega) _)).mono ?_
    rintro e Wg36 ⟨rfl, hbw⟩
    obtain ⟨g36, OW2, OZ2⟩ := own_call OW OZ hbw
    clear hbw OW OZ
    have OW := OW2
    have OZ := OZ2
    clear OW2 OZ2
    gi_wp2_with (first | (refine onlyD 12 rfl ?_; refine own_allocV 12 41 rfl rfl rfl (rawV zero72) alRaw OW OZ ?_; clear OW OZ; intro W g37 OW OZ; simp only [Act.put, List.setIfInBounds_toArray, List.set_cons_succ, List.set_cons_zero]) | (refine onlyO (.store 41 (.tmp 12) (.tmp 73)) rfl ?_; refine own_storeRow 3 41 (.tmp 12) (.tmp 73) rfl rfl rfl rfl (rawV (fapply k p0 p1 p2 p3 c b v 1 q0 q1 q2 q3 xs)) rfl (by rw [rawV_size, rawV_size, (show ((fapply k p0 p1 p2 p3 c b v 1 q0 q1 q2 q3 xs)).length = 72 from HF.out), (show (zero72).length = 72 from (show zero72.length = 72 from rfl))]) (rawV_one _) (by rw [rawV_size, (show ((fapply k p0 p1 p2 p3 c b v 1 q0 q1 q2 q3 xs)).length = 72 from HF.out)]; exact infoRaw) _ rfl OW OZ ?_; clear OW OZ; intro W OW OZ; simp only [Act.put, List.setIfInBounds_toArray, List.set_cons_succ, List.set_cons_zero]))
    gi_loopw [74] (fun z74 wr => ∃ j : Nat, j ≤ 72 ∧ z74 = .int .i64 (j : Int) ∧ Own b0 w [(b0, Obj.cells (#[.int .i64 k, .int .i64 p0, .int .i64 p1, .int .i64 p2, .int .i64 p3, .int .i64 c, .int .i64 b, .int .i64 v]) 25 (0, 0)), (g1, Obj.cells (#[.int .i64 q0, .int .i64 q1, .int .i64 q2, .int .i64 q3]) 23 (0, 0)), (g2, Obj.cells (rawV xs) 41 (0, 0)), (g36, Obj.cells (rawV (fapply k p0 p1 p2 p3 c b v 1 q0 q1 q2 q3 xs)) 41 (0, 0))] wr) (fun z74 _ => 72 - (intOf z74).toNat)
    case atStart => exact ⟨0, by omega, rfl, (by skip; exact OW.out)⟩
    case round =>
      obtain ⟨j, hk39, rfl, hO⟩ := hrel
      clear OW OZ
      have OW := Lib.hid hO
      obtain ⟨g38, OZ⟩ := own_size OW HB0
      clear hO
      gi_upto_region 14 with fail
      obtain ⟨eo400, qeo400⟩ : ∃ e, (decide ((j : Int) < 72)) = e := ⟨_, rfl⟩
      refine wpIn_region_heldL 1 (atD [[]]) (atV [fun vH _ => vH = .bool eo400]) BelowR (by kernel_rfl) BelowR.trans (BelowR.refl _)
        (StV.atV (.const _ .nil))
        ⟨?o40x0, trivial⟩ ?_
      case o40x0 =>
        exact held_run free_wide rfl (by rfl) BelowR.refl fun xH w' kH hR => ⟨_, run_binO rfl (pO (by kernel_rfl) rfl) rfl bin_lss, (congrArg Value.bool qeo400)⟩
      intro xH w' hv hR
      subst qeo400
      have h0 : xH 0 = _ := hv 0 (by omega)
      simp only [List.take_succ_cons, List.take_zero, List.drop_succ_cons, List.drop_zero, putsH, Act.put, List.setIfInBounds_toArray, List.set_cons_succ, List.set_cons_zero, h0]
      have OW2 := Lib.hid (OW.out.step hR)
      clear hv hR OW OZ  h0
      have OW := OW2
      clear OW2
      obtain ⟨g41, OZ⟩ := own_size OW HB0
      cases hB42 : (decide ((j : Int) < 72))
      case true =>
        have dhB42 := of_decide_eq_true hB42
        gi_upto_region 15 with fail
        refine wpIn_region_heldL 2 (atD [[], [0]]) (atV [fun vH _ => vH = .int .i64 (j : Int), fun vH _ => vH = .int .i64 (j : Int)]) BelowR (by kernel_rfl) BelowR.trans (BelowR.refl _)
          (StV.atV (.const _ (.const _ .nil)))
          ⟨?o43x0, ?o43x1, trivial⟩ ?_
        case o43x0 =>
          exact held_move free_wide rfl BelowR.refl (.tmp 74) (.inl rfl) fun xH w' kH _ => (pO (by kernel_rfl) rfl)
        case o43x1 =>
          exact held_move free_wide rfl BelowR.refl (.tmp 76) (.inr rfl) fun xH w' kH _ => (pT 0 (by kernel_rfl) (by kernel_rfl) (kH 0 (by decide)))
        intro xH w' hv hR
        have h0 : xH 0 = _ := hv 0 (by omega)
        have h1 : xH 1 = _ := hv 1 (by omega)
        simp only [List.take_succ_cons, List.take_zero, List.drop_succ_cons, List.drop_zero, putsH, Act.put, List.setIfInBounds_toArray, List.set_cons_succ, List.set_cons_zero, h0, h1]
        have OW2 := Lib.hid (OW.out.step hR)
        clear hv hR OW OZ  h0 h1
        have OW := OW2
        clear OW2
        obtain ⟨g44, OZ⟩ := own_size OW HB0
        gi_upto_region 16 with fail
        obtain ⟨eo456, qeo456⟩ : ∃ e, ((((fapply k p0 p1 p2 p3 c b v 1 q0 q1 q2 q3 xs).getD j 0).toNat : Int) != ((xs.getD j 0).toNat : Int)) = e := ⟨_, rfl⟩
        obtain ⟨eo4512, qeo4512⟩ : ∃ e, (((j : Int) % 9) != (fcovers k p0 p1 p2 p3 c b v 1)) = e := ⟨_, rfl⟩
        obtain ⟨eo4513, qeo4513⟩ : ∃ e, (eo456 && eo4512) = e := ⟨_, rfl⟩
        refine wpIn_region_held 14 (atD [[], [0], [1], [], [3], [4], [2, 5], [6], [7], [7], [7, 8, 9], [7], [7, 10, 11], [7, 12]]) (atV [fun vH _ => vH = .int .i64 (j : Int), fun vH _ => vH = .pointer (some ⟨g36, j, none⟩), fun vH _ => vH = .int .u8 (((fapply k p0 p1 p2 p3 c b v 1 q0 q1 q2 q3 xs).getD j 0).toNat : Int), fun vH _ => vH = .int .i64 (j : Int), fun vH _ => vH = .pointer (some ⟨g2, j, none⟩), fun vH _ => vH = .int .u8 ((xs.getD j 0).toNat : Int), fun vH _ => vH = .bool eo456, fun vH _ => vH = .bool eo456, cdV (True ∧ eo456 = true) (fun vH _ => vH = .int .i64 (j : Int)), cdV (True ∧ eo456 = true) (fun vH _ => vH = .int .i64 9), cdV (True ∧ eo456 = true) (fun vH _ => vH = .int .i64 ((j : Int) % 9)), cdV (True ∧ eo456 = true) (fun vH _ => vH = .int .i64 (fcovers k p0 p1 p2 p3 c b v 1)), cdV (True ∧ eo456 = true) (fun vH _ => vH = .bool eo4512), fun vH _ => vH = .bool eo4513]) BelowR (by kernel_rfl) (by kernel_rfl) BelowR.trans (BelowR.drew _)
          (StV.atV (.const _ (.const _ (.const _ (.const _ (.const _ (.const _ (.const _ (.const _ (.cons (fun v x y h _ => h) (.cons (fun v x y h _ => h) (.cons (fun v x y h _ => h) (.cons (fun v x y h _ => h) (.cons (fun v x y h _ => h) (.const _ .nil)))))))))))))))
          ⟨?o45x0, ?o45x1, ?o45x2, ?o45x3, ?o45x4, ?o45x5, ?o45x6, ?o45x7, ?o45x8, ?o45x9, ?o45x10, ?o45x11, ?o45x12, ?o45x13, trivial⟩ ?_
        case o45x0 =>
          exact held_move free_wide rfl BelowR.refl (.tmp 13) (.inl rfl) fun xH w' kH _ => (pO (by kernel_rfl) rfl)
        case o45x1 =>
          exact held_run free_wide rfl (by rfl) BelowR.refl fun xH w' kH hR => ⟨_, run_idxO (vx := .pointer (some ⟨g36, 0, none⟩)) (vi := .int .i64 (j : Int)) rfl (pO (by kernel_rfl) rfl) (pT 0 (by kernel_rfl) (by kernel_rfl) (kH 0 (by decide))) (arXRaw _ j (by omega) _), rfl⟩
        case o45x2 =>
          exact held_load free_wide rfl BelowR.refl 5 (.tmp 78) rfl fun xH w' kH hR => ⟨_, _, (pT 1 (by kernel_rfl) (by kernel_rfl) (kH 1 (by decide))), ldC OW hR 3 rfl (rawV_get _ (by rw [(show ((fapply k p0 p1 p2 p3 c b v 1 q0 q1 q2 q3 xs)).length = 72 from HF.out)]; omega)) naU8, rfl⟩
        case o45x3 =>
          exact held_move free_wide rfl BelowR.refl (.tmp 13) (.inl rfl) fun xH w' kH _ => (pO (by kernel_rfl) rfl)
        case o45x4 =>
          exact held_run free_wide rfl (by rfl) BelowR.refl fun xH w' kH hR => ⟨_, run_idxO (vx := .pointer (some ⟨g2, 0, none⟩)) (vi := .int .i64 (j : Int)) rfl (pO (by kernel_rfl) rfl) (pT 3 (by kernel_rfl) (by kernel_rfl) (kH 3 (by decide))) (arXRaw _ j (by omega) _), rfl⟩
        case o45x5 =>
          exact held_load free_wide rfl BelowR.refl 5 (.tmp 81) rfl fun xH w' kH hR => ⟨_, _, (pT 4 (by kernel_rfl) (by kernel_rfl) (kH 4 (by decide))), ldC OW hR 2 rfl (rawV_get _ (by rw [(show (xs).length = 72 from HX.out)]; omega)) naU8, rfl⟩
        case o45x6 =>
          exact held_run free_wide rfl (by rfl) BelowR.refl fun xH w' kH hR => ⟨_, run_binO rfl (pT 2 (by kernel_rfl) (by kernel_rfl) (kH 2 (by decide))) (pT 5 (by kernel_rfl) (by kernel_rfl) (kH 5 (by decide))) bin_neq, (congrArg Value.bool qeo456)⟩
        case o45x7 =>
          exact held_move free_wide rfl BelowR.refl (.tmp 83) (.inl rfl) fun xH w' kH _ => (pT 6 (by kernel_rfl) (by kernel_rfl) (kH 6 (by decide)))
        case o45x8 =>
          refine held_guard free_wide 7 84 true True eo456 BelowR.refl rfl (by kernel_rfl) (by kernel_rfl) (by kernel_rfl) (fun xH w' kH => .inl ⟨trivial, kH 7 (by decide)⟩) (fun hC hG => ?_) (fun hN w' => .inr ⟨hN, rfl⟩)
          exact held_moveG free_wide hG BelowR.refl (.tmp 13) (.inl rfl) fun xH w' kH _ => .inl ⟨hC, (pO (by kernel_rfl) rfl)⟩
        case o45x9 =>
          refine held_guard free_wide 7 84 true True eo456 BelowR.refl rfl (by kernel_rfl) (by kernel_rfl) (by kernel_rfl) (fun xH w' kH => .inl ⟨trivial, kH 7 (by decide)⟩) (fun hC hG => ?_) (fun hN w' => .inr ⟨hN, rfl⟩)
          exact held_moveG free_wide hG BelowR.refl (.tmp 9) (.inl rfl) fun xH w' kH _ => .inl ⟨hC, (pO (by kernel_rfl) rfl)⟩
        case o45x10 =>
          refine held_guard free_wide 7 84 true True eo456 BelowR.refl rfl (by kernel_rfl) (by kernel_rfl) (by kernel_rfl) (fun xH w' kH => .inl ⟨trivial, kH 7 (by decide)⟩) (fun hC hG => ?_) (fun hN w' => .inr ⟨hN, rfl⟩)
          exact held_runG free_wide hG (by rfl) BelowR.refl fun xH w' kH hR => ⟨_, run_binO rfl (pT 8 (by kernel_rfl) (by kernel_rfl) (cdAt (kH 8 (by decide)) rfl hC)) (pT 9 (by kernel_rfl) (by kernel_rfl) (cdAt (kH 9 (by decide)) rfl hC)) (bin_rem_in (by subst qeo456; omega) (by subst qeo456; omega)), (.inl ⟨hC, rfl⟩)⟩
        case o45x11 =>
          refine held_guard free_wide 7 84 true True eo456 BelowR.refl rfl (by kernel_rfl) (by kernel_rfl) (by kernel_rfl) (fun xH w' kH => .inl ⟨trivial, kH 7 (by decide)⟩) (fun hC hG => ?_) (fun hN w' => .inr ⟨hN, rfl⟩)
          exact held_moveG free_wide hG BelowR.refl (.tmp 10) (.inl rfl) fun xH w' kH _ => .inl ⟨hC, (pO (by kernel_rfl) rfl)⟩
        case o45x12 =>
          refine held_guard free_wide 7 84 true True eo456 BelowR.refl rfl (by kernel_rfl) (by kernel_rfl) (by kernel_rfl) (fun xH w' kH => .inl ⟨trivial, kH 7 (by decide)⟩) (fun hC hG => ?_) (fun hN w' => .inr ⟨hN, rfl⟩)
          exact held_runG free_wide hG (by rfl) BelowR.refl fun xH w' kH hR => ⟨_, run_binO rfl (pT 10 (by kernel_rfl) (by kernel_rfl) (cdAt (kH 10 (by decide)) rfl hC)) (pT 11 (by kernel_rfl) (by kernel_rfl) (cdAt (kH 11 (by decide)) rfl hC)) bin_neq, (.inl ⟨hC, congrArg Value.bool qeo4512⟩)⟩
        case o45x13 =>
          exact held_run free_wide rfl (by rfl) BelowR.refl fun xH w' kH hR => ⟨_, run_pickAnd rfl (pT 7 (by kernel_rfl) (by kernel_rfl) (kH 7 (by decide))) rfl (fun h => pT 12 (by kernel_rfl) (by kernel_rfl) (cdAt (kH 12 (by decide)) rfl (And.intro trivial h))), (congrArg Value.bool qeo4513)⟩
        intro xH w' hv hR
        subst qeo4513 qeo4512 qeo456
        have h0 : xH 0 = _ := hv 0 (by omega)
        have h1 : xH 1 = _ := hv 1 (by omega)
        have h2 : xH 2 = _ := hv 2 (by omega)
        have h3 : xH 3 = _ := hv 3 (by omega)
        have h4 : xH 4 = _ := hv 4 (by omega)
        have h5 : xH 5 = _ := hv 5 (by omega)
        have h6 : xH 6 = _ := hv 6 (by omega)
        have h7 : xH 7 = _ := hv 7 (by omega)
        have h13 : xH 13 = _ := hv 13 (by omega)
        simp only [List.take_succ_cons, List.take_zero, List.drop_succ_cons, List.drop_zero, putsH, Act.put, List.setIfInBounds_toArray, List.set_cons_succ, List.set_cons_zero, h0, h1, h2, h3, h4, h5, h6, h7, h13]
        have OW2 := Lib.hid (OW.out.step hR)
        clear hv hR OW OZ  h0 h1 h2 h3 h4 h5 h6 h7 h13
        have OW := OW2
        clear OW2
        obtain ⟨g46, OZ⟩ := own_size OW HB0
        cases hB47 : (((((fapply k p0 p1 p2 p3 c b v 1 q0 q1 q2 q3 xs).getD j 0).toNat : Int) != ((xs.getD j 0).toNat : Int)) && (((j : Int) % 9) != (fcovers k p0 p1 p2 p3 c b v 1)))
        case true =>
          gi_wp2
          refine leaves_own [] _ (Nat.le_of_eq HB0.out) (by simpa using OW.out) ?_
          intro W' hO
          exact ⟨.bool false, by simp [results, Try.results6, go_sem], (by first | rfl | exact (cov_bad (mode := 1) (n := 9) (i := j) (.inl rfl) rfl HX.out (by omega) (by assumption)).elim | (rw [cF1 (.inl rfl) HX.out]; rfl) | (rw [cF1 (.inl rfl) HX.out, cF2 HX.out]; rfl)), hO.done HB0⟩
        gi_wp2_with (first | (refine onlyD 91 rfl ?_; refine own_valV 91 rfl rfl rfl (.int .i64 ((j : Int) + 1)) (run_binO (vx := .int .i64 (j : Int)) (vy := .int .i64 1) rfl rfl rfl (bin_add_in (by omega) (by omega))) ?_; simp only [Act.put, List.setIfInBounds_toArray, List.set_cons_succ, List.set_cons_zero]))
        go_roundw
        case rel => exact ⟨j + 1, by omega, by go_num, (by skip; exact OW.out)⟩
        case measure => (simp [intOf] <;> omega)
      have dhB42 := of_decide_eq_false hB42
      obtain rfl : j = 72 := by omega
      gi_upto_region 19 with fail
      obtain ⟨eo485, qeo485⟩ : ∃ e, (fnarrow k p0 p1 p2 p3 c b v) = e := ⟨_, rfl⟩
      obtain ⟨eo4811, qeo4811⟩ : ∃ e, (decide (((expo 1 (fapply k p0 p1 p2 p3 c b v 1 q0 q1 q2 q3 xs) xs : Nat) : Int) ≤ 1)) = e := ⟨_, rfl⟩
      obtain ⟨eo4812, qeo4812⟩ : ∃ e, ((!eo485) || eo4811) = e := ⟨_, rfl⟩
      obtain ⟨eo4821, qeo4821⟩ : ∃ e, (decide (((expo 2 (fapply k p0 p1 p2 p3 c b v 1 q0 q1 q2 q3 xs) xs : Nat) : Int) ≤ 1)) = e := ⟨_, rfl⟩
      obtain ⟨eo4823, qeo4823⟩ : ∃ e, (eo4812 && true) = e := ⟨_, rfl⟩
      refine wpIn_region_heldL 25 (atD [[], [], [0, 1], [2], [3], [3, 4], [3, 5], [3, 6], [7], [7], [7, 8, 9], [7, 10], [3, 7, 11], [3, 12], [13], [14], [14, 15], [14, 16], [17], [17], [17, 18, 19], [17, 20], [14, 17, 21], [14, 22], [23]]) (atV [fun vH _ => vH = .int .i64 (fcovers k p0 p1 p2 p3 c b v 1), fun vH _ => vH = .int .i64 c, fun vH _ => vH = .bool true, fun vH _ => vH = .bool true, fun vH _ => vH = .agg #[.int .i64 k, .int .i64 p0, .int .i64 p1, .int .i64 p2, .int .i64 p3, .int .i64 c, .int .i64 b, .int .i64 v], fun vH _ => vH = .bool eo485, fun vH _ => vH = .bool (!eo485), fun vH _ => vH = .bool (!eo485), cdV (True ∧ (!eo485) = false) (fun vH _ => vH = .agg (rawV (fapply k p0 p1 p2 p3 c b v 1 q0 q1 q2 q3 xs))), cdV (True ∧ (!eo485) = false) (fun vH _ => vH = .agg (rawV xs)), cdV (True ∧ (!eo485) = false) (fun vH _ => vH = .int .i64 ((expo 1 (fapply k p0 p1 p2 p3 c b v 1 q0 q1 q2 q3 xs) xs : Nat) : Int)), cdV (True ∧ (!eo485) = false) (fun vH _ => vH = .bool eo4811), fun vH _ => vH = .bool eo4812, fun vH _ => vH = .bool eo4812, fun vH _ => vH = .bool eo4812, cdV (True ∧ eo4812 = true) (fun vH _ => vH = .int .i64 1), cdV (True ∧ eo4812 = true) (fun vH _ => vH = .bool true), cdV (True ∧ eo4812 = true) (fun vH _ => vH = .bool true), cdV ((True ∧ eo4812 = true) ∧ true = false) (fun vH _ => vH = .agg (rawV (fapply k p0 p1 p2 p3 c b v 1 q0 q1 q2 q3 xs))), cdV ((True ∧ eo4812 = true) ∧ true = false) (fun vH _ => vH = .agg (rawV xs)), cdV ((True ∧ eo4812 = true) ∧ true = false) (fun vH _ => vH = .int .i64 ((expo 2 (fapply k p0 p1 p2 p3 c b v 1 q0 q1 q2 q3 xs) xs : Nat) : Int)), cdV ((True ∧ eo4812 = true) ∧ true = false) (fun vH _ => vH = .bool eo4821), cdV (True ∧ eo4812 = true) (fun vH _ => vH = .bool true), fun vH _ => vH = .bool eo4823, fun vH _ => vH = .bool eo4823]) BelowR (by kernel_rfl) BelowR.trans (BelowR.refl _)
        (StV.atV (.const _ (.const _ (.const _ (.const _ (.const _ (.const _ (.const _ (.const _ (.cons (fun v x y h _ => h) (.cons (fun v x y h _ => h) (.cons (fun v x y h _ => h) (.cons (fun v x y h _ => h) (.const _ (.const _ (.const _ (.cons (fun v x y h _ => h) (.cons (fun v x y h _ => h) (.cons (fun v x y h _ => h) (.cons (fun v x y h _ => h) (.cons (fun v x y h _ => h) (.cons (fun v x y h _ => h) (.cons (fun v x y h _ => h) (.cons (fun v x y h _ => h) (.const _ (.const _ .nil))))))))))))))))))))))))))
        ⟨?o48x0, ?o48x1, ?o48x2, ?o48x3, ?o48x4, ?o48x5, ?o48x6, ?o48x7, ?o48x8, ?o48x9, ?o48x10, ?o48x11, ?o48x12, ?o48x13, ?o48x14, ?o48x15, ?o48x16, ?o48x17, ?o48x18, ?o48x19, ?o48x20, ?o48x21, ?o48x22, ?o48x23, ?o48x24, trivial⟩ ?_
      case o48x0 =>
        exact held_move free_wide rfl BelowR.refl (.tmp 10) (.inl rfl) fun xH w' kH _ => (pO (by kernel_rfl) rfl)
      case o48x1 =>
        exact held_move free_wide rfl BelowR.refl (.tmp 11) (.inl rfl) fun xH w' kH _ => (pO (by kernel_rfl) rfl)
      case o48x2 =>
        exact held_run free_wide rfl (by rfl) BelowR.refl fun xH w' kH hR => ⟨_, run_binO rfl (pT 0 (by kernel_rfl) (by kernel_rfl) (kH 0 (by decide))) (pT 1 (by kernel_rfl) (by kernel_rfl) (kH 1 (by decide))) (eqIT (by first | exact covW1 (.inl rfl) rfl (by assumption) | exact covW2 rfl (by assumption) | exact covW3 rfl (by assumption) (by assumption))), rfl⟩
      case o48x3 =>
        exact held_move free_wide rfl BelowR.refl (.tmp 94) (.inl rfl) fun xH w' kH _ => (pT 2 (by kernel_rfl) (by kernel_rfl) (kH 2 (by decide)))
      case o48x4 =>
        exact held_loadG free_wide (heldGd_some 3 95 true rfl (by kernel_rfl) (by kernel_rfl) (by kernel_rfl) (fun xH w' kH => kH 3 (by decide))) BelowR.refl 25 (.tmp 4) rfl fun xH w' kH hR => ⟨_, _, (pO (by kernel_rfl) rfl), ldS OW hR 0 rfl 8 rfl Try.underlying25 rfl rfl (by kernel_rfl), rfl⟩
      case o48x5 =>
        refine held_callG free_wide (heldGd_some 3 95 true rfl (by kernel_rfl) (by kernel_rfl) (by kernel_rfl) (fun xH w' kH => kH 3 (by decide))) 22 _ _ rfl (enters_of Try.func22 (by kernel_rfl) rfl) fun xH w' kH hR => ⟨_, mapE1 (pT 4 (by kernel_rfl) (by kernel_rfl) (kH 4 (by decide))), ?_⟩
        refine (callsIn_wide.2 (fnarrow_any k p0 p1 p2 p3 c b v _)).mono ?_
        rintro e w2 ⟨rfl, h2⟩
        exact ⟨_, rfl, (congrArg Value.bool qeo485), h2⟩
      case o48x6 =>
        exact held_runG free_wide (heldGd_some 3 95 true rfl (by kernel_rfl) (by kernel_rfl) (by kernel_rfl) (fun xH w' kH => kH 3 (by decide))) (by rfl) BelowR.refl fun xH w' kH hR => ⟨_, run_unO rfl (pT 5 (by kernel_rfl) (by kernel_rfl) (kH 5 (by decide))) rfl, rfl⟩
      case o48x7 =>
        exact held_moveG free_wide (heldGd_some 3 95 true rfl (by kernel_rfl) (by kernel_rfl) (by kernel_rfl) (fun xH w' kH => kH 3 (by decide))) BelowR.refl (.tmp 98) (.inl rfl) fun xH w' kH _ => (pT 6 (by kernel_rfl) (by kernel_rfl) (kH 6 (by decide)))
      case o48x8 =>
        refine held_guard free_wide 7 99 false True (!eo485) BelowR.refl rfl (by kernel_rfl) (by kernel_rfl) (by kernel_rfl) (fun xH w' kH => .inl ⟨trivial, kH 7 (by decide)⟩) (fun hC hG => ?_) (fun hN w' => .inr ⟨hN, rfl⟩)
        exact held_loadG free_wide hG BelowR.refl 41 (.tmp 12) rfl fun xH w' kH hR => ⟨_, _, (pO (by kernel_rfl) rfl), ldR OW hR 3 rfl Try.underlying41 rfl (by rw [rawV_size, (show ((fapply k p0 p1 p2 p3 c b v 1 q0 q1 q2 q3 xs)).length = 72 from HF.out)]; exact infoRaw), (.inl ⟨hC, rfl⟩)⟩
      case o48x9 =>
        refine held_guard free_wide 7 99 false True (!eo485) BelowR.refl rfl (by kernel_rfl) (by kernel_rfl) (by kernel_rfl) (fun xH w' kH => .inl ⟨trivial, kH 7 (by decide)⟩) (fun hC hG => ?_) (fun hN w' => .inr ⟨hN, rfl⟩)
        exact held_loadG free_wide hG BelowR.refl 41 (.tmp 7) rfl fun xH w' kH hR => ⟨_, _, (pO (by kernel_rfl) rfl), ldR OW hR 2 rfl Try.underlying41 rfl (by rw [rawV_size, (show (xs).length = 72 from HX.out)]; exact infoRaw), (.inl ⟨hC, rfl⟩)⟩
      case o48x10 =>
        refine held_guard free_wide 7 99 false True (!eo485) BelowR.refl rfl (by kernel_rfl) (by kernel_rfl) (by kernel_rfl) (fun xH w' kH => .inl ⟨trivial, kH 7 (by decide)⟩) (fun hC hG => ?_) (fun hN w' => .inr ⟨hN, rfl⟩)
        refine held_callG free_wide hG 29 _ _ rfl (enters_of Try.func29 (by kernel_rfl) rfl) fun xH w' kH hR => ⟨_, mapE3 rfl (pT 8 (by kernel_rfl) (by kernel_rfl) (cdAt (kH 8 (by decide)) rfl hC)) (pT 9 (by kernel_rfl) (by kernel_rfl) (cdAt (kH 9 (by decide)) rfl hC)), ?_⟩
        refine (callsIn_wide.2 (refExp_any 1 (fapply k p0 p1 p2 p3 c b v 1 q0 q1 q2 q3 xs) xs (show ((fapply k p0 p1 p2 p3 c b v 1 q0 q1 q2 q3 xs)).length = 72 from HF.out) (show (xs).length = 72 from HX.out) _)).mono ?_
        rintro e w2 ⟨rfl, h2⟩
        exact ⟨_, rfl, (.inl ⟨hC, rfl⟩), h2⟩
      case o48x11 =>
        refine held_guard free_wide 7 99 false True (!eo485) BelowR.refl rfl (by kernel_rfl) (by kernel_rfl) (by kernel_rfl) (fun xH w' kH => .inl ⟨trivial, kH 7 (by decide)⟩) (fun hC hG => ?_) (fun hN w' => .inr ⟨hN, rfl⟩)
        exact held_runG free_wide hG (by rfl) BelowR.refl fun xH w' kH hR => ⟨_, run_binO rfl (pT 10 (by kernel_rfl) (by kernel_rfl) (cdAt (kH 10 (by decide)) rfl hC)) rfl bin_leq, (.inl ⟨hC, congrArg Value.bool qeo4811⟩)⟩
      case o48x12 =>
        exact held_runG free_wide (heldGd_some 3 95 true rfl (by kernel_rfl) (by kernel_rfl) (by kernel_rfl) (fun xH w' kH => kH 3 (by decide))) (by rfl) BelowR.refl fun xH w' kH hR => ⟨_, run_pickOr rfl (pT 7 (by kernel_rfl) (by kernel_rfl) (kH 7 (by decide))) rfl (fun h => pT 11 (by kernel_rfl) (by kernel_rfl) (cdAt (kH 11 (by decide)) rfl (And.intro trivial h))), (congrArg Value.bool qeo4812)⟩
      case o48x13 =>
        exact held_run free_wide rfl (by rfl) BelowR.refl fun xH w' kH hR => ⟨_, run_pickT rfl (pT 3 (by kernel_rfl) (by kernel_rfl) (kH 3 (by decide))) (pT 12 (by kernel_rfl) (by kernel_rfl) (kH 12 (by decide))), rfl⟩
      case o48x14 =>
        exact held_move free_wide rfl BelowR.refl (.tmp 105) (.inl rfl) fun xH w' kH _ => (pT 13 (by kernel_rfl) (by kernel_rfl) (kH 13 (by decide)))
      case o48x15 =>
        refine held_guard free_wide 14 106 true True eo4812 BelowR.refl rfl (by kernel_rfl) (by kernel_rfl) (by kernel_rfl) (fun xH w' kH => .inl ⟨trivial, kH 14 (by decide)⟩) (fun hC hG => ?_) (fun hN w' => .inr ⟨hN, rfl⟩)
        exact held_moveG free_wide hG BelowR.refl (.tmp 1) (.inl rfl) fun xH w' kH _ => .inl ⟨hC, (pO (by kernel_rfl) rfl)⟩
      case o48x16 =>
        refine held_guard free_wide 14 106 true True eo4812 BelowR.refl rfl (by kernel_rfl) (by kernel_rfl) (by kernel_rfl) (fun xH w' kH => .inl ⟨trivial, kH 14 (by decide)⟩) (fun hC hG => ?_) (fun hN w' => .inr ⟨hN, rfl⟩)
        exact held_runG free_wide hG (by rfl) BelowR.refl fun xH w' kH hR => ⟨_, run_binO rfl (pT 15 (by kernel_rfl) (by kernel_rfl) (cdAt (kH 15 (by decide)) rfl hC)) rfl (by kernel_rfl), (.inl ⟨hC, rfl⟩)⟩
      case o48x17 =>
        refine held_guard free_wide 14 106 true True eo4812 BelowR.refl rfl (by kernel_rfl) (by kernel_rfl) (by kernel_rfl) (fun xH w' kH => .inl ⟨trivial, kH 14 (by decide)⟩) (fun hC hG => ?_) (fun hN w' => .inr ⟨hN, rfl⟩)
        exact held_moveG free_wide hG BelowR.refl (.tmp 108) (.inl rfl) fun xH w' kH _ => .inl ⟨hC, (pT 16 (by kernel_rfl) (by kernel_rfl) (cdAt (kH 16 (by decide)) rfl hC))⟩
      case o48x18 =>
        refine held_guard free_wide 17 109 false (True ∧ eo4812 = true) true BelowR.refl rfl (by kernel_rfl) (by kernel_rfl) (by kernel_rfl) (fun xH w' kH => kH 17 (by decide)) (fun hC hG => ?_) (fun hN w' => .inr ⟨hN, rfl⟩)
        exact held_loadG free_wide hG BelowR.refl 41 (.tmp 12) rfl fun xH w' kH hR => ⟨_, _, (pO (by kernel_rfl) rfl), ldR OW hR 3 rfl Try.underlying41 rfl (by rw [rawV_size, (show ((fapply k p0 p1 p2 p3 c b v 1 q0 q1 q2 q3 xs)).length = 72 from HF.out)]; exact infoRaw), (.inl ⟨hC, rfl⟩)⟩
      case o48x19 =>
        refine held_guard free_wide 17 109 false (True ∧ eo4812 = true) true BelowR.refl rfl (by kernel_rfl) (by kernel_rfl) (by kernel_rfl) (fun xH w' kH => kH 17 (by decide)) (fun hC hG => ?_) (fun hN w' => .inr ⟨hN, rfl⟩)
        exact held_loadG free_wide hG BelowR.refl 41 (.tmp 7) rfl fun xH w' kH hR => ⟨_, _, (pO (by kernel_rfl) rfl), ldR OW hR 2 rfl Try.underlying41 rfl (by rw [rawV_size, (show (xs).length = 72 from HX.out)]; exact infoRaw), (.inl ⟨hC, rfl⟩)⟩
      case o48x20 =>
        refine held_guard free_wide 17 109 false (True ∧ eo4812 = true) true BelowR.refl rfl (by kernel_rfl) (by kernel_rfl) (by kernel_rfl) (fun xH w' kH => kH 17 (by decide)) (fun hC hG => ?_) (fun hN w' => .inr ⟨hN, rfl⟩)
        refine held_callG free_wide hG 29 _ _ rfl (enters_of Try.func29 (by kernel_rfl) rfl) fun xH w' kH hR => ⟨_, mapE3 rfl (pT 18 (by kernel_rfl) (by kernel_rfl) (cdAt (kH 18 (by decide)) rfl hC)) (pT 19 (by kernel_rfl) (by kernel_rfl) (cdAt (kH 19 (by decide)) rfl hC)), ?_⟩
        refine (callsIn_wide.2 (refExp_any 2 (fapply k p0 p1 p2 p3 c b v 1 q0 q1 q2 q3 xs) xs (show ((fapply k p0 p1 p2 p3 c b v 1 q0 q1 q2 q3 xs)).length = 72 from HF.out) (show (xs).length = 72 from HX.out) _)).mono ?_
        rintro e w2 ⟨rfl, h2⟩
        exact ⟨_, rfl, (.inl ⟨hC, rfl⟩), h2⟩
      case o48x21 =>
        refine held_guard free_wide 17 109 false (True ∧ eo4812 = true) true BelowR.refl rfl (by kernel_rfl) (by kernel_rfl) (by kernel_rfl) (fun xH w' kH => kH 17 (by decide)) (fun hC hG => ?_) (fun hN w' => .inr ⟨hN, rfl⟩)
        exact held_runG free_wide hG (by rfl) BelowR.refl fun xH w' kH hR => ⟨_, run_binO rfl (pT 20 (by kernel_rfl) (by kernel_rfl) (cdAt (kH 20 (by decide)) rfl hC)) rfl bin_leq, (.inl ⟨hC, congrArg Value.bool qeo4821⟩)⟩
      case o48x22 =>
        refine held_guard free_wide 14 106 true True eo4812 BelowR.refl rfl (by kernel_rfl) (by kernel_rfl) (by kernel_rfl) (fun xH w' kH => .inl ⟨trivial, kH 14 (by decide)⟩) (fun hC hG => ?_) (fun hN w' => .inr ⟨hN, rfl⟩)
        exact held_runG free_wide hG (by rfl) BelowR.refl fun xH w' kH hR => ⟨_, run_pickT rfl (pT 17 (by kernel_rfl) (by kernel_rfl) (cdAt (kH 17 (by decide)) rfl hC)) rfl, (.inl ⟨hC, rfl⟩)⟩
      case o48x23 =>
        exact held_run free_wide rfl (by rfl) BelowR.refl fun xH w' kH hR => ⟨_, run_pickAnd rfl (pT 14 (by kernel_rfl) (by kernel_rfl) (kH 14 (by decide))) rfl (fun h => pT 22 (by kernel_rfl) (by kernel_rfl) (cdAt (kH 22 (by decide)) rfl (And.intro trivial h))), (congrArg Value.bool qeo4823)⟩
      case o48x24 =>
        exact held_move free_wide rfl BelowR.refl (.tmp 115) (.inr rfl) fun xH w' kH _ => (pT 23 (by kernel_rfl) (by kernel_rfl) (kH 23 (by decide)))
      intro xH w' hv hR
      subst qeo4823 qeo4821 qeo4812 qeo4811 qeo485
      have h0 : xH 0 = _ := hv 0 (by omega)
      have h1 : xH 1 = _ := hv 1 (by omega)
      have h2 : xH 2 = _ := hv 2 (by omega)
      have h3 : xH 3 = _ := hv 3 (by omega)
      have h4 : xH 4 = _ := hv 4 (by omega)
      have h5 : xH 5 = _ := hv 5 (by omega)
      have h6 : xH 6 = _ := hv 6 (by omega)
      have h7 : xH 7 = _ := hv 7 (by omega)
      have h12 : xH 12 = _ := hv 12 (by omega)
      have h13 : xH 13 = _ := hv 13 (by omega)
      have h14 : xH 14 = _ := hv 14 (by omega)
      have h23 : xH 23 = _ := hv 23 (by omega)
      have h24 : xH 24 = _ := hv 24 (by omega)
      simp only [List.take_succ_cons, List.take_zero, List.drop_succ_cons, List.drop_zero, putsH, Act.put, List.setIfInBounds_toArray, List.set_cons_succ, List.set_cons_zero, h0, h1, h2, h3, h4, h5, h6, h7, h12, h13, h14, h23, h24]
      have OW2 := Lib.hid (OW.out.step hR)
      clear hv hR OW OZ  h0 h1 h2 h3 h4 h5 h6 h7 h12 h13 h14 h23 h24
      have OW := OW2
      clear OW2
      obtain ⟨g49, OZ⟩ := own_size OW HB0
      gi_wp2
      refine leaves_own [] _ (Nat.le_of_eq HB0.out) (by simpa using OW.out) ?_
      intro W' hO
      exact ⟨.bool (((!(fnarrow k p0 p1 p2 p3 c b v)) || (decide (((expo 1 (fapply k p0 p1 p2 p3 c b v 1 q0 q1 q2 q3 xs) xs : Nat) : Int) ≤ 1))) && true), by simp [results, Try.results6, go_sem], (by first | rfl | exact (cov_bad (mode := 1) (n := 9) (i := j) (.inl rfl) rfl HX.out (by omega) (by assumption)).elim | (rw [cF1 (.inl rfl) HX.out]; rfl) | (rw [cF1 (.inl rfl) HX.out, cF2 HX.out]; rfl)), hO.done HB0⟩
  gi_wp2_with (first | (refine onlyD 69 rfl ?_; refine own_loadSubV 69 0 0 25 (.tmp 4) rfl rfl rfl rfl rfl [.int .i64 k, .int .i64 p0, .int .i64 p1, .int .i64 p2, .int .i64 p3, .int .i64 c, .int .i64 b, .int .i64 v] rfl Try.underlying25 rfl (by kernel_rfl) OW ?_; simp only [Act.put, List.setIfInBounds_toArray, List.set_cons_succ, List.set_cons_zero]) | (refine onlyD 71 rfl ?_; refine own_loadSubV 71 1 0 23 (.tmp 6) rfl rfl rfl rfl rfl [.int .i64 q0, .int .i64 q1, .int .i64 q2, .int .i64 q3] rfl Try.underlying23 rfl (by kernel_rfl) OW ?_; simp only [Act.put, List.setIfInBounds_toArray, List.set_cons_succ, List.set_cons_zero]) | (refine onlyD 72 rfl ?_; refine own_loadRowV 72 2 41 (.tmp 7) rfl rfl rfl rfl rfl _ Try.underlying41 rfl (by rw [rawV_size, (show (xs).length = 72 from HX.out)]; exact infoRaw) OW ?_; simp only [Act.put, List.setIfInBounds_toArray, List.set_cons_succ, List.set_cons_zero]))
  refine ⟨trivial, ?_⟩
  refine (callsIn_wide.2 (fapply_any k p0 p1 p2 p3 c b v 1 q0 q1 q2 q3 xs (show (xs).length = 72 from HX.out) (by omega) (by omega) _)).mono ?_
  rintro e Wg50 ⟨rfl, hbw⟩
  obtain ⟨g50, OW2, OZ2⟩ := own_call OW OZ hbw
  clear hbw OW OZ
  have OW := OW2
  have OZ := OZ2
  clear OW2 OZ2
  gi_wp2_with (first | (refine onlyD 12 rfl ?_; refine own_allocV 12 41 rfl rfl rfl (rawV zero72) alRaw OW OZ ?_; clear OW OZ; intro W g51 OW OZ; simp only [Act.put, List.setIfInBounds_toArray, List.set_cons_succ, List.set_cons_zero]) | (refine onlyO (.store 41 (.tmp 12) (.tmp 73)) rfl ?_; refine own_storeRow 3 41 (.tmp 12) (.tmp 73) rfl rfl rfl rfl (rawV (fapply k p0 p1 p2 p3 c b v 1 q0 q1 q2 q3 xs)) rfl (by rw [rawV_size, rawV_size, (show ((fapply k p0 p1 p2 p3 c b v 1 q0 q1 q2 q3 xs)).length = 72 from HF.out), (show (zero72).length = 72 from (show zero72.length = 72 from rfl))]) (rawV_one _) (by rw [rawV_size, (show ((fapply k p0 p1 p2 p3 c b v 1 q0 q1 q2 q3 xs)).length = 72 from HF.out)]; exact infoRaw) _ rfl OW OZ ?_; clear OW OZ; intro W OW OZ; simp only [Act.put, List.setIfInBounds_toArray, List.set_cons_succ, List.set_cons_zero]))
  gi_loopw [74] (fun z74 wr => ∃ j : Nat, j ≤ 72 ∧ z74 = .int .i64 (j : Int) ∧ Own b0 w [(b0, Obj.cells (#[.int .i64 k, .int .i64 p0, .int .i64 p1, .int .i64 p2, .int .i64 p3, .int .i64 c, .int .i64 b, .int .i64 v]) 25 (0, 0)), (g1, Obj.cells (#[.int .i64 q0, .int .i64 q1, .int .i64 q2, .int .i64 q3]) 23 (0, 0)), (g2, Obj.cells (rawV xs) 41 (0, 0)), (g50, Obj.cells (rawV (fapply k p0 p1 p2 p3 c b v 1 q0 q1 q2 q3 xs)) 41 (0, 0))] wr) (fun z74 _ => 72 - (intOf z74).toNat)
  case atStart => exact ⟨0, by omega, rfl, (by skip; exact OW.out)⟩
  case round =>
    obtain ⟨j, hk53, rfl, hO⟩ := hrel
    clear OW OZ
    have OW := Lib.hid hO
    obtain ⟨g52, OZ⟩ := own_size OW HB0
    clear hO
    gi_upto_region 14 with fail
    obtain ⟨eo540, qeo540⟩ : ∃ e, (decide ((j : Int) < 72)) = e := ⟨_, rfl⟩
    refine wpIn_region_heldL 1 (atD [[]]) (atV [fun vH _ => vH = .bool eo540]) BelowR (by kernel_rfl) BelowR.trans (BelowR.refl _)
      (StV.atV (.const _ .nil))
      ⟨?o54x0, trivial⟩ ?_
    case o54x0 =>
      exact held_run free_wide rfl (by rfl) BelowR.refl fun xH w' kH hR => ⟨_, run_binO rfl (pO (by kernel_rfl) rfl) rfl bin_lss, (congrArg Value.bool qeo540)⟩
    intro xH w' hv hR
    subst qeo540
    have h0 : xH 0 = _ := hv 0 (by omega)
    simp only [List.take_succ_cons, List.take_zero, List.drop_succ_cons, List.drop_zero, putsH, Act.put, List.setIfInBounds_toArray, List.set_cons_succ, List.set_cons_zero, h0]
    have OW2 := Lib.hid (OW.out.step hR)
    clear hv hR OW OZ  h0
    have OW := OW2
    clear OW2
    obtain ⟨g55, OZ⟩ := own_size OW HB0
    cases hB56 : (decide ((j : Int) < 72))
    case true =>
      have dhB56 := of_decide_eq_true hB56
      gi_upto_region 15 with fail
      refine wpIn_region_heldL 2 (atD [[], [0]]) (atV [fun vH _ => vH = .int .i64 (j : Int), fun vH _ => vH = .int .i64 (j : Int)]) BelowR (by kernel_rfl) BelowR.trans (BelowR.refl _)
        (StV.atV (.const _ (.const _ .nil)))
        ⟨?o57x0, ?o57x1, trivial⟩ ?_
      case o57x0 =>
        exact held_move free_wide rfl BelowR.refl (.tmp 74) (.inl rfl) fun xH w' kH _ => (pO (by kernel_rfl) rfl)
      case o57x1 =>
        exact held_move free_wide rfl BelowR.refl (.tmp 76) (.inr rfl) fun xH w' kH _ => (pT 0 (by kernel_rfl) (by kernel_rfl) (kH 0 (by decide)))
      intro xH w' hv hR
      have h0 : xH 0 = _ := hv 0 (by omega)
      have h1 : xH 1 = _ := hv 1 (by omega)
      simp only [List.take_succ_cons, List.take_zero, List.drop_succ_cons, List.drop_zero, putsH, Act.put, List.setIfInBounds_toArray, List.set_cons_succ, List.set_cons_zero, h0, h1]
      have OW2 := Lib.hid (OW.out.step hR)
      clear hv hR OW OZ  h0 h1
      have OW := OW2
      clear OW2
      obtain ⟨g58, OZ⟩ := own_size OW HB0
      gi_upto_region 16 with fail
      obtain ⟨eo596, qeo596⟩ : ∃ e, ((((fapply k p0 p1 p2 p3 c b v 1 q0 q1 q2 q3 xs).getD j 0).toNat : Int) != ((xs.getD j 0).toNat : Int)) = e := ⟨_, rfl⟩
      obtain ⟨eo5912, qeo5912⟩ : ∃ e, (((j : Int) % 9) != (fcovers k p0 p1 p2 p3 c b v 1)) = e := ⟨_, rfl⟩
      obtain ⟨eo5913, qeo5913⟩ : ∃ e, (eo596 && eo5912) = e := ⟨_, rfl⟩
      refine wpIn_region_held 14 (atD [[], [0], [1], [], [3], [4], [2, 5], [6], [7], [7], [7, 8, 9], [7], [7, 10, 11], [7, 12]]) (atV [fun vH _ => vH = .int .i64 (j : Int), fun vH _ => vH = .pointer (some ⟨g50, j, none⟩), fun vH _ => vH = .int .u8 (((fapply k p0 p1 p2 p3 c b v 1 q0 q1 q2 q3 xs).getD j 0).toNat : Int), fun vH _ => vH = .int .i64 (j : Int), fun vH _ => vH = .pointer (some ⟨g2, j, none⟩), fun vH _ => vH = .int .u8 ((xs.getD j 0).toNat : Int), fun vH _ => vH = .bool eo596, fun vH _ => vH = .bool eo596, cdV (True ∧ eo596 = true) (fun vH _ => vH = .int .i64 (j : Int)), cdV (True ∧ eo596 = true) (fun vH _ => vH = .int .i64 9), cdV (True ∧ eo596 = true) (fun vH _ => vH = .int .i64 ((j : Int) % 9)), cdV (True ∧ eo596 = true) (fun vH _ => vH = .int .i64 (fcovers k p0 p1 p2 p3 c b v 1)), cdV (True ∧ eo596 = true) (fun vH _ => vH = .bool eo5912), fun vH _ => vH = .bool eo5913]) BelowR (by kernel_rfl) (by kernel_rfl) BelowR.trans (BelowR.drew _)
        (StV.atV (.const _ (.const _ (.const _ (.const _ (.const _ (.const _ (.const _ (.const _ (.cons (fun v x y h _ => h) (.cons (fun v x y h _ => h) (.cons (fun v x y h _ => h) (.cons (fun v x y h _ => h) (.cons (fun v x y h _ => h) (.const _ .nil)))))))))))))))
        ⟨?o59x0, ?o59x1, ?o59x2, ?o59x3, ?o59x4, ?o59x5, ?o59x6, ?o59x7, ?o59x8, ?o59x9, ?o59x10, ?o59x11, ?o59x12, ?o59x13, trivial⟩ ?_
      case o59x0 =>
        exact held_move free_wide rfl BelowR.refl (.tmp 13) (.inl rfl) fun xH w' kH _ => (pO (by kernel_rfl) rfl)
      case o59x1 =>
        exact held_run free_wide rfl (by rfl) BelowR.refl fun xH w' kH hR => ⟨_, run_idxO (vx := .pointer (some ⟨g50, 0, none⟩)) (vi := .int .i64 (j : Int)) rfl (pO (by kernel_rfl) rfl) (pT 0 (by kernel_rfl) (by kernel_rfl) (kH 0 (by decide))) (arXRaw _ j (by omega) _), rfl⟩
      case o59x2 =>
        exact held_load free_wide rfl BelowR.refl 5 (.tmp 78) rfl fun xH w' kH hR => ⟨_, _, (pT 1 (by kernel_rfl) (by kernel_rfl) (kH 1 (by decide))), ldC OW hR 3 rfl (rawV_get _ (by rw [(show ((fapply k p0 p1 p2 p3 c b v 1 q0 q1 q2 q3 xs)).length = 72 from HF.out)]; omega)) naU8, rfl⟩
      case o59x3 =>
        exact held_move free_wide rfl BelowR.refl (.tmp 13) (.inl rfl) fun xH w' kH _ => (pO (by kernel_rfl) rfl)
      case o59x4 =>
        exact held_run free_wide rfl (by rfl) BelowR.refl fun xH w' kH hR => ⟨_, run_idxO (vx := .pointer (some ⟨g2, 0, none⟩)) (vi := .int .i64 (j : Int)) rfl (pO (by kernel_rfl) rfl) (pT 3 (by kernel_rfl) (by kernel_rfl) (kH 3 (by decide))) (arXRaw _ j (by omega) _), rfl⟩
      case o59x5 =>
        exact held_load free_wide rfl BelowR.refl 5 (.tmp 81) rfl fun xH w' kH hR => ⟨_, _, (pT 4 (by kernel_rfl) (by kernel_rfl) (kH 4 (by decide))), ldC OW hR 2 rfl (rawV_get _ (by rw [(show (xs).length = 72 from HX.out)]; omega)) naU8, rfl⟩
      case o59x6 =>
        exact held_run free_wide rfl (by rfl) BelowR.refl fun xH w' kH hR => ⟨_, run_binO rfl (pT 2 (by kernel_rfl) (by kernel_rfl) (kH 2 (by decide))) (pT 5 (by kernel_rfl) (by kernel_rfl) (kH 5 (by decide))) bin_neq, (congrArg Value.bool qeo596)⟩
      case o59x7 =>
        exact held_move free_wide rfl BelowR.refl (.tmp 83) (.inl rfl) fun xH w' kH _ => (pT 6 (by kernel_rfl) (by kernel_rfl) (kH 6 (by decide)))
      case o59x8 =>
        refine held_guard free_wide 7 84 true True eo596 BelowR.refl rfl (by kernel_rfl) (by kernel_rfl) (by kernel_rfl) (fun xH w' kH => .inl ⟨trivial, kH 7 (by decide)⟩) (fun hC hG => ?_) (fun hN w' => .inr ⟨hN, rfl⟩)
        exact held_moveG free_wide hG BelowR.refl (.tmp 13) (.inl rfl) fun xH w' kH _ => .inl ⟨hC, (pO (by kernel_rfl) rfl)⟩
      case o59x9 =>
        refine held_guard free_wide 7 84 true True eo596 BelowR.refl rfl (by kernel_rfl) (by kernel_rfl) (by kernel_rfl) (fun xH w' kH => .inl ⟨trivial, kH 7 (by decide)⟩) (fun hC hG => ?_) (fun hN w' => .inr ⟨hN, rfl⟩)
        exact held_moveG free_wide hG BelowR.refl (.tmp 9) (.inl rfl) fun xH w' kH _ => .inl ⟨hC, (pO (by kernel_rfl) rfl)⟩
      case o59x10 =>
        refine held_guard free_wide 7 84 true True eo596 BelowR.refl rfl (by kernel_rfl) (by kernel_rfl) (by kernel_rfl) (fun xH w' kH => .inl ⟨trivial, kH 7 (by decide)⟩) (fun hC hG => ?_) (fun hN w' => .inr ⟨hN, rfl⟩)
        exact held_runG free_wide hG (by rfl) BelowR.refl fun xH w' kH hR => ⟨_, run_binO rfl (pT 8 (by kernel_rfl) (by kernel_rfl) (cdAt (kH 8 (by decide)) rfl hC)) (pT 9 (by kernel_rfl) (by kernel_rfl) (cdAt (kH 9 (by decide)) rfl hC)) (bin_rem_in (by subst qeo596; omega) (by subst qeo596; omega)), (.inl ⟨hC, rfl⟩)⟩
      case o59x11 =>
        refine held_guard free_wide 7 84 true True eo596 BelowR.refl rfl (by kernel_rfl) (by kernel_rfl) (by kernel_rfl) (fun xH w' kH => .inl ⟨trivial, kH 7 (by decide)⟩) (fun hC hG => ?_) (fun hN w' => .inr ⟨hN, rfl⟩)
        exact held_moveG free_wide hG BelowR.refl (.tmp 10) (.inl rfl) fun xH w' kH _ => .inl ⟨hC, (pO (by kernel_rfl) rfl)⟩
      case o59x12 =>
        refine held_guard free_wide 7 84 true True eo596 BelowR.refl rfl (by kernel_rfl) (by kernel_rfl) (by kernel_rfl) (fun xH w' kH => .inl ⟨trivial, kH 7 (by decide)⟩) (fun hC hG => ?_) (fun hN w' => .inr ⟨hN, rfl⟩)
        exact held_runG free_wide hG (by rfl) BelowR.refl fun xH w' kH hR => ⟨_, run_binO rfl (pT 10 (by kernel_rfl) (by kernel_rfl) (cdAt (kH 10 (by decide)) rfl hC)) (pT 11 (by kernel_rfl) (by kernel_rfl) (cdAt (kH 11 (by decide)) rfl hC)) bin_neq, (.inl ⟨hC, congrArg Value.bool qeo5912⟩)⟩
      case o59x13 =>
        exact held_run free_wide rfl (by rfl) BelowR.refl fun xH w' kH hR => ⟨_, run_pickAnd rfl (pT 7 (by kernel_rfl) (by kernel_rfl) (kH 7 (by decide))) rfl (fun h => pT 12 (by kernel_rfl) (by kernel_rfl) (cdAt (kH 12 (by decide)) rfl (And.intro trivial h))), (congrArg Value.bool qeo5913)⟩
      intro xH w' hv hR
      subst qeo5913 qeo5912 qeo596
      have h0 : xH 0 = _ := hv 0 (by omega)
      have h1 : xH 1 = _ := hv 1 (by omega)
      have h2 : xH 2 = _ := hv 2 (by omega)
      have h3 : xH 3 = _ := hv 3 (by omega)
      have h4 : xH 4 = _ := hv 4 (by omega)
      have h5 : xH 5 = _ := hv 5 (by omega)
      have h6 : xH 6 = _ := hv 6 (by omega)
      have h7 : xH 7 = _ := hv 7 (by omega)
      have h13 : xH 13 = _ := hv 13 (by omega)
      simp only [List.take_succ_cons, List.take_zero, List.drop_succ_cons, List.drop_zero, putsH, Act.put, List.setIfInBounds_toArray, List.set_cons_succ, List.set_cons_zero, h0, h1, h2, h3, h4, h5, h6, h7, h13]
      have OW2 := Lib.hid (OW.out.step hR)
      clear hv hR OW OZ  h0 h1 h2 h3 h4 h5 h6 h7 h13
      have OW := OW2
      clear OW2
      obtain ⟨g60, OZ⟩ := own_size OW HB0
      cases hB61 : (((((fapply k p0 p1 p2 p3 c b v 1 q0 q1 q2 q3 xs).getD j 0).toNat : Int) != ((xs.getD j 0).toNat : Int)) && (((j : Int) % 9) != (fcovers k p0 p1 p2 p3 c b v 1)))
      case true =>
        gi_wp2
        refine leaves_own [] _ (Nat.le_of_eq HB0.out) (by simpa using OW.out) ?_
        intro W' hO
        exact ⟨.bool false, by simp [results, Try.results6, go_sem], (by first | rfl | exact (cov_bad (mode := 1) (n := 9) (i := j) (.inl rfl) rfl HX.out (by omega) (by assumption)).elim | (rw [cF1 (.inl rfl) HX.out]; rfl) | (rw [cF1 (.inl rfl) HX.out, cF2 HX.out]; rfl)), hO.done HB0⟩
      gi_wp2_with (first | (refine onlyD 91 rfl ?_; refine own_valV 91 rfl rfl rfl (.int .i64 ((j : Int) + 1)) (run_binO (vx := .int .i64 (j : Int)) (vy := .int .i64 1) rfl rfl rfl (bin_add_in (by omega) (by omega))) ?_; simp only [Act.put, List.setIfInBounds_toArray, List.set_cons_succ, List.set_cons_zero]))
      go_roundw
      case rel => exact ⟨j + 1, by omega, by go_num, (by skip; exact OW.out)⟩
      case measure => (simp [intOf] <;> omega)
    have dhB56 := of_decide_eq_false hB56
    obtain rfl : j = 72 := by omega
    gi_upto_region 19 with fail
    obtain ⟨eo625, qeo625⟩ : ∃ e, (fnarrow k p0 p1 p2 p3 c b v) = e := ⟨_, rfl⟩
    obtain ⟨eo6211, qeo6211⟩ : ∃ e, (decide (((expo 1 (fapply k p0 p1 p2 p3 c b v 1 q0 q1 q2 q3 xs) xs : Nat) : Int) ≤ 1)) = e := ⟨_, rfl⟩
    obtain ⟨eo6212, qeo6212⟩ : ∃ e, ((!eo625) || eo6211) = e := ⟨_, rfl⟩
    obtain ⟨eo6221, qeo6221⟩ : ∃ e, (decide (((expo 2 (fapply k p0 p1 p2 p3 c b v 1 q0 q1 q2 q3 xs) xs : Nat) : Int) ≤ 1)) = e := ⟨_, rfl⟩
    obtain ⟨eo6223, qeo6223⟩ : ∃ e, (eo6212 && true) = e := ⟨_, rfl⟩
    refine wpIn_region_heldL 25 (atD [[], [], [0, 1], [2], [3], [3, 4], [3, 5], [3, 6], [7], [7], [7, 8, 9], [7, 10], [3, 7, 11], [3, 12], [13], [14], [14, 15], [14, 16], [17], [17], [17, 18, 19], [17, 20], [14, 17, 21], [14, 22], [23]]) (atV [fun vH _ => vH = .int .i64 (fcovers k p0 p1 p2 p3 c b v 1), fun vH _ => vH = .int .i64 (-1), fun vH _ => vH = .bool true, fun vH _ => vH = .bool true, fun vH _ => vH = .agg #[.int .i64 k, .int .i64 p0, .int .i64 p1, .int .i64 p2, .int .i64 p3, .int .i64 c, .int .i64 b, .int .i64 v], fun vH _ => vH = .bool eo625, fun vH _ => vH = .bool (!eo625), fun vH _ => vH = .bool (!eo625), cdV (True ∧ (!eo625) = false) (fun vH _ => vH = .agg (rawV (fapply k p0 p1 p2 p3 c b v 1 q0 q1 q2 q3 xs))), cdV (True ∧ (!eo625) = false) (fun vH _ => vH = .agg (rawV xs)), cdV (True ∧ (!eo625) = false) (fun vH _ => vH = .int .i64 ((expo 1 (fapply k p0 p1 p2 p3 c b v 1 q0 q1 q2 q3 xs) xs : Nat) : Int)), cdV (True ∧ (!eo625) = false) (fun vH _ => vH = .bool eo6211), fun vH _ => vH = .bool eo6212, fun vH _ => vH = .bool eo6212, fun vH _ => vH = .bool eo6212, cdV (True ∧ eo6212 = true) (fun vH _ => vH = .int .i64 1), cdV (True ∧ eo6212 = true) (fun vH _ => vH = .bool true), cdV (True ∧ eo6212 = true) (fun vH _ => vH = .bool true), cdV ((True ∧ eo6212 = true) ∧ true = false) (fun vH _ => vH = .agg (rawV (fapply k p0 p1 p2 p3 c b v 1 q0 q1 q2 q3 xs))), cdV ((True ∧ eo6212 = true) ∧ true = false) (fun vH _ => vH = .agg (rawV xs)), cdV ((True ∧ eo6212 = true) ∧ true = false) (fun vH _ => vH = .int .i64 ((expo 2 (fapply k p0 p1 p2 p3 c b v 1 q0 q1 q2 q3 xs) xs : Nat) : Int)), cdV ((True ∧ eo6212 = true) ∧ true = false) (fun vH _ => vH = .bool eo6221), cdV (True ∧ eo6212 = true) (fun vH _ => vH = .bool true), fun vH _ => vH = .bool eo6223, fun vH _ => vH = .bool eo6223]) BelowR (by kernel_rfl) BelowR.trans (BelowR.refl _)
      (StV.atV (.const _ (.const _ (.const _ (.const _ (.const _ (.const _ (.const _ (.const _ (.cons (fun v x y h _ => h) (.cons (fun v x y h _ => h) (.cons (fun v x y h _ => h) (.cons (fun v x y h _ => h) (.const _ (.const _ (.const _ (.cons (fun v x y h _ => h) (.cons (fun v x y h _ => h) (.cons (fun v x y h _ => h) (.cons (fun v x y h _ => h) (.cons (fun v x y h _ => h) (.cons (fun v x y h _ => h) (.cons (fun v x y h _ => h) (.cons (fun v x y h _ => h) (.const _ (.const _ .nil))))))))))))))))))))))))))
      ⟨?o62x0, ?o62x1, ?o62x2, ?o62x3, ?o62x4, ?o62x5, ?o62x6, ?o62x7, ?o62x8, ?o62x9, ?o62x10, ?o62x11, ?o62x12, ?o62x13, ?o62x14, ?o62x15, ?o62x16, ?o62x17, ?o62x18, ?o62x19, ?o62x20, ?o62x21, ?o62x22, ?o62x23, ?o62x24, trivial⟩ ?_
    case o62x0 =>
      exact held_move free_wide rfl BelowR.refl (.tmp 10) (.inl rfl) fun xH w' kH _ => (pO (by kernel_rfl) rfl)
    case o62x1 =>
      exact held_move free_wide rfl BelowR.refl (.tmp 11) (.inl rfl) fun xH w' kH _ => (pO (by kernel_rfl) rfl)
    case o62x2 =>
      exact held_run free_wide rfl (by rfl) BelowR.refl fun xH w' kH hR => ⟨_, run_binO rfl (pT 0 (by kernel_rfl) (by kernel_rfl) (kH 0 (by decide))) (pT 1 (by kernel_rfl) (by kernel_rfl) (kH 1 (by decide))) (eqIT (by first | exact covW1 (.inl rfl) rfl (by assumption) | exact covW2 rfl (by assumption) | exact covW3 rfl (by assumption) (by assumption))), rfl⟩
    case o62x3 =>
      exact held_move free_wide rfl BelowR.refl (.tmp 94) (.inl rfl) fun xH w' kH _ => (pT 2 (by kernel_rfl) (by kernel_rfl) (kH 2 (by decide)))
    case o62x4 =>
      exact held_loadG free_wide (heldGd_some 3 95 true rfl (by kernel_rfl) (by kernel_rfl) (by kernel_rfl) (fun xH w' kH => kH 3 (by decide))) BelowR.refl 25 (.tmp 4) rfl fun xH w' kH hR => ⟨_, _, (pO (by kernel_rfl) rfl), ldS OW hR 0 rfl 8 rfl Try.underlying25 rfl rfl (by kernel_rfl), rfl⟩
    case o62x5 =>
      refine held_callG free_wide (heldGd_some 3 95 true rfl (by kernel_rfl) (by kernel_rfl) (by kernel_rfl) (fun xH w' kH => kH 3 (by decide))) 22 _ _ rfl (enters_of Try.func22 (by kernel_rfl) rfl) fun xH w' kH hR => ⟨_, mapE1 (pT 4 (by kernel_rfl) (by kernel_rfl) (kH 4 (by decide))), ?_⟩
      refine (callsIn_wide.2 (fnarrow_any k p0 p1 p2 p3 c b v _)).mono ?_
      rintro e w2 ⟨rfl, h2⟩
      exact ⟨_, rfl, (congrArg Value.bool qeo625), h2⟩
    case o62x6 =>
      exact held_runG free_wide (heldGd_some 3 95 true rfl (by kernel_rfl) (by kernel_rfl) (by kernel_rfl) (fun xH w' kH => kH 3 (by decide))) (by rfl) BelowR.refl fun xH w' kH hR => ⟨_, run_unO rfl (pT 5 (by kernel_rfl) (by kernel_rfl) (kH 5 (by decide))) rfl, rfl⟩
    case o62x7 =>
      exact held_moveG free_wide (heldGd_some 3 95 true rfl (by kernel_rfl) (by kernel_rfl) (by kernel_rfl) (fun xH w' kH => kH 3 (by decide))) BelowR.refl (.tmp 98) (.inl rfl) fun xH w' kH _ => (pT 6 (by kernel_rfl) (by kernel_rfl) (kH 6 (by decide)))
    case o62x8 =>
      refine held_guard free_wide 7 99 false True (!eo625) BelowR.refl rfl (by kernel_rfl) (by kernel_rfl) (by kernel_rfl) (fun xH w' kH => .inl ⟨trivial, kH 7 (by decide)⟩) (fun hC hG => ?_) (fun hN w' => .inr ⟨hN, rfl⟩)
      exact held_loadG free_wide hG BelowR.refl 41 (.tmp 12) rfl fun xH w' kH hR => ⟨_, _, (pO (by kernel_rfl) rfl), ldR OW hR 3 rfl Try.underlying41 rfl (by rw [rawV_size, (show ((fapply k p0 p1 p2 p3 c b v 1 q0 q1 q2 q3 xs)).length = 72 from HF.out)]; exact infoRaw), (.inl ⟨hC, rfl⟩)⟩
    case o62x9 =>
      refine held_guard free_wide 7 99 false True (!eo625) BelowR.refl rfl (by kernel_rfl) (by kernel_rfl) (by kernel_rfl) (fun xH w' kH => .inl ⟨trivial, kH 7 (by decide)⟩) (fun hC hG => ?_) (fun hN w' => .inr ⟨hN, rfl⟩)
      exact held_loadG free_wide hG BelowR.refl 41 (.tmp 7) rfl fun xH w' kH hR => ⟨_, _, (pO (by kernel_rfl) rfl), ldR OW hR 2 rfl Try.underlying41 rfl (by rw [rawV_size, (show (xs).length = 72 from HX.out)]; exact infoRaw), (.inl ⟨hC, rfl⟩)⟩
    case o62x10 =>
      refine held_guard free_wide 7 99 false True (!eo625) BelowR.refl rfl (by kernel_rfl) (by kernel_rfl) (by kernel_rfl) (fun xH w' kH => .inl ⟨trivial, kH 7 (by decide)⟩) (fun hC hG => ?_) (fun hN w' => .inr ⟨hN, rfl⟩)
      refine held_callG free_wide hG 29 _ _ rfl (enters_of Try.func29 (by kernel_rfl) rfl) fun xH w' kH hR => ⟨_, mapE3 rfl (pT 8 (by kernel_rfl) (by kernel_rfl) (cdAt (kH 8 (by decide)) rfl hC)) (pT 9 (by kernel_rfl) (by kernel_rfl) (cdAt (kH 9 (by decide)) rfl hC)), ?_⟩
      refine (callsIn_wide.2 (refExp_any 1 (fapply k p0 p1 p2 p3 c b v 1 q0 q1 q2 q3 xs) xs (show ((fapply k p0 p1 p2 p3 c b v 1 q0 q1 q2 q3 xs)).length = 72 from HF.out) (show (xs).length = 72 from HX.out) _)).mono ?_
      rintro e w2 ⟨rfl, h2⟩
      exact ⟨_, rfl, (.inl ⟨hC, rfl⟩), h2⟩
    case o62x11 =>
      refine held_guard free_wide 7 99 false True (!eo625) BelowR.refl rfl (by kernel_rfl) (by kernel_rfl) (by kernel_rfl) (fun xH w' kH => .inl ⟨trivial, kH 7 (by decide)⟩) (fun hC hG => ?_) (fun hN w' => .inr ⟨hN, rfl⟩)
      exact held_runG free_wide hG (by rfl) BelowR.refl fun xH w' kH hR => ⟨_, run_binO rfl (pT 10 (by kernel_rfl) (by kernel_rfl) (cdAt (kH 10 (by decide)) rfl hC)) rfl bin_leq, (.inl ⟨hC, congrArg Value.bool qeo6211⟩)⟩
    case o62x12 =>
      exact held_runG free_wide (heldGd_some 3 95 true rfl (by kernel_rfl) (by kernel_rfl) (by kernel_rfl) (fun xH w' kH => kH 3 (by decide))) (by rfl) BelowR.refl fun xH w' kH hR => ⟨_, run_pickOr rfl (pT 7 (by kernel_rfl) (by kernel_rfl) (kH 7 (by decide))) rfl (fun h => pT 11 (by kernel_rfl) (by kernel_rfl) (cdAt (kH 11 (by decide)) rfl (And.intro trivial h))), (congrArg Value.bool qeo6212)⟩
    case o62x13 =>
      exact held_run free_wide rfl (by rfl) BelowR.refl fun xH w' kH hR => ⟨_, run_pickT rfl (pT 3 (by kernel_rfl) (by kernel_rfl) (kH 3 (by decide))) (pT 12 (by kernel_rfl) (by kernel_rfl) (kH 12 (by decide))), rfl⟩
    case o62x14 =>
      exact held_move free_wide rfl BelowR.refl (.tmp 105) (.inl rfl) fun xH w' kH _ => (pT 13 (by kernel_rfl) (by kernel_rfl) (kH 13 (by decide)))
    case o62x15 =>
      refine held_guard free_wide 14 106 true True eo6212 BelowR.refl rfl (by kernel_rfl) (by kernel_rfl) (by kernel_rfl) (fun xH w' kH => .inl ⟨trivial, kH 14 (by decide)⟩) (fun hC hG => ?_) (fun hN w' => .inr ⟨hN, rfl⟩)
      exact held_moveG free_wide hG BelowR.refl (.tmp 1) (.inl rfl) fun xH w' kH _ => .inl ⟨hC, (pO (by kernel_rfl) rfl)⟩
    case o62x16 =>
      refine held_guard free_wide 14 106 true True eo6212 BelowR.refl rfl (by kernel_rfl) (by kernel_rfl) (by kernel_rfl) (fun xH w' kH => .inl ⟨trivial, kH 14 (by decide)⟩) (fun hC hG => ?_) (fun hN w' => .inr ⟨hN, rfl⟩)
      exact held_runG free_wide hG (by rfl) BelowR.refl fun xH w' kH hR => ⟨_, run_binO rfl (pT 15 (by kernel_rfl) (by kernel_rfl) (cdAt (kH 15 (by decide)) rfl hC)) rfl (by kernel_rfl), (.inl ⟨hC, rfl⟩)⟩
    case o62x17 =>
      refine held_guard free_wide 14 106 true True eo6212 BelowR.refl rfl (by kernel_rfl) (by kernel_rfl) (by kernel_rfl) (fun xH w' kH => .inl ⟨trivial, kH 14 (by decide)⟩) (fun hC hG => ?_) (fun hN w' => .inr ⟨hN, rfl⟩)
      exact held_moveG free_wide hG BelowR.refl (.tmp 108) (.inl rfl) fun xH w' kH _ => .inl ⟨hC, (pT 16 (by kernel_rfl) (by kernel_rfl) (cdAt (kH 16 (by decide)) rfl hC))⟩
    case o62x18 =>
      refine held_guard free_wide 17 109 false (True ∧ eo6212 = true) true BelowR.refl rfl (by kernel_rfl) (by kernel_rfl) (by kernel_rfl) (fun xH w' kH => kH 17 (by decide)) (fun hC hG => ?_) (fun hN w' => .inr ⟨hN, rfl⟩)
      exact held_loadG free_wide hG BelowR.refl 41 (.tmp 12) rfl fun xH w' kH hR => ⟨_, _, (pO (by kernel_rfl) rfl), ldR OW hR 3 rfl Try.underlying41 rfl (by rw [rawV_size, (show ((fapply k p0 p1 p2 p3 c b v 1 q0 q1 q2 q3 xs)).length = 72 from HF.out)]; exact infoRaw), (.inl ⟨hC, rfl⟩)⟩
    case o62x19 =>
      refine held_guard free_wide 17 109 false (True ∧ eo6212 = true) true BelowR.refl rfl (by kernel_rfl) (by kernel_rfl) (by kernel_rfl) (fun xH w' kH => kH 17 (by decide)) (fun hC hG => ?_) (fun hN w' => .inr ⟨hN, rfl⟩)
      exact held_loadG free_wide hG BelowR.refl 41 (.tmp 7) rfl fun xH w' kH hR => ⟨_, _, (pO (by kernel_rfl) rfl), ldR OW hR 2 rfl Try.underlying41 rfl (by rw [rawV_size, (show (xs).length = 72 from HX.out)]; exact infoRaw), (.inl ⟨hC, rfl⟩)⟩
    case o62x20 =>
      refine held_guard free_wide 17 109 false (True ∧ eo6212 = true) true BelowR.refl rfl (by kernel_rfl) (by kernel_rfl) (by kernel_rfl) (fun xH w' kH => kH 17 (by decide)) (fun hC hG => ?_) (fun hN w' => .inr ⟨hN, rfl⟩)
      refine held_callG free_wide hG 29 _ _ rfl (enters_of Try.func29 (by kernel_rfl) rfl) fun xH w' kH hR => ⟨_, mapE3 rfl (pT 18 (by kernel_rfl) (by kernel_rfl) (cdAt (kH 18 (by decide)) rfl hC)) (pT 19 (by kernel_rfl) (by kernel_rfl) (cdAt (kH 19 (by decide)) rfl hC)), ?_⟩
      refine (callsIn_wide.2 (refExp_any 2 (fapply k p0 p1 p2 p3 c b v 1 q0 q1 q2 q3 xs) xs (show ((fapply k p0 p1 p2 p3 c b v 1 q0 q1 q2 q3 xs)).length = 72 from HF.out) (show (xs).length = 72 from HX.out) _)).mono ?_
      rintro e w2 ⟨rfl, h2⟩
      exact ⟨_, rfl, (.inl ⟨hC, rfl⟩), h2⟩
    case o62x21 =>
      refine held_guard free_wide 17 109 false (True ∧ eo6212 = true) true BelowR.refl rfl (by kernel_rfl) (by kernel_rfl) (by kernel_rfl) (fun xH w' kH => kH 17 (by decide)) (fun hC hG => ?_) (fun hN w' => .inr ⟨hN, rfl⟩)
      exact held_runG free_wide hG (by rfl) BelowR.refl fun xH w' kH hR => ⟨_, run_binO rfl (pT 20 (by kernel_rfl) (by kernel_rfl) (cdAt (kH 20 (by decide)) rfl hC)) rfl bin_leq, (.inl ⟨hC, congrArg Value.bool qeo6221⟩)⟩
    case o62x22 =>
      refine held_guard free_wide 14 106 true True eo6212 BelowR.refl rfl (by kernel_rfl) (by kernel_rfl) (by kernel_rfl) (fun xH w' kH => .inl ⟨trivial, kH 14 (by decide)⟩) (fun hC hG => ?_) (fun hN w' => .inr ⟨hN, rfl⟩)
      exact held_runG free_wide hG (by rfl) BelowR.refl fun xH w' kH hR => ⟨_, run_pickT rfl (pT 17 (by kernel_rfl) (by kernel_rfl) (cdAt (kH 17 (by decide)) rfl hC)) rfl, (.inl ⟨hC, rfl⟩)⟩
    case o62x23 =>
      exact held_run free_wide rfl (by rfl) BelowR.refl fun xH w' kH hR => ⟨_, run_pickAnd rfl (pT 14 (by kernel_rfl) (by kernel_rfl) (kH 14 (by decide))) rfl (fun h => pT 22 (by kernel_rfl) (by kernel_rfl) (cdAt (kH 22 (by decide)) rfl (And.intro trivial h))), (congrArg Value.bool qeo6223)⟩
    case o62x24 =>
      exact held_move free_wide rfl BelowR.refl (.tmp 115) (.inr rfl) fun xH w' kH _ => (pT 23 (by kernel_rfl) (by kernel_rfl) (kH 23 (by decide)))
    intro xH w' hv hR
    subst qeo6223 qeo6221 qeo6212 qeo6211 qeo625
    have h0 : xH 0 = _ := hv 0 (by omega)
    have h1 : xH 1 = _ := hv 1 (by omega)
    have h2 : xH 2 = _ := hv 2 (by omega)
    have h3 : xH 3 = _ := hv 3 (by omega)
    have h4 : xH 4 = _ := hv 4 (by omega)
    have h5 : xH 5 = _ := hv 5 (by omega)
    have h6 : xH 6 = _ := hv 6 (by omega)
    have h7 : xH 7 = _ := hv 7 (by omega)
    have h12 : xH 12 = _ := hv 12 (by omega)
    have h13 : xH 13 = _ := hv 13 (by omega)
    have h14 : xH 14 = _ := hv 14 (by omega)
    have h23 : xH 23 = _ := hv 23 (by omega)
    have h24 : xH 24 = _ := hv 24 (by omega)
    simp only [List.take_succ_cons, List.take_zero, List.drop_succ_cons, List.drop_zero, putsH, Act.put, List.setIfInBounds_toArray, List.set_cons_succ, List.set_cons_zero, h0, h1, h2, h3, h4, h5, h6, h7, h12, h13, h14, h23, h24]
    have OW2 := Lib.hid (OW.out.step hR)
    clear hv hR OW OZ  h0 h1 h2 h3 h4 h5 h6 h7 h12 h13 h14 h23 h24
    have OW := OW2
    clear OW2
    obtain ⟨g63, OZ⟩ := own_size OW HB0
    gi_wp2
    refine leaves_own [] _ (Nat.le_of_eq HB0.out) (by simpa using OW.out) ?_
    intro W' hO
    exact ⟨.bool (((!(fnarrow k p0 p1 p2 p3 c b v)) || (decide (((expo 1 (fapply k p0 p1 p2 p3 c b v 1 q0 q1 q2 q3 xs) xs : Nat) : Int) ≤ 1))) && true), by simp [results, Try.results6, go_sem], (by first | rfl | exact (cov_bad (mode := 1) (n := 9) (i := j) (.inl rfl) rfl HX.out (by omega) (by assumption)).elim | (rw [cF1 (.inl rfl) HX.out]; rfl) | (rw [cF1 (.inl rfl) HX.out, cF2 HX.out]; rfl)), hO.done HB0⟩

end Go.Proofs.Ytckhkagkpldoiaa
