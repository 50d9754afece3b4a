/- The statement FaultAgain: its walk. -/
import Derived.Test.YtckhkagkpldoiaaFltS
import Derived.Test.YtckhkagkpldoiaaEq72
namespace Go.Proofs.Ytckhkagkpldoiaa
open Go.RowKit Go.Shelf
attribute [local go_sem] Oper.semAt_some
set_option linter.unusedVariables false
set_option linter.unusedSimpArgs false

section
variable {P : Program} {w : World}
theorem eqT2 {X : Sem Value} {p q : List UInt8} (h : X.run P w = .ok (.bool (decide (p = q))) w) (e : p = q) : X.run P w = .ok (.bool true) w := by rw [h, decide_eq_true e]
theorem neF2 {X : Sem Value} {p q : List UInt8} (h : X.run P w = .ok (.bool (!decide (p = q))) w) (e : p = q) : X.run P w = .ok (.bool false) w := by rw [h, decide_eq_true e]; rfl
end
theorem swapI {a b : Int} (h : (a == b) = false) : a ≠ b := by simpa using h
attribute [local irreducible] fapply fcovers

set_option maxRecDepth 100000 in
set_option maxHeartbeats 1000000 in
theorem FaultAgain_any (x0 x1 x2 x3 x4 x5 x6 x7 y0 y1 y2 y3 y4 y5 y6 y7 mode u0 u1 u2 u3 : Int) (xs : List UInt8) (lx : xs.length = 72) (b1 : -9223372036854775808 ≤ x6) (b2 : x6 ≤ 9223372036854775807) (b3 : -9223372036854775808 ≤ y6) (b4 : y6 ≤ 9223372036854775807) (w : World) : Calls Try.prog 7 #[.agg #[.int .i64 x0, .int .i64 x1, .int .i64 x2, .int .i64 x3, .int .i64 x4, .int .i64 x5, .int .i64 x6, .int .i64 x7], .agg #[.int .i64 y0, .int .i64 y1, .int .i64 y2, .int .i64 y3, .int .i64 y4, .int .i64 y5, .int .i64 y6, .int .i64 y7], .int .i64 mode, .agg #[.int .i64 u0, .int .i64 u1, .int .i64 u2, .int .i64 u3], .agg (rawV xs)] w fun e w' => e = .returned (.bool true) ∧ Below w.heap.size w w' := by
  obtain ⟨b0, hb0⟩ : ∃ b0, w.heap.size = b0 := ⟨_, rfl⟩
  have HB0 := Lib.hid hb0
  have OW := Lib.hid (Own.start b0 w)
  have OZ := Lib.hid (And.intro hb0 (Nat.le_refl b0))
  clear hb0
  have HX := Lib.hid lx
  clear lx
  refine (callsIn_wide (n := 6)).1 ?_
  refine callsIn_of_wp_marks Try.func7 rfl trivial ?_ rfl
  simp only [Try.ntmps7, List.size_toArray, List.length_cons, List.length_nil, Nat.reduceAdd, Nat.reduceSub, Array.replicate_succ, Array.replicate_zero, List.push_toArray, List.append_toArray, List.nil_append, List.cons_append]
  gi_upto_region 1 with (first | (refine onlyD 5 rfl ?_; refine own_boxV 5 25 (.tmp 0) rfl rfl rfl (.agg #[.int .i64 x0, .int .i64 x1, .int .i64 x2, .int .i64 x3, .int .i64 x4, .int .i64 x5, .int .i64 x6, .int .i64 x7]) rfl #[.int .i64 x0, .int .i64 x1, .int .i64 x2, .int .i64 x3, .int .i64 x4, .int .i64 x5, .int .i64 x6, .int .i64 x7] rfl OW OZ ?_; clear OW OZ; intro W g1 OW OZ; simp only [Act.put, List.setIfInBounds_toArray, List.set_cons_succ, List.set_cons_zero]) | (refine onlyD 6 rfl ?_; refine own_boxV 6 25 (.tmp 1) rfl rfl rfl (.agg #[.int .i64 y0, .int .i64 y1, .int .i64 y2, .int .i64 y3, .int .i64 y4, .int .i64 y5, .int .i64 y6, .int .i64 y7]) rfl #[.int .i64 y0, .int .i64 y1, .int .i64 y2, .int .i64 y3, .int .i64 y4, .int .i64 y5, .int .i64 y6, .int .i64 y7] rfl OW OZ ?_; clear OW OZ; intro W g2 OW OZ; simp only [Act.put, List.setIfInBounds_toArray, List.set_cons_succ, List.set_cons_zero]) | (refine onlyD 8 rfl ?_; refine own_boxV 8 23 (.tmp 3) rfl rfl rfl (.agg #[.int .i64 u0, .int .i64 u1, .int .i64 u2, .int .i64 u3]) rfl #[.int .i64 u0, .int .i64 u1, .int .i64 u2, .int .i64 u3] rfl OW OZ ?_; clear OW OZ; intro W g3 OW OZ; simp only [Act.put, List.setIfInBounds_toArray, List.set_cons_succ, List.set_cons_zero]) | (refine onlyD 9 rfl ?_; refine own_boxV 9 41 (.tmp 4) rfl rfl rfl (.agg (rawV xs)) rfl (rawV xs) rfl OW OZ ?_; clear OW OZ; intro W g4 OW OZ; simp only [Act.put, List.setIfInBounds_toArray, List.set_cons_succ, List.set_cons_zero]))
  refine wpIn_region_heldL 2 (atD [[], [0]]) (atV [fun vH _ => vH = .bool true, fun vH _ => vH = .bool false]) BelowR (by kernel_rfl) BelowR.trans (BelowR.refl _)
    (StV.atV (.const _ (.const _ .nil)))
    ⟨?o5x0, ?o5x1, trivial⟩ ?_
  case o5x0 =>
    refine held_call free_wide rfl 15 _ _ rfl (enters_of Try.func15 (by kernel_rfl) rfl) fun xH w' kH hR => ⟨_, mapE0, ?_⟩
    refine (callsIn_wide.2 (anchor11_any  _)).mono ?_
    rintro e w2 ⟨rfl, h2⟩
    exact ⟨_, rfl, rfl, h2⟩
  case o5x1 =>
    exact held_run free_wide rfl (by rfl) BelowR.refl fun xH w' kH hR => ⟨_, run_unO rfl (pT 0 (by kernel_rfl) (by kernel_rfl) (kH 0 (by decide))) rfl, rfl⟩
  intro xH w' hv hR
  have h0 : xH 0 = _ := hv 0 (by omega)
  have h1 : xH 1 = _ := hv 1 (by omega)
  simp only [List.take_succ_cons, List.take_zero, List.drop_succ_cons, List.drop_zero, putsH, Act.put, List.setIfInBounds_toArray, List.set_cons_succ, List.set_cons_zero, h0, h1]
  have OW2 := Lib.hid (OW.out.step hR)
  clear hv hR OW OZ  h0 h1
  have OW := OW2
  clear OW2
  obtain ⟨g6, OZ⟩ := own_size OW HB0
  gi_wp2_with (first | (refine onlyD 14 rfl ?_; refine own_loadSubV 14 0 0 25 (.tmp 5) rfl rfl rfl rfl rfl [.int .i64 x0, .int .i64 x1, .int .i64 x2, .int .i64 x3, .int .i64 x4, .int .i64 x5, .int .i64 x6, .int .i64 x7] rfl Try.underlying25 rfl (by kernel_rfl) OW ?_; simp only [Act.put, List.setIfInBounds_toArray, List.set_cons_succ, List.set_cons_zero]) | (refine onlyD 16 rfl ?_; refine own_loadSubV 16 2 0 23 (.tmp 8) rfl rfl rfl rfl rfl [.int .i64 u0, .int .i64 u1, .int .i64 u2, .int .i64 u3] rfl Try.underlying23 rfl (by kernel_rfl) OW ?_; simp only [Act.put, List.setIfInBounds_toArray, List.set_cons_succ, List.set_cons_zero]) | (refine onlyD 17 rfl ?_; refine own_loadRowV 17 3 41 (.tmp 9) rfl rfl rfl rfl rfl _ Try.underlying41 rfl (by rw [rawV_size, (show (xs).length = 72 from HX.out)]; exact infoRaw) OW ?_; simp only [Act.put, List.setIfInBounds_toArray, List.set_cons_succ, List.set_cons_zero]))
  refine ⟨trivial, ?_⟩
  refine (callsIn_wide.2 (fapply_any x0 x1 x2 x3 x4 x5 x6 x7 mode u0 u1 u2 u3 xs (show (xs).length = 72 from HX.out) (by omega) (by omega) _)).mono ?_
  rintro e Wg7 ⟨rfl, hbw⟩
  obtain ⟨g7, OW2, OZ2⟩ := own_call OW OZ hbw
  clear hbw OW OZ
  have OW := OW2
  have OZ := OZ2
  clear OW2 OZ2
  gi_upto_region 4 with (first | (refine onlyD 11 rfl ?_; refine own_allocV 11 41 rfl rfl rfl (rawV zero72) alRaw OW OZ ?_; clear OW OZ; intro W g8 OW OZ; simp only [Act.put, List.setIfInBounds_toArray, List.set_cons_succ, List.set_cons_zero]) | (refine onlyO (.store 41 (.tmp 11) (.tmp 18)) rfl ?_; refine own_storeRow 4 41 (.tmp 11) (.tmp 18) rfl rfl rfl rfl (rawV (fapply x0 x1 x2 x3 x4 x5 x6 x7 mode u0 u1 u2 u3 xs)) rfl (by rw [rawV_size, rawV_size, (show ((fapply x0 x1 x2 x3 x4 x5 x6 x7 mode u0 u1 u2 u3 xs)).length = 72 from (fap_len HX.out)), (show (zero72).length = 72 from (show zero72.length = 72 from rfl))]) (rawV_one _) (by rw [rawV_size, (show ((fapply x0 x1 x2 x3 x4 x5 x6 x7 mode u0 u1 u2 u3 xs)).length = 72 from (fap_len HX.out))]; exact infoRaw) _ rfl OW OZ ?_; clear OW OZ; intro W OW OZ; simp only [Act.put, List.setIfInBounds_toArray, List.set_cons_succ, List.set_cons_zero]))
  refine wpIn_region_held 26 (atD [[], [], [], [], [0, 1, 2, 3], [], [4, 5], [6], [7], [7], [7, 8, 9], [7], [7], [7], [7, 10, 11, 12, 13], [7], [7, 14, 15], [7, 16], [17], [18], [18], [18], [18, 19, 20, 21], [18], [18, 22, 23], [18, 24]]) (atV [fun vH _ => vH = .agg #[.int .i64 x0, .int .i64 x1, .int .i64 x2, .int .i64 x3, .int .i64 x4, .int .i64 x5, .int .i64 x6, .int .i64 x7], fun vH _ => vH = .int .i64 mode, fun vH _ => vH = .agg #[.int .i64 u0, .int .i64 u1, .int .i64 u2, .int .i64 u3], fun vH _ => vH = .agg (rawV (fapply x0 x1 x2 x3 x4 x5 x6 x7 mode u0 u1 u2 u3 xs)), fun vH _ => vH = .agg (rawV (fapply x0 x1 x2 x3 x4 x5 x6 x7 mode u0 u1 u2 u3 (fapply x0 x1 x2 x3 x4 x5 x6 x7 mode u0 u1 u2 u3 xs))), fun vH _ => vH = .agg (rawV (fapply x0 x1 x2 x3 x4 x5 x6 x7 mode u0 u1 u2 u3 xs)), fun vH _ => vH = .bool false, fun vH _ => vH = .bool false, fun vH _ => vH = .agg #[.int .i64 x0, .int .i64 x1, .int .i64 x2, .int .i64 x3, .int .i64 x4, .int .i64 x5, .int .i64 x6, .int .i64 x7], fun vH _ => vH = .agg #[.int .i64 x0, .int .i64 x1, .int .i64 x2, .int .i64 x3, .int .i64 x4, .int .i64 x5, .int .i64 x6, .int .i64 x7], SlB g8 25 #[.int .i64 x0, .int .i64 x1, .int .i64 x2, .int .i64 x3, .int .i64 x4, .int .i64 x5, .int .i64 x6, .int .i64 x7, .int .i64 x0, .int .i64 x1, .int .i64 x2, .int .i64 x3, .int .i64 x4, .int .i64 x5, .int .i64 x6, .int .i64 x7] 2, fun vH _ => vH = .int .i64 mode, fun vH _ => vH = .agg #[.int .i64 u0, .int .i64 u1, .int .i64 u2, .int .i64 u3], fun vH _ => vH = .agg (rawV xs), fun vH _ => vH = .agg (rawV (fapply x0 x1 x2 x3 x4 x5 x6 x7 mode u0 u1 u2 u3 (fapply x0 x1 x2 x3 x4 x5 x6 x7 mode u0 u1 u2 u3 xs))), fun vH _ => vH = .agg (rawV (fapply x0 x1 x2 x3 x4 x5 x6 x7 mode u0 u1 u2 u3 xs)), fun vH _ => vH = .bool false, fun vH _ => vH = .bool false, fun vH _ => vH = .bool false, fun vH _ => vH = .int .i64 mode, fun vH _ => vH = .agg #[.int .i64 u0, .int .i64 u1, .int .i64 u2, .int .i64 u3], fun vH _ => vH = .agg (rawV xs), fun vH _ => vH = .agg (rawV xs), fun vH _ => vH = .agg (rawV xs), fun vH _ => vH = .bool false, fun vH _ => vH = .bool false]) BelowR (by kernel_rfl) (by kernel_rfl) BelowR.trans (BelowR.drew _)
    (StV.atV (.const _ (.const _ (.const _ (.const _ (.const _ (.const _ (.const _ (.const _ (.const _ (.const _ (.cons (fun v x y h k => SlB.step h k) (.const _ (.const _ (.const _ (.const _ (.const _ (.const _ (.const _ (.const _ (.const _ (.const _ (.const _ (.const _ (.const _ (.const _ (.const _ .nil)))))))))))))))))))))))))))
    ⟨?o9x0, ?o9x1, ?o9x2, ?o9x3, ?o9x4, ?o9x5, ?o9x6, ?o9x7, ?o9x8, ?o9x9, ?o9x10, ?o9x11, ?o9x12, ?o9x13, ?o9x14, ?o9x15, ?o9x16, ?o9x17, ?o9x18, ?o9x19, ?o9x20, ?o9x21, ?o9x22, ?o9x23, ?o9x24, ?o9x25, trivial⟩ ?_
  case o9x0 =>
    exact held_load free_wide rfl BelowR.refl 25 (.tmp 5) rfl fun xH w' kH hR => ⟨_, _, (pO (by kernel_rfl) rfl), ldS OW hR 0 rfl 8 rfl Try.underlying25 rfl rfl (by kernel_rfl), rfl⟩
  case o9x1 =>
    exact held_move free_wide rfl BelowR.refl (.tmp 2) (.inl rfl) fun xH w' kH _ => (pO (by kernel_rfl) rfl)
  case o9x2 =>
    exact held_load free_wide rfl BelowR.refl 23 (.tmp 8) rfl fun xH w' kH hR => ⟨_, _, (pO (by kernel_rfl) rfl), ldS OW hR 2 rfl 4 rfl Try.underlying23 rfl rfl (by kernel_rfl), rfl⟩
  case o9x3 =>
    exact held_load free_wide rfl BelowR.refl 41 (.tmp 11) rfl fun xH w' kH hR => ⟨_, _, (pO (by kernel_rfl) rfl), ldR OW hR 4 rfl Try.underlying41 rfl (by rw [rawV_size, (show ((fapply x0 x1 x2 x3 x4 x5 x6 x7 mode u0 u1 u2 u3 xs)).length = 72 from (fap_len HX.out))]; exact infoRaw), rfl⟩
  case o9x4 =>
    refine held_call free_wide rfl 23 _ _ rfl (enters_of Try.func23 (by kernel_rfl) rfl) fun xH w' kH hR => ⟨_, mapE4 (pT 0 (by kernel_rfl) (by kernel_rfl) (kH 0 (by decide))) (pT 1 (by kernel_rfl) (by kernel_rfl) (kH 1 (by decide))) (pT 2 (by kernel_rfl) (by kernel_rfl) (kH 2 (by decide))) (pT 3 (by kernel_rfl) (by kernel_rfl) (kH 3 (by decide))), ?_⟩
    refine (callsIn_wide.2 (fapply_any x0 x1 x2 x3 x4 x5 x6 x7 mode u0 u1 u2 u3 (fapply x0 x1 x2 x3 x4 x5 x6 x7 mode u0 u1 u2 u3 xs) (show ((fapply x0 x1 x2 x3 x4 x5 x6 x7 mode u0 u1 u2 u3 xs)).length = 72 from (fap_len HX.out)) (by omega) (by omega) _)).mono ?_
    rintro e w2 ⟨rfl, h2⟩
    exact ⟨_, rfl, rfl, h2⟩
  case o9x5 =>
    exact held_load free_wide rfl BelowR.refl 41 (.tmp 11) rfl fun xH w' kH hR => ⟨_, _, (pO (by kernel_rfl) rfl), ldR OW hR 4 rfl Try.underlying41 rfl (by rw [rawV_size, (show ((fapply x0 x1 x2 x3 x4 x5 x6 x7 mode u0 u1 u2 u3 xs)).length = 72 from (fap_len HX.out))]; exact infoRaw), rfl⟩
  case o9x6 =>
    exact held_run free_wide rfl (by rfl) BelowR.refl fun xH w' kH hR => ⟨_, run_binO rfl (pT 4 (by kernel_rfl) (by kernel_rfl) (kH 4 (by decide))) (pT 5 (by kernel_rfl) (by kernel_rfl) (kH 5 (by decide))) (neF2 (neq_rawO _ _ (fap_len (fap_len HX.out)) (fap_len HX.out) _ _ _) (fa_again HX.out)), rfl⟩
  case o9x7 =>
    exact held_move free_wide rfl BelowR.refl (.tmp 25) (.inl rfl) fun xH w' kH _ => (pT 6 (by kernel_rfl) (by kernel_rfl) (kH 6 (by decide)))
  case o9x8 =>
    exact held_loadG free_wide (heldGd_some 7 26 false rfl (by kernel_rfl) (by kernel_rfl) (by kernel_rfl) (fun xH w' kH => kH 7 (by decide))) BelowR.refl 25 (.tmp 5) rfl fun xH w' kH hR => ⟨_, _, (pO (by kernel_rfl) rfl), ldS OW hR 0 rfl 8 rfl Try.underlying25 rfl rfl (by kernel_rfl), rfl⟩
  case o9x9 =>
    exact held_loadG free_wide (heldGd_some 7 26 false rfl (by kernel_rfl) (by kernel_rfl) (by kernel_rfl) (fun xH w' kH => kH 7 (by decide))) BelowR.refl 25 (.tmp 5) rfl fun xH w' kH hR => ⟨_, _, (pO (by kernel_rfl) rfl), ldS OW hR 0 rfl 8 rfl Try.underlying25 rfl rfl (by kernel_rfl), rfl⟩
  case o9x10 =>
    exact held_bslG free_wide (heldGd_some 7 26 false rfl (by kernel_rfl) (by kernel_rfl) (by kernel_rfl) (fun xH w' kH => kH 7 (by decide))) (by rfl) 25 2 #[.int .i64 x0, .int .i64 x1, .int .i64 x2, .int .i64 x3, .int .i64 x4, .int .i64 x5, .int .i64 x6, .int .i64 x7, .int .i64 x0, .int .i64 x1, .int .i64 x2, .int .i64 x3, .int .i64 x4, .int .i64 x5, .int .i64 x6, .int .i64 x7] (fun xH w' kH hR => run_bsl2 rfl (pT 8 (by kernel_rfl) (by kernel_rfl) (kH 8 (by decide))) (pT 9 (by kernel_rfl) (by kernel_rfl) (kH 9 (by decide))) (by kernel_rfl)) (fun v w' h => by rw [OZ.out.1] at h; exact h)
  case o9x11 =>
    exact held_moveG free_wide (heldGd_some 7 26 false rfl (by kernel_rfl) (by kernel_rfl) (by kernel_rfl) (fun xH w' kH => kH 7 (by decide))) BelowR.refl (.tmp 2) (.inl rfl) fun xH w' kH _ => (pO (by kernel_rfl) rfl)
  case o9x12 =>
    exact held_loadG free_wide (heldGd_some 7 26 false rfl (by kernel_rfl) (by kernel_rfl) (by kernel_rfl) (fun xH w' kH => kH 7 (by decide))) BelowR.refl 23 (.tmp 8) rfl fun xH w' kH hR => ⟨_, _, (pO (by kernel_rfl) rfl), ldS OW hR 2 rfl 4 rfl Try.underlying23 rfl rfl (by kernel_rfl), rfl⟩
  case o9x13 =>
    exact held_loadG free_wide (heldGd_some 7 26 false rfl (by kernel_rfl) (by kernel_rfl) (by kernel_rfl) (fun xH w' kH => kH 7 (by decide))) BelowR.refl 41 (.tmp 9) rfl fun xH w' kH hR => ⟨_, _, (pO (by kernel_rfl) rfl), ldR OW hR 3 rfl Try.underlying41 rfl (by rw [rawV_size, (show (xs).length = 72 from HX.out)]; exact infoRaw), rfl⟩
  case o9x14 =>
    refine held_callG free_wide (heldGd_some 7 26 false rfl (by kernel_rfl) (by kernel_rfl) (by kernel_rfl) (fun xH w' kH => kH 7 (by decide))) 25 _ _ rfl (enters_of Try.func25 (by kernel_rfl) rfl) fun xH w' kH hR => ?_
    obtain ⟨sb10, hgsb10, _, hksb10⟩ : SlB g8 25 #[.int .i64 x0, .int .i64 x1, .int .i64 x2, .int .i64 x3, .int .i64 x4, .int .i64 x5, .int .i64 x6, .int .i64 x7, .int .i64 x0, .int .i64 x1, .int .i64 x2, .int .i64 x3, .int .i64 x4, .int .i64 x5, .int .i64 x6, .int .i64 x7] 2 (xH 10) w' := kH 10 (by decide)
    refine ⟨_, mapE4 (pT 10 (by kernel_rfl) (by kernel_rfl) hgsb10) (pT 11 (by kernel_rfl) (by kernel_rfl) (kH 11 (by decide))) (pT 12 (by kernel_rfl) (by kernel_rfl) (kH 12 (by decide))) (pT 13 (by kernel_rfl) (by kernel_rfl) (kH 13 (by decide))), ?_⟩
    refine (callsIn_wide.2 (over2_any sb10 x0 x1 x2 x3 x4 x5 x6 x7 x0 x1 x2 x3 x4 x5 x6 x7 mode u0 u1 u2 u3 xs (HX.out) (by omega) (by omega) (by omega) (by omega) _ hksb10)).mono ?_
    rintro e w2 ⟨rfl, h2⟩
    exact ⟨_, rfl, rfl, h2⟩
  case o9x15 =>
    exact held_loadG free_wide (heldGd_some 7 26 false rfl (by kernel_rfl) (by kernel_rfl) (by kernel_rfl) (fun xH w' kH => kH 7 (by decide))) BelowR.refl 41 (.tmp 11) rfl fun xH w' kH hR => ⟨_, _, (pO (by kernel_rfl) rfl), ldR OW hR 4 rfl Try.underlying41 rfl (by rw [rawV_size, (show ((fapply x0 x1 x2 x3 x4 x5 x6 x7 mode u0 u1 u2 u3 xs)).length = 72 from (fap_len HX.out))]; exact infoRaw), rfl⟩
  case o9x16 =>
    exact held_runG free_wide (heldGd_some 7 26 false rfl (by kernel_rfl) (by kernel_rfl) (by kernel_rfl) (fun xH w' kH => kH 7 (by decide))) (by rfl) BelowR.refl fun xH w' kH hR => ⟨_, run_binO rfl (pT 14 (by kernel_rfl) (by kernel_rfl) (kH 14 (by decide))) (pT 15 (by kernel_rfl) (by kernel_rfl) (kH 15 (by decide))) (neF2 (neq_rawO _ _ (fap_len (fap_len HX.out)) (fap_len HX.out) _ _ _) (fa_again HX.out)), rfl⟩
  case o9x17 =>
    exact held_run free_wide rfl (by rfl) BelowR.refl fun xH w' kH hR => ⟨_, run_pickF rfl (pT 7 (by kernel_rfl) (by kernel_rfl) (kH 7 (by decide))) (pT 16 (by kernel_rfl) (by kernel_rfl) (kH 16 (by decide))), rfl⟩
  case o9x18 =>
    exact held_move free_wide rfl BelowR.refl (.tmp 36) (.inl rfl) fun xH w' kH _ => (pT 17 (by kernel_rfl) (by kernel_rfl) (kH 17 (by decide)))
  case o9x19 =>
    exact held_moveG free_wide (heldGd_some 18 37 false rfl (by kernel_rfl) (by kernel_rfl) (by kernel_rfl) (fun xH w' kH => kH 18 (by decide))) BelowR.refl (.tmp 2) (.inl rfl) fun xH w' kH _ => (pO (by kernel_rfl) rfl)
  case o9x20 =>
    exact held_loadG free_wide (heldGd_some 18 37 false rfl (by kernel_rfl) (by kernel_rfl) (by kernel_rfl) (fun xH w' kH => kH 18 (by decide))) BelowR.refl 23 (.tmp 8) rfl fun xH w' kH hR => ⟨_, _, (pO (by kernel_rfl) rfl), ldS OW hR 2 rfl 4 rfl Try.underlying23 rfl rfl (by kernel_rfl), rfl⟩
  case o9x21 =>
    exact held_loadG free_wide (heldGd_some 18 37 false rfl (by kernel_rfl) (by kernel_rfl) (by kernel_rfl) (fun xH w' kH => kH 18 (by decide))) BelowR.refl 41 (.tmp 9) rfl fun xH w' kH hR => ⟨_, _, (pO (by kernel_rfl) rfl), ldR OW hR 3 rfl Try.underlying41 rfl (by rw [rawV_size, (show (xs).length = 72 from HX.out)]; exact infoRaw), rfl⟩
  case o9x22 =>
    refine held_callG free_wide (heldGd_some 18 37 false rfl (by kernel_rfl) (by kernel_rfl) (by kernel_rfl) (fun xH w' kH => kH 18 (by decide))) 25 _ _ rfl (enters_of Try.func25 (by kernel_rfl) rfl) fun xH w' kH hR => ⟨_, mapE4 rfl (pT 19 (by kernel_rfl) (by kernel_rfl) (kH 19 (by decide))) (pT 20 (by kernel_rfl) (by kernel_rfl) (kH 20 (by decide))) (pT 21 (by kernel_rfl) (by kernel_rfl) (kH 21 (by decide))), ?_⟩
    refine (callsIn_wide.2 (over0_any mode u0 u1 u2 u3 xs HX.out _)).mono ?_
    rintro e w2 ⟨rfl, h2⟩
    exact ⟨_, rfl, rfl, h2⟩
  case o9x23 =>
    exact held_loadG free_wide (heldGd_some 18 37 false rfl (by kernel_rfl) (by kernel_rfl) (by kernel_rfl) (fun xH w' kH => kH 18 (by decide))) BelowR.refl 41 (.tmp 9) rfl fun xH w' kH hR => ⟨_, _, (pO (by kernel_rfl) rfl), ldR OW hR 3 rfl Try.underlying41 rfl (by rw [rawV_size, (show (xs).length = 72 from HX.out)]; exact infoRaw), rfl⟩
  case o9x24 =>
    exact held_runG free_wide (heldGd_some 18 37 false rfl (by kernel_rfl) (by kernel_rfl) (by kernel_rfl) (fun xH w' kH => kH 18 (by decide))) (by rfl) BelowR.refl fun xH w' kH hR => ⟨_, run_binO rfl (pT 22 (by kernel_rfl) (by kernel_rfl) (kH 22 (by decide))) (pT 23 (by kernel_rfl) (by kernel_rfl) (kH 23 (by decide))) (neF2 (neq_rawO _ _ HX.out HX.out _ _ _) rfl), rfl⟩
  case o9x25 =>
    exact held_run free_wide rfl (by rfl) BelowR.refl fun xH w' kH hR => ⟨_, run_pickF rfl (pT 18 (by kernel_rfl) (by kernel_rfl) (kH 18 (by decide))) (pT 24 (by kernel_rfl) (by kernel_rfl) (kH 24 (by decide))), rfl⟩
  intro xH w' hv hR
  have h0 : xH 0 = _ := hv 0 (by omega)
  have h1 : xH 1 = _ := hv 1 (by omega)
  have h2 : xH 2 = _ := hv 2 (by omega)
  have h3 : xH 3 = _ := hv 3 (by omega)
  have h4 : xH 4 = _ := hv 4 (by omega)
  have h5 : xH 5 = _ := hv 5 (by omega)
  have h6 : xH 6 = _ := hv 6 (by omega)
  have h7 : xH 7 = _ := hv 7 (by omega)
  have h8 : xH 8 = _ := hv 8 (by omega)
  have h9 : xH 9 = _ := hv 9 (by omega)
  obtain ⟨sb10, h10, _, _⟩ : SlB g8 25 #[.int .i64 x0, .int .i64 x1, .int .i64 x2, .int .i64 x3, .int .i64 x4, .int .i64 x5, .int .i64 x6, .int .i64 x7, .int .i64 x0, .int .i64 x1, .int .i64 x2, .int .i64 x3, .int .i64 x4, .int .i64 x5, .int .i64 x6, .int .i64 x7] 2 (xH 10) w' := hv 10 (by omega)
  have h11 : xH 11 = _ := hv 11 (by omega)
  have h12 : xH 12 = _ := hv 12 (by omega)
  have h13 : xH 13 = _ := hv 13 (by omega)
  have h14 : xH 14 = _ := hv 14 (by omega)
  have h15 : xH 15 = _ := hv 15 (by omega)
  have h16 : xH 16 = _ := hv 16 (by omega)
  have h17 : xH 17 = _ := hv 17 (by omega)
  have h18 : xH 18 = _ := hv 18 (by omega)
  have h19 : xH 19 = _ := hv 19 (by omega)
  have h20 : xH 20 = _ := hv 20 (by omega)
  have h21 : xH 21 = _ := hv 21 (by omega)
  have h22 : xH 22 = _ := hv 22 (by omega)
  have h23 : xH 23 = _ := hv 23 (by omega)
  have h24 : xH 24 = _ := hv 24 (by omega)
  have h25 : xH 25 = _ := hv 25 (by omega)
  simp only [List.take_succ_cons, List.take_zero, List.drop_succ_cons, List.drop_zero, putsH, Act.put, List.setIfInBounds_toArray, List.set_cons_succ, List.set_cons_zero, h0, h1, h2, h3, h4, h5, h6, h7, h8, h9, h10, h11, h12, h13, h14, h15, h16, h17, h18, h19, h20, h21, h22, h23, h24, h25]
  have OW2 := Lib.hid (OW.out.step hR)
  clear hv hR OW OZ  h0 h1 h2 h3 h4 h5 h6 h7 h8 h9 h10 h11 h12 h13 h14 h15 h16 h17 h18 h19 h20 h21 h22 h23 h24 h25
  have OW := OW2
  clear OW2
  obtain ⟨g11, OZ⟩ := own_size OW HB0
  gi_upto_region 6 with fail
  obtain ⟨eo126, qeo126⟩ : ∃ e, ((fcovers x0 x1 x2 x3 x4 x5 x6 x7 mode) == (fcovers y0 y1 y2 y3 y4 y5 y6 y7 mode)) = e := ⟨_, rfl⟩
  refine wpIn_region_held 7 (atD [[], [], [0, 1], [], [], [3, 4], [2, 5]]) (atV [fun vH _ => vH = .agg #[.int .i64 x0, .int .i64 x1, .int .i64 x2, .int .i64 x3, .int .i64 x4, .int .i64 x5, .int .i64 x6, .int .i64 x7], fun vH _ => vH = .int .i64 mode, fun vH _ => vH = .int .i64 (fcovers x0 x1 x2 x3 x4 x5 x6 x7 mode), fun vH _ => vH = .agg #[.int .i64 y0, .int .i64 y1, .int .i64 y2, .int .i64 y3, .int .i64 y4, .int .i64 y5, .int .i64 y6, .int .i64 y7], fun vH _ => vH = .int .i64 mode, fun vH _ => vH = .int .i64 (fcovers y0 y1 y2 y3 y4 y5 y6 y7 mode), fun vH _ => vH = .bool eo126]) BelowR (by kernel_rfl) (by kernel_rfl) BelowR.trans (BelowR.drew _)
    (StV.atV (.const _ (.const _ (.const _ (.const _ (.const _ (.const _ (.const _ .nil))))))))
    ⟨?o12x0, ?o12x1, ?o12x2, ?o12x3, ?o12x4, ?o12x5, ?o12x6, trivial⟩ ?_
  case o12x0 =>
    exact held_load free_wide rfl BelowR.refl 25 (.tmp 5) rfl fun xH w' kH hR => ⟨_, _, (pO (by kernel_rfl) rfl), ldS OW hR 0 rfl 8 rfl Try.underlying25 rfl rfl (by kernel_rfl), rfl⟩
  case o12x1 =>
    exact held_move free_wide rfl BelowR.refl (.tmp 2) (.inl rfl) fun xH w' kH _ => (pO (by kernel_rfl) rfl)
  case o12x2 =>
    refine held_call free_wide rfl 27 _ _ rfl (enters_of Try.func27 (by kernel_rfl) rfl) fun xH w' kH hR => ⟨_, mapE2 (pT 0 (by kernel_rfl) (by kernel_rfl) (kH 0 (by decide))) (pT 1 (by kernel_rfl) (by kernel_rfl) (kH 1 (by decide))), ?_⟩
    refine (callsIn_wide.2 (fcovers_any x0 x1 x2 x3 x4 x5 x6 x7 mode (by omega) (by omega) _)).mono ?_
    rintro e w2 ⟨rfl, h2⟩
    exact ⟨_, rfl, rfl, h2⟩
  case o12x3 =>
    exact held_load free_wide rfl BelowR.refl 25 (.tmp 6) rfl fun xH w' kH hR => ⟨_, _, (pO (by kernel_rfl) rfl), ldS OW hR 1 rfl 8 rfl Try.underlying25 rfl rfl (by kernel_rfl), rfl⟩
  case o12x4 =>
    exact held_move free_wide rfl BelowR.refl (.tmp 2) (.inl rfl) fun xH w' kH _ => (pO (by kernel_rfl) rfl)
  case o12x5 =>
    refine held_call free_wide rfl 27 _ _ rfl (enters_of Try.func27 (by kernel_rfl) rfl) fun xH w' kH hR => ⟨_, mapE2 (pT 3 (by kernel_rfl) (by kernel_rfl) (kH 3 (by decide))) (pT 4 (by kernel_rfl) (by kernel_rfl) (kH 4 (by decide))), ?_⟩
    refine (callsIn_wide.2 (fcovers_any y0 y1 y2 y3 y4 y5 y6 y7 mode (by omega) (by omega) _)).mono ?_
    rintro e w2 ⟨rfl, h2⟩
    exact ⟨_, rfl, rfl, h2⟩
  case o12x6 =>
    exact held_run free_wide rfl (by rfl) BelowR.refl fun xH w' kH hR => ⟨_, run_binO rfl (pT 2 (by kernel_rfl) (by kernel_rfl) (kH 2 (by decide))) (pT 5 (by kernel_rfl) (by kernel_rfl) (kH 5 (by decide))) bin_eql, (congrArg Value.bool qeo126)⟩
  intro xH w' hv hR
  subst qeo126
  have h0 : xH 0 = _ := hv 0 (by omega)
  have h1 : xH 1 = _ := hv 1 (by omega)
  have h2 : xH 2 = _ := hv 2 (by omega)
  have h3 : xH 3 = _ := hv 3 (by omega)
  have h4 : xH 4 = _ := hv 4 (by omega)
  have h5 : xH 5 = _ := hv 5 (by omega)
  have h6 : xH 6 = _ := hv 6 (by omega)
  simp only [List.take_succ_cons, List.take_zero, List.drop_succ_cons, List.drop_zero, putsH, Act.put, List.setIfInBounds_toArray, List.set_cons_succ, List.set_cons_zero, h0, h1, h2, h3, h4, h5, h6]
  have OW2 := Lib.hid (OW.out.step hR)
  clear hv hR OW OZ  h0 h1 h2 h3 h4 h5 h6
  have OW := OW2
  clear OW2
  obtain ⟨g13, OZ⟩ := own_size OW HB0
  cases hB14 : ((fcovers x0 x1 x2 x3 x4 x5 x6 x7 mode) == (fcovers y0 y1 y2 y3 y4 y5 y6 y7 mode))
  case true =>
    gi_wp2
    refine leaves_own [] _ (Nat.le_of_eq HB0.out) (by simpa using OW.out) ?_
    intro W' hO
    exact ⟨.bool true, by simp [results, Try.results7, go_sem], rfl, hO.done HB0⟩
  gi_upto_region 8 with fail
  refine wpIn_region_held 16 (atD [[], [], [0, 1], [], [], [], [2, 3, 4, 5], [], [], [7, 8], [], [], [], [9, 10, 11, 12], [6, 13], [14]]) (atV [fun vH _ => vH = .agg #[.int .i64 x0, .int .i64 x1, .int .i64 x2, .int .i64 x3, .int .i64 x4, .int .i64 x5, .int .i64 x6, .int .i64 x7], fun vH _ => vH = .agg #[.int .i64 y0, .int .i64 y1, .int .i64 y2, .int .i64 y3, .int .i64 y4, .int .i64 y5, .int .i64 y6, .int .i64 y7], SlB g13 25 #[.int .i64 x0, .int .i64 x1, .int .i64 x2, .int .i64 x3, .int .i64 x4, .int .i64 x5, .int .i64 x6, .int .i64 x7, .int .i64 y0, .int .i64 y1, .int .i64 y2, .int .i64 y3, .int .i64 y4, .int .i64 y5, .int .i64 y6, .int .i64 y7] 2, fun vH _ => vH = .int .i64 mode, fun vH _ => vH = .agg #[.int .i64 u0, .int .i64 u1, .int .i64 u2, .int .i64 u3], fun vH _ => vH = .agg (rawV xs), fun vH _ => vH = .agg (rawV (fapply y0 y1 y2 y3 y4 y5 y6 y7 mode u0 u1 u2 u3 (fapply x0 x1 x2 x3 x4 x5 x6 x7 mode u0 u1 u2 u3 xs))), fun vH _ => vH = .agg #[.int .i64 y0, .int .i64 y1, .int .i64 y2, .int .i64 y3, .int .i64 y4, .int .i64 y5, .int .i64 y6, .int .i64 y7], fun vH _ => vH = .agg #[.int .i64 x0, .int .i64 x1, .int .i64 x2, .int .i64 x3, .int .i64 x4, .int .i64 x5, .int .i64 x6, .int .i64 x7], SlB g13 25 #[.int .i64 y0, .int .i64 y1, .int .i64 y2, .int .i64 y3, .int .i64 y4, .int .i64 y5, .int .i64 y6, .int .i64 y7, .int .i64 x0, .int .i64 x1, .int .i64 x2, .int .i64 x3, .int .i64 x4, .int .i64 x5, .int .i64 x6, .int .i64 x7] 2, fun vH _ => vH = .int .i64 mode, fun vH _ => vH = .agg #[.int .i64 u0, .int .i64 u1, .int .i64 u2, .int .i64 u3], fun vH _ => vH = .agg (rawV xs), fun vH _ => vH = .agg (rawV (fapply x0 x1 x2 x3 x4 x5 x6 x7 mode u0 u1 u2 u3 (fapply y0 y1 y2 y3 y4 y5 y6 y7 mode u0 u1 u2 u3 xs))), fun vH _ => vH = .bool true, fun vH _ => vH = .bool true]) BelowR (by kernel_rfl) (by kernel_rfl) BelowR.trans (BelowR.drew _)
    (StV.atV (.const _ (.const _ (.cons (fun v x y h k => SlB.step h k) (.const _ (.const _ (.const _ (.const _ (.const _ (.const _ (.cons (fun v x y h k => SlB.step h k) (.const _ (.const _ (.const _ (.const _ (.const _ (.const _ .nil)))))))))))))))))
    ⟨?o15x0, ?o15x1, ?o15x2, ?o15x3, ?o15x4, ?o15x5, ?o15x6, ?o15x7, ?o15x8, ?o15x9, ?o15x10, ?o15x11, ?o15x12, ?o15x13, ?o15x14, ?o15x15, trivial⟩ ?_
  case o15x0 =>
    exact held_load free_wide rfl BelowR.refl 25 (.tmp 5) rfl fun xH w' kH hR => ⟨_, _, (pO (by kernel_rfl) rfl), ldS OW hR 0 rfl 8 rfl Try.underlying25 rfl rfl (by kernel_rfl), rfl⟩
  case o15x1 =>
    exact held_load free_wide rfl BelowR.refl 25 (.tmp 6) rfl fun xH w' kH hR => ⟨_, _, (pO (by kernel_rfl) rfl), ldS OW hR 1 rfl 8 rfl Try.underlying25 rfl rfl (by kernel_rfl), rfl⟩
  case o15x2 =>
    exact held_bslG free_wide (heldGd_none rfl) (by rfl) 25 2 #[.int .i64 x0, .int .i64 x1, .int .i64 x2, .int .i64 x3, .int .i64 x4, .int .i64 x5, .int .i64 x6, .int .i64 x7, .int .i64 y0, .int .i64 y1, .int .i64 y2, .int .i64 y3, .int .i64 y4, .int .i64 y5, .int .i64 y6, .int .i64 y7] (fun xH w' kH hR => run_bsl2 rfl (pT 0 (by kernel_rfl) (by kernel_rfl) (kH 0 (by decide))) (pT 1 (by kernel_rfl) (by kernel_rfl) (kH 1 (by decide))) (by kernel_rfl)) (fun v w' h => by rw [OZ.out.1] at h; exact h)
  case o15x3 =>
    exact held_move free_wide rfl BelowR.refl (.tmp 2) (.inl rfl) fun xH w' kH _ => (pO (by kernel_rfl) rfl)
  case o15x4 =>
    exact held_load free_wide rfl BelowR.refl 23 (.tmp 8) rfl fun xH w' kH hR => ⟨_, _, (pO (by kernel_rfl) rfl), ldS OW hR 2 rfl 4 rfl Try.underlying23 rfl rfl (by kernel_rfl), rfl⟩
  case o15x5 =>
    exact held_load free_wide rfl BelowR.refl 41 (.tmp 9) rfl fun xH w' kH hR => ⟨_, _, (pO (by kernel_rfl) rfl), ldR OW hR 3 rfl Try.underlying41 rfl (by rw [rawV_size, (show (xs).length = 72 from HX.out)]; exact infoRaw), rfl⟩
  case o15x6 =>
    refine held_call free_wide rfl 25 _ _ rfl (enters_of Try.func25 (by kernel_rfl) rfl) fun xH w' kH hR => ?_
    obtain ⟨sb16, hgsb16, _, hksb16⟩ : SlB g13 25 #[.int .i64 x0, .int .i64 x1, .int .i64 x2, .int .i64 x3, .int .i64 x4, .int .i64 x5, .int .i64 x6, .int .i64 x7, .int .i64 y0, .int .i64 y1, .int .i64 y2, .int .i64 y3, .int .i64 y4, .int .i64 y5, .int .i64 y6, .int .i64 y7] 2 (xH 2) w' := kH 2 (by decide)
    refine ⟨_, mapE4 (pT 2 (by kernel_rfl) (by kernel_rfl) hgsb16) (pT 3 (by kernel_rfl) (by kernel_rfl) (kH 3 (by decide))) (pT 4 (by kernel_rfl) (by kernel_rfl) (kH 4 (by decide))) (pT 5 (by kernel_rfl) (by kernel_rfl) (kH 5 (by decide))), ?_⟩
    refine (callsIn_wide.2 (over2_any sb16 x0 x1 x2 x3 x4 x5 x6 x7 y0 y1 y2 y3 y4 y5 y6 y7 mode u0 u1 u2 u3 xs (HX.out) (by omega) (by omega) (by omega) (by omega) _ hksb16)).mono ?_
    rintro e w2 ⟨rfl, h2⟩
    exact ⟨_, rfl, rfl, h2⟩
  case o15x7 =>
    exact held_load free_wide rfl BelowR.refl 25 (.tmp 6) rfl fun xH w' kH hR => ⟨_, _, (pO (by kernel_rfl) rfl), ldS OW hR 1 rfl 8 rfl Try.underlying25 rfl rfl (by kernel_rfl), rfl⟩
  case o15x8 =>
    exact held_load free_wide rfl BelowR.refl 25 (.tmp 5) rfl fun xH w' kH hR => ⟨_, _, (pO (by kernel_rfl) rfl), ldS OW hR 0 rfl 8 rfl Try.underlying25 rfl rfl (by kernel_rfl), rfl⟩
  case o15x9 =>
    exact held_bslG free_wide (heldGd_none rfl) (by rfl) 25 2 #[.int .i64 y0, .int .i64 y1, .int .i64 y2, .int .i64 y3, .int .i64 y4, .int .i64 y5, .int .i64 y6, .int .i64 y7, .int .i64 x0, .int .i64 x1, .int .i64 x2, .int .i64 x3, .int .i64 x4, .int .i64 x5, .int .i64 x6, .int .i64 x7] (fun xH w' kH hR => run_bsl2 rfl (pT 7 (by kernel_rfl) (by kernel_rfl) (kH 7 (by decide))) (pT 8 (by kernel_rfl) (by kernel_rfl) (kH 8 (by decide))) (by kernel_rfl)) (fun v w' h => by rw [OZ.out.1] at h; exact h)
  case o15x10 =>
    exact held_move free_wide rfl BelowR.refl (.tmp 2) (.inl rfl) fun xH w' kH _ => (pO (by kernel_rfl) rfl)
  case o15x11 =>
    exact held_load free_wide rfl BelowR.refl 23 (.tmp 8) rfl fun xH w' kH hR => ⟨_, _, (pO (by kernel_rfl) rfl), ldS OW hR 2 rfl 4 rfl Try.underlying23 rfl rfl (by kernel_rfl), rfl⟩
  case o15x12 =>
    exact held_load free_wide rfl BelowR.refl 41 (.tmp 9) rfl fun xH w' kH hR => ⟨_, _, (pO (by kernel_rfl) rfl), ldR OW hR 3 rfl Try.underlying41 rfl (by rw [rawV_size, (show (xs).length = 72 from HX.out)]; exact infoRaw), rfl⟩
  case o15x13 =>
    refine held_call free_wide rfl 25 _ _ rfl (enters_of Try.func25 (by kernel_rfl) rfl) fun xH w' kH hR => ?_
    obtain ⟨sb17, hgsb17, _, hksb17⟩ : SlB g13 25 #[.int .i64 y0, .int .i64 y1, .int .i64 y2, .int .i64 y3, .int .i64 y4, .int .i64 y5, .int .i64 y6, .int .i64 y7, .int .i64 x0, .int .i64 x1, .int .i64 x2, .int .i64 x3, .int .i64 x4, .int .i64 x5, .int .i64 x6, .int .i64 x7] 2 (xH 9) w' := kH 9 (by decide)
    refine ⟨_, mapE4 (pT 9 (by kernel_rfl) (by kernel_rfl) hgsb17) (pT 10 (by kernel_rfl) (by kernel_rfl) (kH 10 (by decide))) (pT 11 (by kernel_rfl) (by kernel_rfl) (kH 11 (by decide))) (pT 12 (by kernel_rfl) (by kernel_rfl) (kH 12 (by decide))), ?_⟩
    refine (callsIn_wide.2 (over2_any sb17 y0 y1 y2 y3 y4 y5 y6 y7 x0 x1 x2 x3 x4 x5 x6 x7 mode u0 u1 u2 u3 xs (HX.out) (by omega) (by omega) (by omega) (by omega) _ hksb17)).mono ?_
    rintro e w2 ⟨rfl, h2⟩
    exact ⟨_, rfl, rfl, h2⟩
  case o15x14 =>
    exact held_run free_wide rfl (by rfl) BelowR.refl fun xH w' kH hR => ⟨_, run_binO rfl (pT 6 (by kernel_rfl) (by kernel_rfl) (kH 6 (by decide))) (pT 13 (by kernel_rfl) (by kernel_rfl) (kH 13 (by decide))) (eqT2 (eq_rawO _ _ (fap_len (fap_len HX.out)) (fap_len (fap_len HX.out)) _ _ _) (fa_swap HX.out (fun e => swapI (by assumption) e.symm))), rfl⟩
  case o15x15 =>
    exact held_move free_wide rfl BelowR.refl (.tmp 66) (.inr rfl) fun xH w' kH _ => (pT 14 (by kernel_rfl) (by kernel_rfl) (kH 14 (by decide)))
  intro xH w' hv hR
  have h0 : xH 0 = _ := hv 0 (by omega)
  have h1 : xH 1 = _ := hv 1 (by omega)
  obtain ⟨sb16, h2, _, _⟩ : SlB g13 25 #[.int .i64 x0, .int .i64 x1, .int .i64 x2, .int .i64 x3, .int .i64 x4, .int .i64 x5, .int .i64 x6, .int .i64 x7, .int .i64 y0, .int .i64 y1, .int .i64 y2, .int .i64 y3, .int .i64 y4, .int .i64 y5, .int .i64 y6, .int .i64 y7] 2 (xH 2) w' := hv 2 (by omega)
  have h3 : xH 3 = _ := hv 3 (by omega)
  have h4 : xH 4 = _ := hv 4 (by omega)
  have h5 : xH 5 = _ := hv 5 (by omega)
  have h6 : xH 6 = _ := hv 6 (by omega)
  have h7 : xH 7 = _ := hv 7 (by omega)
  have h8 : xH 8 = _ := hv 8 (by omega)
  obtain ⟨sb17, h9, _, _⟩ : SlB g13 25 #[.int .i64 y0, .int .i64 y1, .int .i64 y2, .int .i64 y3, .int .i64 y4, .int .i64 y5, .int .i64 y6, .int .i64 y7, .int .i64 x0, .int .i64 x1, .int .i64 x2, .int .i64 x3, .int .i64 x4, .int .i64 x5, .int .i64 x6, .int .i64 x7] 2 (xH 9) w' := hv 9 (by omega)
  have h10 : xH 10 = _ := hv 10 (by omega)
  have h11 : xH 11 = _ := hv 11 (by omega)
  have h12 : xH 12 = _ := hv 12 (by omega)
  have h13 : xH 13 = _ := hv 13 (by omega)
  have h14 : xH 14 = _ := hv 14 (by omega)
  have h15 : xH 15 = _ := hv 15 (by omega)
  simp only [List.take_succ_cons, List.take_zero, List.drop_succ_cons, List.drop_zero, putsH, Act.put, List.setIfInBounds_toArray, List.set_cons_succ, List.set_cons_zero, h0, h1, h2, h3, h4, h5, h6, h7, h8, h9, h10, h11, h12, h13, h14, h15]
  have OW2 := Lib.hid (OW.out.step hR)
  clear hv hR OW OZ  h0 h1 h2 h3 h4 h5 h6 h7 h8 h9 h10 h11 h12 h13 h14 h15
  have OW := OW2
  clear OW2
  obtain ⟨g18, OZ⟩ := own_size OW HB0
  gi_wp2
  refine leaves_own [] _ (Nat.le_of_eq HB0.out) (by simpa using OW.out) ?_
  intro W' hO
  exact ⟨.bool true, by simp [results, Try.results7, go_sem], rfl, hO.done HB0⟩
end Go.Proofs.Ytckhkagkpldoiaa
