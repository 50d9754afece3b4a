/- The statement FaultApplies: its walk. -/
import Derived.Test.YtckhkagkpldoiaaFltO
import Derived.Test.YtckhkagkpldoiaaEq72
namespace Go.Proofs.Ytckhkagkpldoiaa
open Go.RowKit Go.Shelf
attribute [local go_sem] Oper.semAt_some
set_option linter.unusedVariables false
set_option linter.unusedSimpArgs false

section
variable {P : Program} {w : World}
theorem eqT {X : Sem Value} {p q : List UInt8} (h : X.run P w = .ok (.bool (decide (p = q))) w) (e : p = q) : X.run P w = .ok (.bool true) w := by rw [h, decide_eq_true e]
theorem neF {X : Sem Value} {p q : List UInt8} (h : X.run P w = .ok (.bool (!decide (p = q))) w) (e : p = q) : X.run P w = .ok (.bool false) w := by rw [h, decide_eq_true e]; rfl
end
/-- Does one of the first k lie there? -/
def liK (L : List (List Int)) (q0 q1 q2 q3 : Int) : Nat → Bool
  | 0 => false
  | k + 1 => liK L q0 q1 q2 q3 k || flies11 (fI L k 0) (fI L k 1) (fI L k 2) (fI L k 3) (fI L k 4) (fI L k 5) (fI L k 6) (fI L k 7) q0 q1 q2 q3
theorem liK_t {L : List (List Int)} {q0 q1 q2 q3 : Int} {k : Nat} (h : liK L q0 q1 q2 q3 k = true) : liK L q0 q1 q2 q3 (k + 1) = true := by rw [liK, h]; rfl
theorem liK_f {L : List (List Int)} {q0 q1 q2 q3 : Int} {k : Nat} (h : liK L q0 q1 q2 q3 k = false) : liK L q0 q1 q2 q3 (k + 1) = flies11 (fI L k 0) (fI L k 1) (fI L k 2) (fI L k 3) (fI L k 4) (fI L k 5) (fI L k 6) (fI L k 7) q0 q1 q2 q3 := by rw [liK, h]; rfl
theorem ov_lies (L : List (List Int)) (mode q0 q1 q2 q3 : Int) (xs : List UInt8) (n : Nat) (h : liK L q0 q1 q2 q3 n = false) : ovK L mode q0 q1 q2 q3 xs n = xs := by
  induction n with
  | zero => rw [ovK]
  | succ k ih =>
    rw [liK] at h
    simp only [Bool.or_eq_false_iff] at h
    rw [ovK, ih h.1]
    unfold fapply
    rw [flies_eq, h.2]
    simp
theorem ov_bool (L : List (List Int)) (mode q0 q1 q2 q3 : Int) (xs : List UInt8) (n : Nat) : (liK L q0 q1 q2 q3 n || decide (ovK L mode q0 q1 q2 q3 xs n = xs)) = true := by
  cases h : liK L q0 q1 q2 q3 n
  · rw [ov_lies L mode q0 q1 q2 q3 xs n h]; simp
  · rfl
attribute [local irreducible] fapply fapply11 fI ovK flies11

set_option maxRecDepth 100000 in
set_option maxHeartbeats 1000000 in
theorem FaultApplies_any (A : Option Addr) (n c : Nat) (L : List (List Int)) (mode q0 q1 q2 q3 : Int) (xs : List UInt8) (hL : L.length = n) (h8 : ∀ r ∈ L, r.length = 8) (hbd : ∀ k, k < n → -9223372036854775808 ≤ fI L k 6 ∧ fI L k 6 ≤ 9223372036854775807) (lx : xs.length = 72) (w : World) (hR : RdS 8 w A (rowsI L)) : Calls Try.prog 4 #[.slice A n c, .int .i64 mode, .agg #[.int .i64 q0, .int .i64 q1, .int .i64 q2, .int .i64 q3], .agg (rawV xs)] w fun e w' => e = .returned (.bool true) ∧ Below w.heap.size w w' := by
  obtain ⟨b0, hb0⟩ : ∃ b0, w.heap.size = b0 := ⟨_, rfl⟩
  have HB0 := Lib.hid hb0
  have OW := Lib.hid (Own.start b0 w)
  have OZ := Lib.hid (And.intro hb0 (Nat.le_refl b0))
  clear hb0
  have HX := Lib.hid lx
  have HL := Lib.hid hL
  have H8 := Lib.hid h8
  have HBD := Lib.hid hbd
  have HRD := Lib.hid hR
  clear lx hL h8 hbd hR
  refine (callsIn_wide (n := 6)).1 ?_
  refine callsIn_of_wp_marks Try.func4 rfl trivial ?_ rfl
  simp only [Try.ntmps4, List.size_toArray, List.length_cons, List.length_nil, Nat.reduceAdd, Nat.reduceSub, Array.replicate_succ, Array.replicate_zero, List.push_toArray, List.append_toArray, List.nil_append, List.cons_append]
  gi_upto_region 1 with (first | (refine onlyD 6 rfl ?_; refine own_boxV 6 23 (.tmp 2) rfl rfl rfl (.agg #[.int .i64 q0, .int .i64 q1, .int .i64 q2, .int .i64 q3]) rfl #[.int .i64 q0, .int .i64 q1, .int .i64 q2, .int .i64 q3] rfl OW OZ ?_; clear OW OZ; intro W g1 OW OZ; simp only [Act.put, List.setIfInBounds_toArray, List.set_cons_succ, List.set_cons_zero]) | (refine onlyD 7 rfl ?_; refine own_boxV 7 41 (.tmp 3) rfl rfl rfl (.agg (rawV xs)) rfl (rawV xs) rfl OW OZ ?_; clear OW OZ; intro W g2 OW OZ; simp only [Act.put, List.setIfInBounds_toArray, List.set_cons_succ, List.set_cons_zero]))
  refine wpIn_region_heldL 2 (atD [[], [0]]) (atV [fun vH _ => vH = .bool true, fun vH _ => vH = .bool false]) BelowR (by kernel_rfl) BelowR.trans (BelowR.refl _)
    (StV.atV (.const _ (.const _ .nil)))
    ⟨?o3x0, ?o3x1, trivial⟩ ?_
  case o3x0 =>
    refine held_call free_wide rfl 15 _ _ rfl (enters_of Try.func15 (by kernel_rfl) rfl) fun xH w' kH hR => ⟨_, mapE0, ?_⟩
    refine (callsIn_wide.2 (anchor11_any  _)).mono ?_
    rintro e w2 ⟨rfl, h2⟩
    exact ⟨_, rfl, rfl, h2⟩
  case o3x1 =>
    exact held_run free_wide rfl (by rfl) BelowR.refl fun xH w' kH hR => ⟨_, run_unO rfl (pT 0 (by kernel_rfl) (by kernel_rfl) (kH 0 (by decide))) rfl, rfl⟩
  intro xH w' hv hR
  have h0 : xH 0 = _ := hv 0 (by omega)
  have h1 : xH 1 = _ := hv 1 (by omega)
  simp only [List.take_succ_cons, List.take_zero, List.drop_succ_cons, List.drop_zero, putsH, Act.put, List.setIfInBounds_toArray, List.set_cons_succ, List.set_cons_zero, h0, h1]
  have OW2 := Lib.hid (OW.out.step hR)
  clear hv hR OW OZ  h0 h1
  have OW := OW2
  clear OW2
  obtain ⟨g4, OZ⟩ := own_size OW HB0
  gi_upto_region 3 with fail
  obtain ⟨eo52, qeo52⟩ : ∃ e, (decide (40 < (n : Int))) = e := ⟨_, rfl⟩
  refine wpIn_region_heldL 3 (atD [[], [0], [1]]) (atV [fun vH _ => vH = .slice A n c, fun vH _ => vH = .int .i64 (n : Int), fun vH _ => vH = .bool eo52]) BelowR (by kernel_rfl) BelowR.trans (BelowR.refl _)
    (StV.atV (.const _ (.const _ (.const _ .nil))))
    ⟨?o5x0, ?o5x1, ?o5x2, trivial⟩ ?_
  case o5x0 =>
    exact held_move free_wide rfl BelowR.refl (.tmp 0) (.inl rfl) fun xH w' kH _ => (pO (by kernel_rfl) rfl)
  case o5x1 =>
    exact held_run free_wide rfl (by rfl) BelowR.refl fun xH w' kH hR => ⟨_, run_lenO rfl (pT 0 (by kernel_rfl) (by kernel_rfl) (kH 0 (by decide))) Try.underlying39, rfl⟩
  case o5x2 =>
    exact held_run free_wide rfl (by rfl) BelowR.refl fun xH w' kH hR => ⟨_, run_binO rfl (pT 1 (by kernel_rfl) (by kernel_rfl) (kH 1 (by decide))) rfl bin_gtr, (congrArg Value.bool qeo52)⟩
  intro xH w' hv hR
  subst qeo52
  have h0 : xH 0 = _ := hv 0 (by omega)
  have h1 : xH 1 = _ := hv 1 (by omega)
  have h2 : xH 2 = _ := hv 2 (by omega)
  simp only [List.take_succ_cons, List.take_zero, List.drop_succ_cons, List.drop_zero, putsH, Act.put, List.setIfInBounds_toArray, List.set_cons_succ, List.set_cons_zero, h0, h1, h2]
  have OW2 := Lib.hid (OW.out.step hR)
  clear hv hR OW OZ  h0 h1 h2
  have OW := OW2
  clear OW2
  obtain ⟨g6, OZ⟩ := own_size OW HB0
  cases hB7 : (decide (40 < (n : Int)))
  case true =>
    have dhB7 := of_decide_eq_true hB7
    gi_wp2
    refine leaves_own [] _ (Nat.le_of_eq HB0.out) (by simpa using OW.out) ?_
    intro W' hO
    exact ⟨.bool true, by simp [results, Try.results4, go_sem], (by first | rfl | (rw [show k = n by omega, ov_bool]) | (rw [show k = n by omega, ov_bool]; rfl)), hO.done HB0⟩
  have dhB7 := of_decide_eq_false hB7
  have hn40 : n ≤ 40 := (by have := of_decide_eq_false hB7; omega)
  have HN := Lib.hid (show n ≤ 1000 by omega)
  gi_upto_region 7 with (first | (refine onlyD 20 rfl ?_; refine own_loadRowV 20 1 41 (.tmp 7) rfl rfl rfl rfl rfl _ Try.underlying41 rfl (by rw [rawV_size, (show (xs).length = 72 from HX.out)]; exact infoRaw) OW ?_; simp only [Act.put, List.setIfInBounds_toArray, List.set_cons_succ, List.set_cons_zero]) | (refine onlyD 9 rfl ?_; refine own_allocV 9 40 rfl rfl rfl (rawV zero72) alRaw2 OW OZ ?_; clear OW OZ; intro W g8 OW OZ; simp only [Act.put, List.setIfInBounds_toArray, List.set_cons_succ, List.set_cons_zero]) | (refine onlyO (.store 40 (.tmp 9) (.tmp 20)) rfl ?_; refine own_storeRow 2 40 (.tmp 9) (.tmp 20) rfl rfl rfl rfl (rawV xs) rfl (by rw [rawV_size, rawV_size, (show (xs).length = 72 from HX.out), (show (zero72).length = 72 from (show zero72.length = 72 from rfl))]) (rawV_one _) (by rw [rawV_size, (show (xs).length = 72 from HX.out)]; exact infoRaw2) _ rfl OW OZ ?_; clear OW OZ; intro W OW OZ; simp only [Act.put, List.setIfInBounds_toArray, List.set_cons_succ, List.set_cons_zero]))
  refine wpIn_region_heldL 3 (atD [[], [0], []]) (atV [fun vH _ => vH = .slice A n c, fun vH _ => vH = .int .i64 (n : Int), fun vH _ => vH = .int .i64 0]) BelowR (by kernel_rfl) BelowR.trans (BelowR.refl _)
    (StV.atV (.const _ (.const _ (.const _ .nil))))
    ⟨?o9x0, ?o9x1, ?o9x2, trivial⟩ ?_
  case o9x0 =>
    exact held_move free_wide rfl BelowR.refl (.tmp 0) (.inl rfl) fun xH w' kH _ => (pO (by kernel_rfl) rfl)
  case o9x1 =>
    exact held_run free_wide rfl (by rfl) BelowR.refl fun xH w' kH hR => ⟨_, run_lenO rfl (pT 0 (by kernel_rfl) (by kernel_rfl) (kH 0 (by decide))) Try.underlying39, rfl⟩
  case o9x2 =>
    exact held_move free_wide rfl BelowR.refl (.const (.int .i64 0)) (.inl rfl) fun xH w' kH _ => rfl
  intro xH w' hv hR
  have h0 : xH 0 = _ := hv 0 (by omega)
  have h1 : xH 1 = _ := hv 1 (by omega)
  have h2 : xH 2 = _ := hv 2 (by omega)
  simp only [List.take_succ_cons, List.take_zero, List.drop_succ_cons, List.drop_zero, putsH, Act.put, List.setIfInBounds_toArray, List.set_cons_succ, List.set_cons_zero, h0, h1, h2]
  have OW2 := Lib.hid (OW.out.step hR)
  clear hv hR OW OZ  h0 h1 h2
  have OW := OW2
  clear OW2
  obtain ⟨g10, OZ⟩ := own_size OW HB0
  gi_wp2
  gi_loopw [10, 23] (fun z10 z23 wr => ∃ k : Nat, k ≤ n ∧ z10 = .bool (liK L q0 q1 q2 q3 k) ∧ z23 = .int .i64 (k : Int) ∧ Own b0 w [(b0, Obj.cells (#[.int .i64 q0, .int .i64 q1, .int .i64 q2, .int .i64 q3]) 23 (0, 0)), (g1, Obj.cells (rawV xs) 41 (0, 0)), (g6, Obj.cells (rawV (ovK L mode q0 q1 q2 q3 xs k)) 40 (0, 0))] wr) (fun z10 z23 _ => n - (intOf z23).toNat)
  case atStart => exact ⟨0, by omega, rfl, rfl, (by rw [show ovK L mode q0 q1 q2 q3 xs 0 = xs by rw [ovK]]; exact OW.out)⟩
  case round =>
    obtain ⟨k, hk12, rfl, rfl, hO⟩ := hrel
    clear OW OZ
    have OW := Lib.hid hO
    obtain ⟨g11, OZ⟩ := own_size OW HB0
    clear hO
    gi_upto_region 8 with fail
    obtain ⟨eo130, qeo130⟩ : ∃ e, (decide ((k : Int) < (n : Int))) = e := ⟨_, rfl⟩
    refine wpIn_region_heldL 1 (atD [[]]) (atV [fun vH _ => vH = .bool eo130]) BelowR (by kernel_rfl) BelowR.trans (BelowR.refl _)
      (StV.atV (.const _ .nil))
      ⟨?o13x0, trivial⟩ ?_
    case o13x0 =>
      exact held_run free_wide rfl (by rfl) BelowR.refl fun xH w' kH hR => ⟨_, run_binO rfl (pO (by kernel_rfl) rfl) (pO (by kernel_rfl) rfl) bin_lss, (congrArg Value.bool qeo130)⟩
    intro xH w' hv hR
    subst qeo130
    have h0 : xH 0 = _ := hv 0 (by omega)
    simp only [List.take_succ_cons, List.take_zero, List.drop_succ_cons, List.drop_zero, putsH, Act.put, List.setIfInBounds_toArray, List.set_cons_succ, List.set_cons_zero, h0]
    have OW2 := Lib.hid (OW.out.step hR)
    clear hv hR OW OZ  h0
    have OW := OW2
    clear OW2
    obtain ⟨g14, OZ⟩ := own_size OW HB0
    cases hB15 : (decide ((k : Int) < (n : Int)))
    case true =>
      have dhB15 := of_decide_eq_true hB15
      obtain ⟨ab, ao, hA⟩ := rdS_some HRD.out (k := k) (by rw [HL.out]; omega)
      subst hA
      gi_upto_region 10 with (first | (refine onlyD 25 rfl ?_; refine own_valV 25 rfl rfl rfl (.pointer (some ⟨ab, ao + k * 8, none⟩)) (run_idxO (vx := .slice (some ⟨ab, ao, none⟩) n c) (vi := .int .i64 (k : Int)) rfl rfl rfl (run_idxS Try.underlying39 (by kernel_rfl) (by omega))) ?_; simp only [Act.put, List.setIfInBounds_toArray, List.set_cons_succ, List.set_cons_zero]) | (refine onlyD 26 rfl ?_; refine own_valV 26 rfl rfl rfl (.agg #[.int .i64 (fI L k 0), .int .i64 (fI L k 1), .int .i64 (fI L k 2), .int .i64 (fI L k 3), .int .i64 (fI L k 4), .int .i64 (fI L k 5), .int .i64 (fI L k 6), .int .i64 (fI L k 7)]) (run_ldO rfl (p := ⟨ab, ao + k * 8, none⟩) rfl (ld_row (HRD.out.own OW.out HB0.out) H8.out (by rw [HL.out]; omega))) ?_; simp only [Act.put, List.setIfInBounds_toArray, List.set_cons_succ, List.set_cons_zero]) | (refine onlyD 12 rfl ?_; refine own_allocV 12 25 rfl rfl rfl #[.int .i64 0, .int .i64 0, .int .i64 0, .int .i64 0, .int .i64 0, .int .i64 0, .int .i64 0, .int .i64 0] (fun _ => by kernel_rfl) OW OZ ?_; clear OW OZ; intro W g16 OW OZ; simp only [Act.put, List.setIfInBounds_toArray, List.set_cons_succ, List.set_cons_zero]) | (refine onlyO (.store 25 (.tmp 12) (.tmp 26)) rfl ?_; refine own_storeSub 3 0 25 (.tmp 12) (.tmp 26) rfl rfl rfl rfl [.int .i64 (fI L k 0), .int .i64 (fI L k 1), .int .i64 (fI L k 2), .int .i64 (fI L k 3), .int .i64 (fI L k 4), .int .i64 (fI L k 5), .int .i64 (fI L k 6), .int .i64 (fI L k 7)] rfl (Nat.le_of_ble_eq_true rfl) rfl (by kernel_rfl) #[.int .i64 (fI L k 0), .int .i64 (fI L k 1), .int .i64 (fI L k 2), .int .i64 (fI L k 3), .int .i64 (fI L k 4), .int .i64 (fI L k 5), .int .i64 (fI L k 6), .int .i64 (fI L k 7)] rfl _ rfl OW OZ ?_; clear OW OZ; intro W OW OZ; simp only [Act.put, List.setIfInBounds_toArray, List.set_cons_succ, List.set_cons_zero]))
      have hbk := HBD.out k (by omega)
      gi_wp2_with (first | (refine onlyD 27 rfl ?_; refine own_loadSubV 27 3 0 25 (.tmp 12) rfl rfl rfl rfl rfl [.int .i64 (fI L k 0), .int .i64 (fI L k 1), .int .i64 (fI L k 2), .int .i64 (fI L k 3), .int .i64 (fI L k 4), .int .i64 (fI L k 5), .int .i64 (fI L k 6), .int .i64 (fI L k 7)] rfl Try.underlying25 rfl (by kernel_rfl) OW ?_; simp only [Act.put, List.setIfInBounds_toArray, List.set_cons_succ, List.set_cons_zero]))
      refine ⟨trivial, ?_⟩
      refine (callsIn_wide.2 (fof_any (fI L k 0) (fI L k 1) (fI L k 2) (fI L k 3) (fI L k 4) (fI L k 5) (fI L k 6) (fI L k 7) _)).mono ?_
      rintro e Wg17 ⟨rfl, hbw⟩
      obtain ⟨g17, OW2, OZ2⟩ := own_call OW OZ hbw
      clear hbw OW OZ
      have OW := OW2
      have OZ := OZ2
      clear OW2 OZ2
      gi_upto_region 11 with (first | (refine onlyD 13 rfl ?_; refine own_allocV 13 31 rfl rfl rfl #[.int .i64 0, .int .i64 0, .int .i64 0, .int .i64 0, .int .i64 0, .int .i64 0, .int .i64 0, .int .i64 0] (fun _ => by kernel_rfl) OW OZ ?_; clear OW OZ; intro W g18 OW OZ; simp only [Act.put, List.setIfInBounds_toArray, List.set_cons_succ, List.set_cons_zero]) | (refine onlyO (.store 31 (.tmp 13) (.tmp 28)) rfl ?_; refine own_storeSub 4 0 31 (.tmp 13) (.tmp 28) rfl rfl rfl rfl [.int .i64 (fI L k 0), .int .i64 (fI L k 1), .int .i64 (fI L k 2), .int .i64 (fI L k 3), .int .i64 (fI L k 4), .int .i64 (fI L k 5), .int .i64 (fI L k 6), .int .i64 (fI L k 7)] rfl (Nat.le_of_ble_eq_true rfl) rfl (by kernel_rfl) #[.int .i64 (fI L k 0), .int .i64 (fI L k 1), .int .i64 (fI L k 2), .int .i64 (fI L k 3), .int .i64 (fI L k 4), .int .i64 (fI L k 5), .int .i64 (fI L k 6), .int .i64 (fI L k 7)] rfl _ rfl OW OZ ?_; clear OW OZ; intro W OW OZ; simp only [Act.put, List.setIfInBounds_toArray, List.set_cons_succ, List.set_cons_zero]))
      refine wpIn_region_held 11 (atD [[], [], [], [], [0, 1, 2, 3], [], [], [], [], [5, 6, 7, 8], [4, 9]]) (atV [fun vH _ => vH = .agg #[.int .i64 (fI L k 0), .int .i64 (fI L k 1), .int .i64 (fI L k 2), .int .i64 (fI L k 3), .int .i64 (fI L k 4), .int .i64 (fI L k 5), .int .i64 (fI L k 6), .int .i64 (fI L k 7)], fun vH _ => vH = .int .i64 mode, fun vH _ => vH = .agg #[.int .i64 q0, .int .i64 q1, .int .i64 q2, .int .i64 q3], fun vH _ => vH = .agg (rawV xs), fun vH _ => vH = .agg (rawV (fapply (fI L k 0) (fI L k 1) (fI L k 2) (fI L k 3) (fI L k 4) (fI L k 5) (fI L k 6) (fI L k 7) mode q0 q1 q2 q3 xs)), fun vH _ => vH = .agg #[.int .i64 (fI L k 0), .int .i64 (fI L k 1), .int .i64 (fI L k 2), .int .i64 (fI L k 3), .int .i64 (fI L k 4), .int .i64 (fI L k 5), .int .i64 (fI L k 6), .int .i64 (fI L k 7)], fun vH _ => vH = .int .i64 mode, fun vH _ => vH = .agg #[.int .i64 q0, .int .i64 q1, .int .i64 q2, .int .i64 q3], fun vH _ => vH = .agg (rawV xs), fun vH _ => vH = .agg (rawV (fapply11 (fI L k 0) (fI L k 1) (fI L k 2) (fI L k 3) (fI L k 4) (fI L k 5) (fI L k 6) (fI L k 7) mode q0 q1 q2 q3 xs)), fun vH _ => vH = .bool false]) BelowR (by kernel_rfl) (by kernel_rfl) BelowR.trans (BelowR.drew _)
        (StV.atV (.const _ (.const _ (.const _ (.const _ (.const _ (.const _ (.const _ (.const _ (.const _ (.const _ (.const _ .nil))))))))))))
        ⟨?o19x0, ?o19x1, ?o19x2, ?o19x3, ?o19x4, ?o19x5, ?o19x6, ?o19x7, ?o19x8, ?o19x9, ?o19x10, trivial⟩ ?_
      case o19x0 =>
        exact held_load free_wide rfl BelowR.refl 25 (.tmp 12) rfl fun xH w' kH hR => ⟨_, _, (pO (by kernel_rfl) rfl), ldS OW hR 3 rfl 8 rfl Try.underlying25 rfl rfl (by kernel_rfl), rfl⟩
      case o19x1 =>
        exact held_move free_wide rfl BelowR.refl (.tmp 1) (.inl rfl) fun xH w' kH _ => (pO (by kernel_rfl) rfl)
      case o19x2 =>
        exact held_load free_wide rfl BelowR.refl 23 (.tmp 6) rfl fun xH w' kH hR => ⟨_, _, (pO (by kernel_rfl) rfl), ldS OW hR 0 rfl 4 rfl Try.underlying23 rfl rfl (by kernel_rfl), rfl⟩
      case o19x3 =>
        exact held_load free_wide rfl BelowR.refl 41 (.tmp 7) rfl fun xH w' kH hR => ⟨_, _, (pO (by kernel_rfl) rfl), ldR OW hR 1 rfl Try.underlying41 rfl (by rw [rawV_size, (show (xs).length = 72 from HX.out)]; exact infoRaw), rfl⟩
      case o19x4 =>
        refine held_call free_wide rfl 23 _ _ rfl (enters_of Try.func23 (by kernel_rfl) rfl) fun xH w' kH hR => ⟨_, mapE4 (pT 0 (by kernel_rfl) (by kernel_rfl) (kH 0 (by decide))) (pT 1 (by kernel_rfl) (by kernel_rfl) (kH 1 (by decide))) (pT 2 (by kernel_rfl) (by kernel_rfl) (kH 2 (by decide))) (pT 3 (by kernel_rfl) (by kernel_rfl) (kH 3 (by decide))), ?_⟩
        refine (callsIn_wide.2 (fapply_any (fI L k 0) (fI L k 1) (fI L k 2) (fI L k 3) (fI L k 4) (fI L k 5) (fI L k 6) (fI L k 7) mode q0 q1 q2 q3 xs (show (xs).length = 72 from HX.out) (by omega) (by omega) _)).mono ?_
        rintro e w2 ⟨rfl, h2⟩
        exact ⟨_, rfl, rfl, h2⟩
      case o19x5 =>
        exact held_load free_wide rfl BelowR.refl 31 (.tmp 13) rfl fun xH w' kH hR => ⟨_, _, (pO (by kernel_rfl) rfl), ldS OW hR 4 rfl 8 rfl Try.underlying31 rfl rfl (by kernel_rfl), rfl⟩
      case o19x6 =>
        exact held_move free_wide rfl BelowR.refl (.tmp 1) (.inl rfl) fun xH w' kH _ => (pO (by kernel_rfl) rfl)
      case o19x7 =>
        exact held_load free_wide rfl BelowR.refl 23 (.tmp 6) rfl fun xH w' kH hR => ⟨_, _, (pO (by kernel_rfl) rfl), ldS OW hR 0 rfl 4 rfl Try.underlying23 rfl rfl (by kernel_rfl), rfl⟩
      case o19x8 =>
        exact held_load free_wide rfl BelowR.refl 41 (.tmp 7) rfl fun xH w' kH hR => ⟨_, _, (pO (by kernel_rfl) rfl), ldR OW hR 1 rfl Try.underlying41 rfl (by rw [rawV_size, (show (xs).length = 72 from HX.out)]; exact infoRaw), rfl⟩
      case o19x9 =>
        refine held_call free_wide rfl 24 _ _ rfl (enters_of Try.func24 (by kernel_rfl) rfl) fun xH w' kH hR => ⟨_, mapE4 (pT 5 (by kernel_rfl) (by kernel_rfl) (kH 5 (by decide))) (pT 6 (by kernel_rfl) (by kernel_rfl) (kH 6 (by decide))) (pT 7 (by kernel_rfl) (by kernel_rfl) (kH 7 (by decide))) (pT 8 (by kernel_rfl) (by kernel_rfl) (kH 8 (by decide))), ?_⟩
        refine (callsIn_wide.2 (fapply11_any (fI L k 0) (fI L k 1) (fI L k 2) (fI L k 3) (fI L k 4) (fI L k 5) (fI L k 6) (fI L k 7) mode q0 q1 q2 q3 xs (show (xs).length = 72 from HX.out) (by omega) (by omega) _)).mono ?_
        rintro e w2 ⟨rfl, h2⟩
        exact ⟨_, rfl, rfl, h2⟩
      case o19x10 =>
        exact held_run free_wide rfl (by rfl) BelowR.refl fun xH w' kH hR => ⟨_, run_binO rfl (pT 4 (by kernel_rfl) (by kernel_rfl) (kH 4 (by decide))) (pT 9 (by kernel_rfl) (by kernel_rfl) (kH 9 (by decide))) (neF (neq_rawO2 _ _ (fap_len HX.out) (by rw [← fapply_eq]; exact fap_len HX.out) _ _ _) (fapply_eq _ _ _ _ _ _ _ _ _ _ _ _ _ _)), rfl⟩
      intro xH w' hv hR
      have h0 : xH 0 = _ := hv 0 (by omega)
      have h1 : xH 1 = _ := hv 1 (by omega)
      have h2 : xH 2 = _ := hv 2 (by omega)
      have h3 : xH 3 = _ := hv 3 (by omega)
      have h4 : xH 4 = _ := hv 4 (by omega)
      have h5 : xH 5 = _ := hv 5 (by omega)
      have h6 : xH 6 = _ := hv 6 (by omega)
      have h7 : xH 7 = _ := hv 7 (by omega)
      have h8 : xH 8 = _ := hv 8 (by omega)
      have h9 : xH 9 = _ := hv 9 (by omega)
      have h10 : xH 10 = _ := hv 10 (by omega)
      simp only [List.take_succ_cons, List.take_zero, List.drop_succ_cons, List.drop_zero, putsH, Act.put, List.setIfInBounds_toArray, List.set_cons_succ, List.set_cons_zero, h0, h1, h2, h3, h4, h5, h6, h7, h8, h9, h10]
      have OW2 := Lib.hid (OW.out.step hR)
      clear hv hR OW OZ  h0 h1 h2 h3 h4 h5 h6 h7 h8 h9 h10
      have OW := OW2
      clear OW2
      obtain ⟨g20, OZ⟩ := own_size OW HB0
      gi_wp2_with (first | (refine onlyD 40 rfl ?_; refine own_loadSubV 40 4 0 31 (.tmp 13) rfl rfl rfl rfl rfl [.int .i64 (fI L k 0), .int .i64 (fI L k 1), .int .i64 (fI L k 2), .int .i64 (fI L k 3), .int .i64 (fI L k 4), .int .i64 (fI L k 5), .int .i64 (fI L k 6), .int .i64 (fI L k 7)] rfl Try.underlying31 rfl (by kernel_rfl) OW ?_; simp only [Act.put, List.setIfInBounds_toArray, List.set_cons_succ, List.set_cons_zero]) | (refine onlyD 42 rfl ?_; refine own_loadSubV 42 0 0 23 (.tmp 6) rfl rfl rfl rfl rfl [.int .i64 q0, .int .i64 q1, .int .i64 q2, .int .i64 q3] rfl Try.underlying23 rfl (by kernel_rfl) OW ?_; simp only [Act.put, List.setIfInBounds_toArray, List.set_cons_succ, List.set_cons_zero]) | (refine onlyD 43 rfl ?_; refine own_loadRowV 43 2 40 (.tmp 9) rfl rfl rfl rfl rfl _ Try.underlying40 rfl (by rw [rawV_size, (show ((ovK L mode q0 q1 q2 q3 xs k)).length = 72 from (ovK_len L mode q0 q1 q2 q3 HX.out k))]; exact infoRaw2) OW ?_; simp only [Act.put, List.setIfInBounds_toArray, List.set_cons_succ, List.set_cons_zero]))
      refine ⟨trivial, ?_⟩
      refine (callsIn_wide.2 (fapply11_any (fI L k 0) (fI L k 1) (fI L k 2) (fI L k 3) (fI L k 4) (fI L k 5) (fI L k 6) (fI L k 7) mode q0 q1 q2 q3 (ovK L mode q0 q1 q2 q3 xs k) (show ((ovK L mode q0 q1 q2 q3 xs k)).length = 72 from (ovK_len L mode q0 q1 q2 q3 HX.out k)) (by omega) (by omega) _)).mono ?_
      rintro e Wg21 ⟨rfl, hbw⟩
      obtain ⟨g21, OW2, OZ2⟩ := own_call OW OZ hbw
      clear hbw OW OZ
      have OW := OW2
      have OZ := OZ2
      clear OW2 OZ2
      gi_upto_region 14 with (first | (refine onlyO (.store 40 (.tmp 9) (.tmp 44)) rfl ?_; refine own_storeRow 2 40 (.tmp 9) (.tmp 44) rfl rfl rfl rfl (rawV (fapply11 (fI L k 0) (fI L k 1) (fI L k 2) (fI L k 3) (fI L k 4) (fI L k 5) (fI L k 6) (fI L k 7) mode q0 q1 q2 q3 (ovK L mode q0 q1 q2 q3 xs k))) rfl (by rw [rawV_size, rawV_size, (show ((fapply11 (fI L k 0) (fI L k 1) (fI L k 2) (fI L k 3) (fI L k 4) (fI L k 5) (fI L k 6) (fI L k 7) mode q0 q1 q2 q3 (ovK L mode q0 q1 q2 q3 xs k))).length = 72 from (by rw [← fapply_eq]; exact fap_len (ovK_len L mode q0 q1 q2 q3 HX.out k))), (show ((ovK L mode q0 q1 q2 q3 xs k)).length = 72 from (ovK_len L mode q0 q1 q2 q3 HX.out k))]) (rawV_one _) (by rw [rawV_size, (show ((fapply11 (fI L k 0) (fI L k 1) (fI L k 2) (fI L k 3) (fI L k 4) (fI L k 5) (fI L k 6) (fI L k 7) mode q0 q1 q2 q3 (ovK L mode q0 q1 q2 q3 xs k))).length = 72 from (by rw [← fapply_eq]; exact fap_len (ovK_len L mode q0 q1 q2 q3 HX.out k)))]; exact infoRaw2) _ rfl OW OZ ?_; clear OW OZ; intro W OW OZ; simp only [Act.put, List.setIfInBounds_toArray, List.set_cons_succ, List.set_cons_zero]))
      cases hB22 : (liK L q0 q1 q2 q3 k)
      case true =>
        gi_wp2_with fail
        refine ⟨trivial, ?_⟩
        gi_wp2_with (first | (refine onlyD 51 rfl ?_; refine own_valV 51 rfl rfl rfl (.int .i64 ((k : Int) + 1)) (run_binO (vx := .int .i64 (k : Int)) (vy := .int .i64 1) rfl rfl rfl (bin_add_in (by omega) (by omega))) ?_; simp only [Act.put, List.setIfInBounds_toArray, List.set_cons_succ, List.set_cons_zero]))
        go_roundw
        case rel => exact ⟨k + 1, by omega, (by first | rw [liK_t (by assumption)] | rw [liK_f (by assumption)]), by go_num, (by rw [show ovK L mode q0 q1 q2 q3 xs (k + 1) = fapply11 (fI L k 0) (fI L k 1) (fI L k 2) (fI L k 3) (fI L k 4) (fI L k 5) (fI L k 6) (fI L k 7) mode q0 q1 q2 q3 (ovK L mode q0 q1 q2 q3 xs k) by rw [ovK, fapply_eq]]; exact OW.out.pre (Nat.le_of_eq HB0.out) 3 rfl)⟩
        case measure => (simp [intOf] <;> omega)
      gi_wp2_with (first | (refine onlyD 47 rfl ?_; refine own_loadSubV 47 4 0 31 (.tmp 13) rfl rfl rfl rfl rfl [.int .i64 (fI L k 0), .int .i64 (fI L k 1), .int .i64 (fI L k 2), .int .i64 (fI L k 3), .int .i64 (fI L k 4), .int .i64 (fI L k 5), .int .i64 (fI L k 6), .int .i64 (fI L k 7)] rfl Try.underlying31 rfl (by kernel_rfl) OW ?_; simp only [Act.put, List.setIfInBounds_toArray, List.set_cons_succ, List.set_cons_zero]) | (refine onlyD 48 rfl ?_; refine own_loadSubV 48 0 0 23 (.tmp 6) rfl rfl rfl rfl rfl [.int .i64 q0, .int .i64 q1, .int .i64 q2, .int .i64 q3] rfl Try.underlying23 rfl (by kernel_rfl) OW ?_; simp only [Act.put, List.setIfInBounds_toArray, List.set_cons_succ, List.set_cons_zero]))
      refine ⟨trivial, ?_⟩
      refine (callsIn_wide.2 (flies11_any (fI L k 0) (fI L k 1) (fI L k 2) (fI L k 3) (fI L k 4) (fI L k 5) (fI L k 6) (fI L k 7) q0 q1 q2 q3 _)).mono ?_
      rintro e Wg23 ⟨rfl, hbw⟩
      obtain ⟨g23, OW2, OZ2⟩ := own_call OW OZ hbw
      clear hbw OW OZ
      have OW := OW2
      have OZ := OZ2
      clear OW2 OZ2
      gi_wp2_with (first | (refine onlyD 51 rfl ?_; refine own_valV 51 rfl rfl rfl (.int .i64 ((k : Int) + 1)) (run_binO (vx := .int .i64 (k : Int)) (vy := .int .i64 1) rfl rfl rfl (bin_add_in (by omega) (by omega))) ?_; simp only [Act.put, List.setIfInBounds_toArray, List.set_cons_succ, List.set_cons_zero]))
      go_roundw
      case rel => exact ⟨k + 1, by omega, (by first | rw [liK_t (by assumption)] | rw [liK_f (by assumption)]), by go_num, (by rw [show ovK L mode q0 q1 q2 q3 xs (k + 1) = fapply11 (fI L k 0) (fI L k 1) (fI L k 2) (fI L k 3) (fI L k 4) (fI L k 5) (fI L k 6) (fI L k 7) mode q0 q1 q2 q3 (ovK L mode q0 q1 q2 q3 xs k) by rw [ovK, fapply_eq]]; exact OW.out.pre (Nat.le_of_eq HB0.out) 3 rfl)⟩
      case measure => (simp [intOf] <;> omega)
    have dhB15 := of_decide_eq_false hB15
    gi_wp2_with (first | (refine onlyD 54 rfl ?_; refine own_loadSubV 54 0 0 23 (.tmp 6) rfl rfl rfl rfl rfl [.int .i64 q0, .int .i64 q1, .int .i64 q2, .int .i64 q3] rfl Try.underlying23 rfl (by kernel_rfl) OW ?_; simp only [Act.put, List.setIfInBounds_toArray, List.set_cons_succ, List.set_cons_zero]) | (refine onlyD 55 rfl ?_; refine own_loadRowV 55 1 41 (.tmp 7) rfl rfl rfl rfl rfl _ Try.underlying41 rfl (by rw [rawV_size, (show (xs).length = 72 from HX.out)]; exact infoRaw) OW ?_; simp only [Act.put, List.setIfInBounds_toArray, List.set_cons_succ, List.set_cons_zero]))
    refine ⟨trivial, ?_⟩
    refine (callsIn_wide.2 (over_any A n c L mode q0 q1 q2 q3 xs HN.out HL.out H8.out HBD.out (show (xs).length = 72 from HX.out) _ (HRD.out.own OW.out HB0.out))).mono ?_
    rintro e Wg24 ⟨rfl, hbw⟩
    obtain ⟨g24, OW2, OZ2⟩ := own_call OW OZ hbw
    clear hbw OW OZ
    have OW := OW2
    have OZ := OZ2
    clear OW2 OZ2
    gi_upto_region 17 with (first | (refine onlyD 14 rfl ?_; refine own_allocV 14 41 rfl rfl rfl (rawV zero72) alRaw OW OZ ?_; clear OW OZ; intro W g25 OW OZ; simp only [Act.put, List.setIfInBounds_toArray, List.set_cons_succ, List.set_cons_zero]) | (refine onlyO (.store 41 (.tmp 14) (.tmp 56)) rfl ?_; refine own_storeRow 3 41 (.tmp 14) (.tmp 56) rfl rfl rfl rfl (rawV (ovK L mode q0 q1 q2 q3 xs n)) rfl (by rw [rawV_size, rawV_size, (show ((ovK L mode q0 q1 q2 q3 xs n)).length = 72 from (ovK_len L mode q0 q1 q2 q3 HX.out n)), (show (zero72).length = 72 from (show zero72.length = 72 from rfl))]) (rawV_one _) (by rw [rawV_size, (show ((ovK L mode q0 q1 q2 q3 xs n)).length = 72 from (ovK_len L mode q0 q1 q2 q3 HX.out n))]; exact infoRaw) _ rfl OW OZ ?_; clear OW OZ; intro W OW OZ; simp only [Act.put, List.setIfInBounds_toArray, List.set_cons_succ, List.set_cons_zero]))
    obtain ⟨eo268, qeo268⟩ : ∃ e, (decide ((ovK L mode q0 q1 q2 q3 xs n) = xs)) = e := ⟨_, rfl⟩
    obtain ⟨eo269, qeo269⟩ : ∃ e, ((liK L q0 q1 q2 q3 k) || eo268) = e := ⟨_, rfl⟩
    refine wpIn_region_heldL 12 (atD [[], [], [0, 1], [2], [3], [3, 4], [5], [5], [5, 6, 7], [3, 5, 8], [3, 9], [10]]) (atV [fun vH _ => vH = .agg (rawV (ovK L mode q0 q1 q2 q3 xs n)), fun vH _ => vH = .agg (rawV (ovK L mode q0 q1 q2 q3 xs k)), fun vH _ => vH = .bool true, fun vH _ => vH = .bool true, fun vH _ => vH = .bool (liK L q0 q1 q2 q3 k), fun vH _ => vH = .bool (liK L q0 q1 q2 q3 k), cdV (True ∧ (liK L q0 q1 q2 q3 k) = false) (fun vH _ => vH = .agg (rawV (ovK L mode q0 q1 q2 q3 xs n))), cdV (True ∧ (liK L q0 q1 q2 q3 k) = false) (fun vH _ => vH = .agg (rawV xs)), cdV (True ∧ (liK L q0 q1 q2 q3 k) = false) (fun vH _ => vH = .bool eo268), fun vH _ => vH = .bool eo269, fun vH _ => vH = .bool eo269, fun vH _ => vH = .bool eo269]) BelowR (by kernel_rfl) BelowR.trans (BelowR.refl _)
      (StV.atV (.const _ (.const _ (.const _ (.const _ (.const _ (.const _ (.cons (fun v x y h _ => h) (.cons (fun v x y h _ => h) (.cons (fun v x y h _ => h) (.const _ (.const _ (.const _ .nil)))))))))))))
      ⟨?o26x0, ?o26x1, ?o26x2, ?o26x3, ?o26x4, ?o26x5, ?o26x6, ?o26x7, ?o26x8, ?o26x9, ?o26x10, ?o26x11, trivial⟩ ?_
    case o26x0 =>
      exact held_load free_wide rfl BelowR.refl 41 (.tmp 14) rfl fun xH w' kH hR => ⟨_, _, (pO (by kernel_rfl) rfl), ldR OW hR 3 rfl Try.underlying41 rfl (by rw [rawV_size, (show ((ovK L mode q0 q1 q2 q3 xs n)).length = 72 from (ovK_len L mode q0 q1 q2 q3 HX.out n))]; exact infoRaw), rfl⟩
    case o26x1 =>
      exact held_load free_wide rfl BelowR.refl 40 (.tmp 9) rfl fun xH w' kH hR => ⟨_, _, (pO (by kernel_rfl) rfl), ldR OW hR 2 rfl Try.underlying40 rfl (by rw [rawV_size, (show ((ovK L mode q0 q1 q2 q3 xs k)).length = 72 from (ovK_len L mode q0 q1 q2 q3 HX.out k))]; exact infoRaw2), rfl⟩
    case o26x2 =>
      exact held_run free_wide rfl (by rfl) BelowR.refl fun xH w' kH hR => ⟨_, run_binO rfl (pT 0 (by kernel_rfl) (by kernel_rfl) (kH 0 (by decide))) (pT 1 (by kernel_rfl) (by kernel_rfl) (kH 1 (by decide))) (eqT (eq_rawO2 _ _ (ovK_len L mode q0 q1 q2 q3 HX.out n) (ovK_len L mode q0 q1 q2 q3 HX.out k) _ _ _) (by rw [show k = n by omega])), rfl⟩
    case o26x3 =>
      exact held_move free_wide rfl BelowR.refl (.tmp 59) (.inl rfl) fun xH w' kH _ => (pT 2 (by kernel_rfl) (by kernel_rfl) (kH 2 (by decide)))
    case o26x4 =>
      exact held_moveG free_wide (heldGd_some 3 60 true rfl (by kernel_rfl) (by kernel_rfl) (by kernel_rfl) (fun xH w' kH => kH 3 (by decide))) BelowR.refl (.tmp 10) (.inl rfl) fun xH w' kH _ => (pO (by kernel_rfl) rfl)
    case o26x5 =>
      exact held_moveG free_wide (heldGd_some 3 60 true rfl (by kernel_rfl) (by kernel_rfl) (by kernel_rfl) (fun xH w' kH => kH 3 (by decide))) BelowR.refl (.tmp 61) (.inl rfl) fun xH w' kH _ => (pT 4 (by kernel_rfl) (by kernel_rfl) (kH 4 (by decide)))
    case o26x6 =>
      refine held_guard free_wide 5 62 false True (liK L q0 q1 q2 q3 k) BelowR.refl rfl (by kernel_rfl) (by kernel_rfl) (by kernel_rfl) (fun xH w' kH => .inl ⟨trivial, kH 5 (by decide)⟩) (fun hC hG => ?_) (fun hN w' => .inr ⟨hN, rfl⟩)
      exact held_loadG free_wide hG BelowR.refl 41 (.tmp 14) rfl fun xH w' kH hR => ⟨_, _, (pO (by kernel_rfl) rfl), ldR OW hR 3 rfl Try.underlying41 rfl (by rw [rawV_size, (show ((ovK L mode q0 q1 q2 q3 xs n)).length = 72 from (ovK_len L mode q0 q1 q2 q3 HX.out n))]; exact infoRaw), (.inl ⟨hC, rfl⟩)⟩
    case o26x7 =>
      refine held_guard free_wide 5 62 false True (liK L q0 q1 q2 q3 k) BelowR.refl rfl (by kernel_rfl) (by kernel_rfl) (by kernel_rfl) (fun xH w' kH => .inl ⟨trivial, kH 5 (by decide)⟩) (fun hC hG => ?_) (fun hN w' => .inr ⟨hN, rfl⟩)
      exact held_loadG free_wide hG BelowR.refl 41 (.tmp 7) rfl fun xH w' kH hR => ⟨_, _, (pO (by kernel_rfl) rfl), ldR OW hR 1 rfl Try.underlying41 rfl (by rw [rawV_size, (show (xs).length = 72 from HX.out)]; exact infoRaw), (.inl ⟨hC, rfl⟩)⟩
    case o26x8 =>
      refine held_guard free_wide 5 62 false True (liK L q0 q1 q2 q3 k) BelowR.refl rfl (by kernel_rfl) (by kernel_rfl) (by kernel_rfl) (fun xH w' kH => .inl ⟨trivial, kH 5 (by decide)⟩) (fun hC hG => ?_) (fun hN w' => .inr ⟨hN, rfl⟩)
      exact held_runG free_wide hG (by rfl) BelowR.refl fun xH w' kH hR => ⟨_, run_binO rfl (pT 6 (by kernel_rfl) (by kernel_rfl) (cdAt (kH 6 (by decide)) rfl hC)) (pT 7 (by kernel_rfl) (by kernel_rfl) (cdAt (kH 7 (by decide)) rfl hC)) (eq_rawO _ _ (show ((ovK L mode q0 q1 q2 q3 xs n)).length = 72 from (ovK_len L mode q0 q1 q2 q3 HX.out n)) (show (xs).length = 72 from HX.out) _ _ _), (.inl ⟨hC, congrArg Value.bool qeo268⟩)⟩
    case o26x9 =>
      exact held_runG free_wide (heldGd_some 3 60 true rfl (by kernel_rfl) (by kernel_rfl) (by kernel_rfl) (fun xH w' kH => kH 3 (by decide))) (by rfl) BelowR.refl fun xH w' kH hR => ⟨_, run_pickOr rfl (pT 5 (by kernel_rfl) (by kernel_rfl) (kH 5 (by decide))) rfl (fun h => pT 8 (by kernel_rfl) (by kernel_rfl) (cdAt (kH 8 (by decide)) rfl (And.intro trivial h))), (congrArg Value.bool qeo269)⟩
    case o26x10 =>
      exact held_run free_wide rfl (by rfl) BelowR.refl fun xH w' kH hR => ⟨_, run_pickT rfl (pT 3 (by kernel_rfl) (by kernel_rfl) (kH 3 (by decide))) (pT 9 (by kernel_rfl) (by kernel_rfl) (kH 9 (by decide))), rfl⟩
    case o26x11 =>
      exact held_move free_wide rfl BelowR.refl (.tmp 67) (.inr rfl) fun xH w' kH _ => (pT 10 (by kernel_rfl) (by kernel_rfl) (kH 10 (by decide)))
    intro xH w' hv hR
    subst qeo269 qeo268
    have h0 : xH 0 = _ := hv 0 (by omega)
    have h1 : xH 1 = _ := hv 1 (by omega)
    have h2 : xH 2 = _ := hv 2 (by omega)
    have h3 : xH 3 = _ := hv 3 (by omega)
    have h4 : xH 4 = _ := hv 4 (by omega)
    have h5 : xH 5 = _ := hv 5 (by omega)
    have h9 : xH 9 = _ := hv 9 (by omega)
    have h10 : xH 10 = _ := hv 10 (by omega)
    have h11 : xH 11 = _ := hv 11 (by omega)
    simp only [List.take_succ_cons, List.take_zero, List.drop_succ_cons, List.drop_zero, putsH, Act.put, List.setIfInBounds_toArray, List.set_cons_succ, List.set_cons_zero, h0, h1, h2, h3, h4, h5, h9, h10, h11]
    have OW2 := Lib.hid (OW.out.step hR)
    clear hv hR OW OZ  h0 h1 h2 h3 h4 h5 h9 h10 h11
    have OW := OW2
    clear OW2
    obtain ⟨g27, OZ⟩ := own_size OW HB0
    gi_wp2
    refine leaves_own [] _ (Nat.le_of_eq HB0.out) (by simpa using OW.out) ?_
    intro W' hO
    exact ⟨.bool ((liK L q0 q1 q2 q3 k) || (decide ((ovK L mode q0 q1 q2 q3 xs n) = xs))), by simp [results, Try.results4, go_sem], (by first | rfl | (rw [show k = n by omega, ov_bool]) | (rw [show k = n by omega, ov_bool]; rfl)), hO.done HB0⟩
end Go.Proofs.Ytckhkagkpldoiaa
