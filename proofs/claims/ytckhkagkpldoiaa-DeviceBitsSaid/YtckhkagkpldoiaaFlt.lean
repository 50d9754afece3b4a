/- Faults: walks of the program's functions. -/
import Derived.Test.YtckhkagkpldoiaaGeo
import Derived.Test.YtckhkagkpldoiaaOvX
import Derived.Test.YtckhkagkpldoiaaRvX
import Derived.Test.YtckhkagkpldoiaaRwX
import Derived.WalkKit
import Derived.Sort.CutIn
import Derived.IntWalk
namespace Go.Proofs.Ytckhkagkpldoiaa
open Go.RowKit Go.Shelf
attribute [local go_sem] Oper.semAt_some
set_option linter.unusedVariables false
set_option linter.unusedSimpArgs false


def fbelow (i n : Int) : Bool := ((decide (0 ≤ i)) && (decide (i < n)))
set_option maxRecDepth 100000 in
set_option maxHeartbeats 1000000 in
theorem fbelow_any (i n : Int) (w : World) : Calls Try.prog 63 #[.int .i64 i, .int .i64 n] w fun e w' => e = .returned (.bool (fbelow i n)) ∧ Below w.heap.size w w' := by
  obtain ⟨b0, hb0⟩ : ∃ b0, w.heap.size = b0 := ⟨_, rfl⟩
  have HB0 := Lib.hid hb0
  have OW := Lib.hid (Own.start b0 w)
  have OZ := Lib.hid (And.intro hb0 (Nat.le_refl b0))
  clear hb0
  refine (callsIn_wide (n := 6)).1 ?_
  refine callsIn_of_wp_marks Try.func63 rfl trivial ?_ rfl
  simp only [Try.ntmps63, List.size_toArray, List.length_cons, List.length_nil, Nat.reduceAdd, Nat.reduceSub, Array.replicate_succ, Array.replicate_zero, List.push_toArray, List.append_toArray, List.nil_append, List.cons_append]
  gi_upto_region 1 with fail
  obtain ⟨eo11, qeo11⟩ : ∃ e, (decide (0 ≤ i)) = e := ⟨_, rfl⟩
  obtain ⟨eo15, qeo15⟩ : ∃ e, (decide (i < n)) = e := ⟨_, rfl⟩
  obtain ⟨eo16, qeo16⟩ : ∃ e, (eo11 && eo15) = e := ⟨_, rfl⟩
  refine wpIn_region_heldL 8 (atD [[], [0], [1], [2], [2], [2, 3, 4], [2, 5], [6]]) (atV [fun vH _ => vH = .int .i64 i, fun vH _ => vH = .bool eo11, fun vH _ => vH = .bool eo11, cdV (True ∧ eo11 = true) (fun vH _ => vH = .int .i64 i), cdV (True ∧ eo11 = true) (fun vH _ => vH = .int .i64 n), cdV (True ∧ eo11 = true) (fun vH _ => vH = .bool eo15), fun vH _ => vH = .bool eo16, fun vH _ => vH = .bool eo16]) BelowR (by kernel_rfl) BelowR.trans (BelowR.refl _)
    (StV.atV (.const _ (.const _ (.const _ (.cons (fun v x y h _ => h) (.cons (fun v x y h _ => h) (.cons (fun v x y h _ => h) (.const _ (.const _ .nil)))))))))
    ⟨?o1x0, ?o1x1, ?o1x2, ?o1x3, ?o1x4, ?o1x5, ?o1x6, ?o1x7, trivial⟩ ?_
  case o1x0 =>
    exact held_move free_wide rfl BelowR.refl (.tmp 0) (.inl rfl) fun xH w' kH _ => (pO (by kernel_rfl) rfl)
  case o1x1 =>
    exact held_run free_wide rfl (by rfl) BelowR.refl fun xH w' kH hR => ⟨_, run_binO rfl (pT 0 (by kernel_rfl) (by kernel_rfl) (kH 0 (by decide))) rfl bin_geq, (congrArg Value.bool qeo11)⟩
  case o1x2 =>
    exact held_move free_wide rfl BelowR.refl (.tmp 6) (.inl rfl) fun xH w' kH _ => (pT 1 (by kernel_rfl) (by kernel_rfl) (kH 1 (by decide)))
  case o1x3 =>
    refine held_guard free_wide 2 7 true True eo11 BelowR.refl rfl (by kernel_rfl) (by kernel_rfl) (by kernel_rfl) (fun xH w' kH => .inl ⟨trivial, kH 2 (by decide)⟩) (fun hC hG => ?_) (fun hN w' => .inr ⟨hN, rfl⟩)
    exact held_moveG free_wide hG BelowR.refl (.tmp 0) (.inl rfl) fun xH w' kH _ => .inl ⟨hC, (pO (by kernel_rfl) rfl)⟩
  case o1x4 =>
    refine held_guard free_wide 2 7 true True eo11 BelowR.refl rfl (by kernel_rfl) (by kernel_rfl) (by kernel_rfl) (fun xH w' kH => .inl ⟨trivial, kH 2 (by decide)⟩) (fun hC hG => ?_) (fun hN w' => .inr ⟨hN, rfl⟩)
    exact held_moveG free_wide hG BelowR.refl (.tmp 1) (.inl rfl) fun xH w' kH _ => .inl ⟨hC, (pO (by kernel_rfl) rfl)⟩
  case o1x5 =>
    refine held_guard free_wide 2 7 true True eo11 BelowR.refl rfl (by kernel_rfl) (by kernel_rfl) (by kernel_rfl) (fun xH w' kH => .inl ⟨trivial, kH 2 (by decide)⟩) (fun hC hG => ?_) (fun hN w' => .inr ⟨hN, rfl⟩)
    exact held_runG free_wide hG (by rfl) BelowR.refl fun xH w' kH hR => ⟨_, run_binO rfl (pT 3 (by kernel_rfl) (by kernel_rfl) (cdAt (kH 3 (by decide)) rfl hC)) (pT 4 (by kernel_rfl) (by kernel_rfl) (cdAt (kH 4 (by decide)) rfl hC)) bin_lss, (.inl ⟨hC, congrArg Value.bool qeo15⟩)⟩
  case o1x6 =>
    exact held_run free_wide rfl (by rfl) BelowR.refl fun xH w' kH hR => ⟨_, run_pickAnd rfl (pT 2 (by kernel_rfl) (by kernel_rfl) (kH 2 (by decide))) rfl (fun h => pT 5 (by kernel_rfl) (by kernel_rfl) (cdAt (kH 5 (by decide)) rfl (And.intro trivial h))), (congrArg Value.bool qeo16)⟩
  case o1x7 =>
    exact held_move free_wide rfl BelowR.refl (.tmp 11) (.inr rfl) fun xH w' kH _ => (pT 6 (by kernel_rfl) (by kernel_rfl) (kH 6 (by decide)))
  intro xH w' hv hR
  subst qeo16 qeo15 qeo11
  have h0 : xH 0 = _ := hv 0 (by omega)
  have h1 : xH 1 = _ := hv 1 (by omega)
  have h2 : xH 2 = _ := hv 2 (by omega)
  have h6 : xH 6 = _ := hv 6 (by omega)
  have h7 : xH 7 = _ := hv 7 (by omega)
  simp only [List.take_succ_cons, List.take_zero, List.drop_succ_cons, List.drop_zero, putsH, Act.put, List.setIfInBounds_toArray, List.set_cons_succ, List.set_cons_zero, h0, h1, h2, h6, h7]
  have OW2 := Lib.hid (OW.out.step hR)
  clear hv hR OW OZ h0 h1 h2 h6 h7
  have OW := OW2
  clear OW2
  obtain ⟨g2, OZ⟩ := own_size OW HB0
  gi_wp2
  refine leaves_own [] _ (Nat.le_of_eq HB0.out) (by simpa using OW.out) ?_
  intro W' hO
  exact ⟨.bool ((decide (0 ≤ i)) && (decide (i < n))), by simp [results, Try.results63, go_sem], rfl, hO.done HB0⟩
def flasts (k p0 p1 p2 p3 c b v : Int) : Bool := ((decide (2 ≤ k)) && (decide (k ≤ 5)))
set_option maxRecDepth 100000 in
set_option maxHeartbeats 1000000 in
theorem flasts_any (k p0 p1 p2 p3 c b v : Int) (w : World) : Calls Try.prog 19 #[.agg #[.int .i64 k, .int .i64 p0, .int .i64 p1, .int .i64 p2, .int .i64 p3, .int .i64 c, .int .i64 b, .int .i64 v]] w fun e w' => e = .returned (.bool (flasts k p0 p1 p2 p3 c b v)) ∧ Below w.heap.size w w' := by
  obtain ⟨b0, hb0⟩ : ∃ b0, w.heap.size = b0 := ⟨_, rfl⟩
  have HB0 := Lib.hid hb0
  have OW := Lib.hid (Own.start b0 w)
  have OZ := Lib.hid (And.intro hb0 (Nat.le_refl b0))
  clear hb0
  refine (callsIn_wide (n := 6)).1 ?_
  refine callsIn_of_wp_marks Try.func19 rfl trivial ?_ rfl
  simp only [Try.ntmps19, List.size_toArray, List.length_cons, List.length_nil, Nat.reduceAdd, Nat.reduceSub, Array.replicate_succ, Array.replicate_zero, List.push_toArray, List.append_toArray, List.nil_append, List.cons_append]
  gi_upto_region 1 with (first | (refine own_boxV 1 25 (.tmp 0) rfl rfl rfl (.agg #[.int .i64 k, .int .i64 p0, .int .i64 p1, .int .i64 p2, .int .i64 p3, .int .i64 c, .int .i64 b, .int .i64 v]) rfl #[.int .i64 k, .int .i64 p0, .int .i64 p1, .int .i64 p2, .int .i64 p3, .int .i64 c, .int .i64 b, .int .i64 v] rfl OW OZ ?_; clear OW OZ; intro W g1 OW OZ))
  obtain ⟨eo22, qeo22⟩ : ∃ e, (decide (2 ≤ k)) = e := ⟨_, rfl⟩
  obtain ⟨eo26, qeo26⟩ : ∃ e, (decide (k ≤ 5)) = e := ⟨_, rfl⟩
  obtain ⟨eo27, qeo27⟩ : ∃ e, (eo22 && eo26) = e := ⟨_, rfl⟩
  refine wpIn_region_heldL 9 (atD [[], [0], [1], [2], [3], [3, 4], [3, 5], [3, 6], [7]]) (atV [fun vH _ => vH = .pointer (some ⟨b0, 0, none⟩), fun vH _ => vH = .int .i64 k, fun vH _ => vH = .bool eo22, fun vH _ => vH = .bool eo22, cdV (True ∧ eo22 = true) (fun vH _ => vH = .pointer (some ⟨b0, 0, none⟩)), cdV (True ∧ eo22 = true) (fun vH _ => vH = .int .i64 k), cdV (True ∧ eo22 = true) (fun vH _ => vH = .bool eo26), fun vH _ => vH = .bool eo27, fun vH _ => vH = .bool eo27]) BelowR (by kernel_rfl) BelowR.trans (BelowR.refl _)
    (StV.atV (.const _ (.const _ (.const _ (.const _ (.cons (fun v x y h _ => h) (.cons (fun v x y h _ => h) (.cons (fun v x y h _ => h) (.const _ (.const _ .nil))))))))))
    ⟨?o2x0, ?o2x1, ?o2x2, ?o2x3, ?o2x4, ?o2x5, ?o2x6, ?o2x7, ?o2x8, trivial⟩ ?_
  case o2x0 =>
    exact held_run free_wide rfl (by rfl) BelowR.refl fun xH w' kH hR => ⟨_, run_fldO rfl (pO (by kernel_rfl) rfl) (by kernel_rfl), rfl⟩
  case o2x1 =>
    exact held_load free_wide rfl BelowR.refl 3 (.tmp 3) rfl fun xH w' kH hR => ⟨_, _, (pT 0 (by kernel_rfl) (by kernel_rfl) (kH 0 (by decide))), ldC OW hR 0 rfl rfl naInt, rfl⟩
  case o2x2 =>
    exact held_run free_wide rfl (by rfl) BelowR.refl fun xH w' kH hR => ⟨_, run_binO rfl (pT 1 (by kernel_rfl) (by kernel_rfl) (kH 1 (by decide))) rfl bin_geq, (congrArg Value.bool qeo22)⟩
  case o2x3 =>
    exact held_move free_wide rfl BelowR.refl (.tmp 5) (.inl rfl) fun xH w' kH _ => (pT 2 (by kernel_rfl) (by kernel_rfl) (kH 2 (by decide)))
  case o2x4 =>
    refine held_guard free_wide 3 6 true True eo22 BelowR.refl rfl (by kernel_rfl) (by kernel_rfl) (by kernel_rfl) (fun xH w' kH => .inl ⟨trivial, kH 3 (by decide)⟩) (fun hC hG => ?_) (fun hN w' => .inr ⟨hN, rfl⟩)
    exact held_runG free_wide hG (by rfl) BelowR.refl fun xH w' kH hR => ⟨_, run_fldO rfl (pO (by kernel_rfl) rfl) (by kernel_rfl), (.inl ⟨hC, rfl⟩)⟩
  case o2x5 =>
    refine held_guard free_wide 3 6 true True eo22 BelowR.refl rfl (by kernel_rfl) (by kernel_rfl) (by kernel_rfl) (fun xH w' kH => .inl ⟨trivial, kH 3 (by decide)⟩) (fun hC hG => ?_) (fun hN w' => .inr ⟨hN, rfl⟩)
    exact held_loadG free_wide hG BelowR.refl 3 (.tmp 7) rfl fun xH w' kH hR => ⟨_, _, (pT 4 (by kernel_rfl) (by kernel_rfl) (cdAt (kH 4 (by decide)) rfl hC)), ldC OW hR 0 rfl rfl naInt, (.inl ⟨hC, rfl⟩)⟩
  case o2x6 =>
    refine held_guard free_wide 3 6 true True eo22 BelowR.refl rfl (by kernel_rfl) (by kernel_rfl) (by kernel_rfl) (fun xH w' kH => .inl ⟨trivial, kH 3 (by decide)⟩) (fun hC hG => ?_) (fun hN w' => .inr ⟨hN, rfl⟩)
    exact held_runG free_wide hG (by rfl) BelowR.refl fun xH w' kH hR => ⟨_, run_binO rfl (pT 5 (by kernel_rfl) (by kernel_rfl) (cdAt (kH 5 (by decide)) rfl hC)) rfl bin_leq, (.inl ⟨hC, congrArg Value.bool qeo26⟩)⟩
  case o2x7 =>
    exact held_run free_wide rfl (by rfl) BelowR.refl fun xH w' kH hR => ⟨_, run_pickAnd rfl (pT 3 (by kernel_rfl) (by kernel_rfl) (kH 3 (by decide))) rfl (fun h => pT 6 (by kernel_rfl) (by kernel_rfl) (cdAt (kH 6 (by decide)) rfl (And.intro trivial h))), (congrArg Value.bool qeo27)⟩
  case o2x8 =>
    exact held_move free_wide rfl BelowR.refl (.tmp 10) (.inr rfl) fun xH w' kH _ => (pT 7 (by kernel_rfl) (by kernel_rfl) (kH 7 (by decide)))
  intro xH w' hv hR
  subst qeo27 qeo26 qeo22
  have h0 : xH 0 = _ := hv 0 (by omega)
  have h1 : xH 1 = _ := hv 1 (by omega)
  have h2 : xH 2 = _ := hv 2 (by omega)
  have h3 : xH 3 = _ := hv 3 (by omega)
  have h7 : xH 7 = _ := hv 7 (by omega)
  have h8 : xH 8 = _ := hv 8 (by omega)
  simp only [List.take_succ_cons, List.take_zero, List.drop_succ_cons, List.drop_zero, putsH, Act.put, List.setIfInBounds_toArray, List.set_cons_succ, List.set_cons_zero, h0, h1, h2, h3, h7, h8]
  have OW2 := Lib.hid (OW.out.step hR)
  clear hv hR OW OZ h0 h1 h2 h3 h7 h8
  have OW := OW2
  clear OW2
  obtain ⟨g3, OZ⟩ := own_size OW HB0
  gi_wp2
  refine leaves_own [] _ (Nat.le_of_eq HB0.out) (by simpa using OW.out) ?_
  intro W' hO
  exact ⟨.bool ((decide (2 ≤ k)) && (decide (k ≤ 5))), by simp [results, Try.results19, go_sem], rfl, hO.done HB0⟩
def fnarrow (k p0 p1 p2 p3 c b v : Int) : Bool := ((k == 1) || (k == 2))
def flies (k p0 p1 p2 p3 c b v q0 q1 q2 q3 : Int) : Bool := (bif k == 1 then (decide ([q0, q1, q2, q3] = [p0, p1, p2, p3])) else (bif k == 2 then (decide ([q0, q1, q2, q3] = [p0, p1, p2, p3])) else (bif k == 3 then (decide ([q0, q1, q2, p3] = [p0, p1, p2, p3])) else (bif k == 4 then (decide ([q0, q1, p2, q3] = [p0, p1, p2, p3])) else (bif k == 5 then (q0 == p0) else false)))))
set_option maxRecDepth 100000 in
set_option maxHeartbeats 1000000 in
theorem flies_any (k p0 p1 p2 p3 c b v q0 q1 q2 q3 : Int) (w : World) : Calls Try.prog 20 #[.agg #[.int .i64 k, .int .i64 p0, .int .i64 p1, .int .i64 p2, .int .i64 p3, .int .i64 c, .int .i64 b, .int .i64 v], .agg #[.int .i64 q0, .int .i64 q1, .int .i64 q2, .int .i64 q3]] w fun e w' => e = .returned (.bool (flies k p0 p1 p2 p3 c b v q0 q1 q2 q3)) ∧ Below w.heap.size w w' := by
  obtain ⟨b0, hb0⟩ : ∃ b0, w.heap.size = b0 := ⟨_, rfl⟩
  have HB0 := Lib.hid hb0
  have OW := Lib.hid (Own.start b0 w)
  have OZ := Lib.hid (And.intro hb0 (Nat.le_refl b0))
  clear hb0
  refine (callsIn_wide (n := 6)).1 ?_
  refine callsIn_of_wp_marks Try.func20 rfl trivial ?_ rfl
  simp only [Try.ntmps20, List.size_toArray, List.length_cons, List.length_nil, Nat.reduceAdd, Nat.reduceSub, Array.replicate_succ, Array.replicate_zero, List.push_toArray, List.append_toArray, List.nil_append, List.cons_append]
  gi_upto_region 2 with (first | (refine own_boxV 2 25 (.tmp 0) rfl rfl rfl (.agg #[.int .i64 k, .int .i64 p0, .int .i64 p1, .int .i64 p2, .int .i64 p3, .int .i64 c, .int .i64 b, .int .i64 v]) rfl #[.int .i64 k, .int .i64 p0, .int .i64 p1, .int .i64 p2, .int .i64 p3, .int .i64 c, .int .i64 b, .int .i64 v] rfl OW OZ ?_; clear OW OZ; intro W g1 OW OZ) | (refine own_boxV 3 23 (.tmp 1) rfl rfl rfl (.agg #[.int .i64 q0, .int .i64 q1, .int .i64 q2, .int .i64 q3]) rfl #[.int .i64 q0, .int .i64 q1, .int .i64 q2, .int .i64 q3] rfl OW OZ ?_; clear OW OZ; intro W g2 OW OZ) | (refine own_loadSubV 7 0 1 23 (.tmp 6) rfl rfl rfl rfl rfl [.int .i64 p0, .int .i64 p1, .int .i64 p2, .int .i64 p3] rfl Try.underlying23 rfl (by kernel_rfl) OW ?_) | (refine own_allocV 5 23 rfl rfl rfl #[.int .i64 0, .int .i64 0, .int .i64 0, .int .i64 0] (fun _ => by kernel_rfl) OW OZ ?_; clear OW OZ; intro W g3 OW OZ) | (refine own_storeSub 2 0 23 (.tmp 5) (.tmp 7) rfl rfl rfl rfl [.int .i64 p0, .int .i64 p1, .int .i64 p2, .int .i64 p3] rfl (Nat.le_of_ble_eq_true rfl) rfl (by kernel_rfl) #[.int .i64 p0, .int .i64 p1, .int .i64 p2, .int .i64 p3] rfl _ rfl OW OZ ?_; clear OW OZ; intro W OW OZ))
  refine wpIn_region_heldL 2 (atD [[], [0]]) (atV [fun vH _ => vH = .pointer (some ⟨b0, 0, none⟩), fun vH _ => vH = .int .i64 k]) BelowR (by kernel_rfl) BelowR.trans (BelowR.refl _)
    (StV.atV (.const _ (.const _ .nil)))
    ⟨?o4x0, ?o4x1, trivial⟩ ?_
  case o4x0 =>
    exact held_run free_wide rfl (by rfl) BelowR.refl fun xH w' kH hR => ⟨_, run_fldO rfl (pO (by kernel_rfl) rfl) (by kernel_rfl), rfl⟩
  case o4x1 =>
    exact held_load free_wide rfl BelowR.refl 3 (.tmp 8) rfl fun xH w' kH hR => ⟨_, _, (pT 0 (by kernel_rfl) (by kernel_rfl) (kH 0 (by decide))), ldC OW hR 0 rfl rfl naInt, rfl⟩
  intro xH w' hv hR
  have h0 : xH 0 = _ := hv 0 (by omega)
  have h1 : xH 1 = _ := hv 1 (by omega)
  simp only [List.take_succ_cons, List.take_zero, List.drop_succ_cons, List.drop_zero, putsH, Act.put, List.setIfInBounds_toArray, List.set_cons_succ, List.set_cons_zero, h0, h1]
  have OW2 := Lib.hid (OW.out.step hR)
  clear hv hR OW OZ h0 h1
  have OW := OW2
  clear OW2
  obtain ⟨g5, OZ⟩ := own_size OW HB0
  gi_upto_region 3 with fail
  refine wpIn_region_heldL 2 (atD [[], [0]]) (atV [fun vH _ => vH = .bool (k == 1), fun vH _ => vH = .bool (k == 1)]) BelowR (by kernel_rfl) BelowR.trans (BelowR.refl _)
    (StV.atV (.const _ (.const _ .nil)))
    ⟨?o6x0, ?o6x1, trivial⟩ ?_
  case o6x0 =>
    exact held_run free_wide rfl (by rfl) BelowR.refl fun xH w' kH hR => ⟨_, run_binO rfl (pO (by kernel_rfl) rfl) rfl bin_eql, rfl⟩
  case o6x1 =>
    exact held_move free_wide rfl BelowR.refl (.tmp 11) (.inr rfl) fun xH w' kH _ => (pT 0 (by kernel_rfl) (by kernel_rfl) (kH 0 (by decide)))
  intro xH w' hv hR
  have h0 : xH 0 = _ := hv 0 (by omega)
  have h1 : xH 1 = _ := hv 1 (by omega)
  simp only [List.take_succ_cons, List.take_zero, List.drop_succ_cons, List.drop_zero, putsH, Act.put, List.setIfInBounds_toArray, List.set_cons_succ, List.set_cons_zero, h0, h1]
  have OW2 := Lib.hid (OW.out.step hR)
  clear hv hR OW OZ h0 h1
  have OW := OW2
  clear OW2
  obtain ⟨g7, OZ⟩ := own_size OW HB0
  cases hB8 : (k == 1)
  case true =>
    gi_upto_region 5 with fail
    obtain ⟨eo92, qeo92⟩ : ∃ e, (decide ([q0, q1, q2, q3] = [p0, p1, p2, p3])) = e := ⟨_, rfl⟩
    refine wpIn_region_heldL 4 (atD [[], [], [0, 1], [2]]) (atV [fun vH _ => vH = .agg #[.int .i64 q0, .int .i64 q1, .int .i64 q2, .int .i64 q3], fun vH _ => vH = .agg #[.int .i64 p0, .int .i64 p1, .int .i64 p2, .int .i64 p3], fun vH _ => vH = .bool eo92, fun vH _ => vH = .bool eo92]) BelowR (by kernel_rfl) BelowR.trans (BelowR.refl _)
      (StV.atV (.const _ (.const _ (.const _ (.const _ .nil)))))
      ⟨?o9x0, ?o9x1, ?o9x2, ?o9x3, trivial⟩ ?_
    case o9x0 =>
      exact held_load free_wide rfl BelowR.refl 23 (.tmp 3) rfl fun xH w' kH hR => ⟨_, _, (pO (by kernel_rfl) rfl), ldS OW hR 1 rfl 4 rfl Try.underlying23 rfl rfl (by kernel_rfl), rfl⟩
    case o9x1 =>
      exact held_load free_wide rfl BelowR.refl 23 (.tmp 5) rfl fun xH w' kH hR => ⟨_, _, (pO (by kernel_rfl) rfl), ldS OW hR 2 rfl 4 rfl Try.underlying23 rfl rfl (by kernel_rfl), rfl⟩
    case o9x2 =>
      exact held_run free_wide rfl (by rfl) BelowR.refl fun xH w' kH hR => ⟨_, run_binO rfl (pT 0 (by kernel_rfl) (by kernel_rfl) (kH 0 (by decide))) (pT 1 (by kernel_rfl) (by kernel_rfl) (kH 1 (by decide))) (eql_Place (l := [q0, q1, q2, q3]) (m := [p0, p1, p2, p3]) rfl rfl), (congrArg Value.bool qeo92)⟩
    case o9x3 =>
      exact held_move free_wide rfl BelowR.refl (.tmp 15) (.inr rfl) fun xH w' kH _ => (pT 2 (by kernel_rfl) (by kernel_rfl) (kH 2 (by decide)))
    intro xH w' hv hR
    subst qeo92
    have h0 : xH 0 = _ := hv 0 (by omega)
    have h1 : xH 1 = _ := hv 1 (by omega)
    have h2 : xH 2 = _ := hv 2 (by omega)
    have h3 : xH 3 = _ := hv 3 (by omega)
    simp only [List.take_succ_cons, List.take_zero, List.drop_succ_cons, List.drop_zero, putsH, Act.put, List.setIfInBounds_toArray, List.set_cons_succ, List.set_cons_zero, h0, h1, h2, h3]
    have OW2 := Lib.hid (OW.out.step hR)
    clear hv hR OW OZ h0 h1 h2 h3
    have OW := OW2
    clear OW2
    obtain ⟨g10, OZ⟩ := own_size OW HB0
    gi_wp2
    refine leaves_own [] _ (Nat.le_of_eq HB0.out) (by simpa using OW.out) ?_
    intro W' hO
    exact ⟨.bool (decide ([q0, q1, q2, q3] = [p0, p1, p2, p3])), by simp [results, Try.results20, go_sem], (by simp only [flies, hB8, cond_true, cond_false]), hO.done HB0⟩
  gi_upto_region 4 with fail
  refine wpIn_region_heldL 2 (atD [[], [0]]) (atV [fun vH _ => vH = .bool (k == 2), fun vH _ => vH = .bool (k == 2)]) BelowR (by kernel_rfl) BelowR.trans (BelowR.refl _)
    (StV.atV (.const _ (.const _ .nil)))
    ⟨?o11x0, ?o11x1, trivial⟩ ?_
  case o11x0 =>
    exact held_run free_wide rfl (by rfl) BelowR.refl fun xH w' kH hR => ⟨_, run_binO rfl (pO (by kernel_rfl) rfl) rfl bin_eql, rfl⟩
  case o11x1 =>
    exact held_move free_wide rfl BelowR.refl (.tmp 12) (.inr rfl) fun xH w' kH _ => (pT 0 (by kernel_rfl) (by kernel_rfl) (kH 0 (by decide)))
  intro xH w' hv hR
  have h0 : xH 0 = _ := hv 0 (by omega)
  have h1 : xH 1 = _ := hv 1 (by omega)
  simp only [List.take_succ_cons, List.take_zero, List.drop_succ_cons, List.drop_zero, putsH, Act.put, List.setIfInBounds_toArray, List.set_cons_succ, List.set_cons_zero, h0, h1]
  have OW2 := Lib.hid (OW.out.step hR)
  clear hv hR OW OZ h0 h1
  have OW := OW2
  clear OW2
  obtain ⟨g12, OZ⟩ := own_size OW HB0
  cases hB13 : (k == 2)
  case true =>
    gi_upto_region 5 with fail
    obtain ⟨eo142, qeo142⟩ : ∃ e, (decide ([q0, q1, q2, q3] = [p0, p1, p2, p3])) = e := ⟨_, rfl⟩
    refine wpIn_region_heldL 4 (atD [[], [], [0, 1], [2]]) (atV [fun vH _ => vH = .agg #[.int .i64 q0, .int .i64 q1, .int .i64 q2, .int .i64 q3], fun vH _ => vH = .agg #[.int .i64 p0, .int .i64 p1, .int .i64 p2, .int .i64 p3], fun vH _ => vH = .bool eo142, fun vH _ => vH = .bool eo142]) BelowR (by kernel_rfl) BelowR.trans (BelowR.refl _)
      (StV.atV (.const _ (.const _ (.const _ (.const _ .nil)))))
      ⟨?o14x0, ?o14x1, ?o14x2, ?o14x3, trivial⟩ ?_
    case o14x0 =>
      exact held_load free_wide rfl BelowR.refl 23 (.tmp 3) rfl fun xH w' kH hR => ⟨_, _, (pO (by kernel_rfl) rfl), ldS OW hR 1 rfl 4 rfl Try.underlying23 rfl rfl (by kernel_rfl), rfl⟩
    case o14x1 =>
      exact held_load free_wide rfl BelowR.refl 23 (.tmp 5) rfl fun xH w' kH hR => ⟨_, _, (pO (by kernel_rfl) rfl), ldS OW hR 2 rfl 4 rfl Try.underlying23 rfl rfl (by kernel_rfl), rfl⟩
    case o14x2 =>
      exact held_run free_wide rfl (by rfl) BelowR.refl fun xH w' kH hR => ⟨_, run_binO rfl (pT 0 (by kernel_rfl) (by kernel_rfl) (kH 0 (by decide))) (pT 1 (by kernel_rfl) (by kernel_rfl) (kH 1 (by decide))) (eql_Place (l := [q0, q1, q2, q3]) (m := [p0, p1, p2, p3]) rfl rfl), (congrArg Value.bool qeo142)⟩
    case o14x3 =>
      exact held_move free_wide rfl BelowR.refl (.tmp 15) (.inr rfl) fun xH w' kH _ => (pT 2 (by kernel_rfl) (by kernel_rfl) (kH 2 (by decide)))
    intro xH w' hv hR
    subst qeo142
    have h0 : xH 0 = _ := hv 0 (by omega)
    have h1 : xH 1 = _ := hv 1 (by omega)
    have h2 : xH 2 = _ := hv 2 (by omega)
    have h3 : xH 3 = _ := hv 3 (by omega)
    simp only [List.take_succ_cons, List.take_zero, List.drop_succ_cons, List.drop_zero, putsH, Act.put, List.setIfInBounds_toArray, List.set_cons_succ, List.set_cons_zero, h0, h1, h2, h3]
    have OW2 := Lib.hid (OW.out.step hR)
    clear hv hR OW OZ h0 h1 h2 h3
    have OW := OW2
    clear OW2
    obtain ⟨g15, OZ⟩ := own_size OW HB0
    gi_wp2
    refine leaves_own [] _ (Nat.le_of_eq HB0.out) (by simpa using OW.out) ?_
    intro W' hO
    exact ⟨.bool (decide ([q0, q1, q2, q3] = [p0, p1, p2, p3])), by simp [results, Try.results20, go_sem], (by simp only [flies, hB8, hB13, cond_true, cond_false]), hO.done HB0⟩
  gi_upto_region 6 with fail
  refine wpIn_region_heldL 2 (atD [[], [0]]) (atV [fun vH _ => vH = .bool (k == 3), fun vH _ => vH = .bool (k == 3)]) BelowR (by kernel_rfl) BelowR.trans (BelowR.refl _)
    (StV.atV (.const _ (.const _ .nil)))
    ⟨?o16x0, ?o16x1, trivial⟩ ?_
  case o16x0 =>
    exact held_run free_wide rfl (by rfl) BelowR.refl fun xH w' kH hR => ⟨_, run_binO rfl (pO (by kernel_rfl) rfl) rfl bin_eql, rfl⟩
  case o16x1 =>
    exact held_move free_wide rfl BelowR.refl (.tmp 17) (.inr rfl) fun xH w' kH _ => (pT 0 (by kernel_rfl) (by kernel_rfl) (kH 0 (by decide)))
  intro xH w' hv hR
  have h0 : xH 0 = _ := hv 0 (by omega)
  have h1 : xH 1 = _ := hv 1 (by omega)
  simp only [List.take_succ_cons, List.take_zero, List.drop_succ_cons, List.drop_zero, putsH, Act.put, List.setIfInBounds_toArray, List.set_cons_succ, List.set_cons_zero, h0, h1]
  have OW2 := Lib.hid (OW.out.step hR)
  clear hv hR OW OZ h0 h1
  have OW := OW2
  clear OW2
  obtain ⟨g17, OZ⟩ := own_size OW HB0
  cases hB18 : (k == 3)
  case true =>
    gi_upto_region 8 with (first | (refine own_loadV 19 2 3 (.tmp 18) rfl rfl rfl rfl rfl (.int .i64 p3) rfl naInt OW ?_) | (refine own_store 1 3 (.tmp 20) (.tmp 19) rfl rfl rfl rfl (.int .i64 p3) rfl #[.int .i64 q0, .int .i64 q1, .int .i64 q2, .int .i64 p3] rfl (Nat.le_of_ble_eq_true rfl) rfl szInt _ rfl OW OZ ?_; clear OW OZ; intro W OW OZ))
    obtain ⟨eo192, qeo192⟩ : ∃ e, (decide ([q0, q1, q2, p3] = [p0, p1, p2, p3])) = e := ⟨_, rfl⟩
    refine wpIn_region_heldL 4 (atD [[], [], [0, 1], [2]]) (atV [fun vH _ => vH = .agg #[.int .i64 q0, .int .i64 q1, .int .i64 q2, .int .i64 p3], fun vH _ => vH = .agg #[.int .i64 p0, .int .i64 p1, .int .i64 p2, .int .i64 p3], fun vH _ => vH = .bool eo192, fun vH _ => vH = .bool eo192]) BelowR (by kernel_rfl) BelowR.trans (BelowR.refl _)
      (StV.atV (.const _ (.const _ (.const _ (.const _ .nil)))))
      ⟨?o19x0, ?o19x1, ?o19x2, ?o19x3, trivial⟩ ?_
    case o19x0 =>
      exact held_load free_wide rfl BelowR.refl 23 (.tmp 3) rfl fun xH w' kH hR => ⟨_, _, (pO (by kernel_rfl) rfl), ldS OW hR 1 rfl 4 rfl Try.underlying23 rfl rfl (by kernel_rfl), rfl⟩
    case o19x1 =>
      exact held_load free_wide rfl BelowR.refl 23 (.tmp 5) rfl fun xH w' kH hR => ⟨_, _, (pO (by kernel_rfl) rfl), ldS OW hR 2 rfl 4 rfl Try.underlying23 rfl rfl (by kernel_rfl), rfl⟩
    case o19x2 =>
      exact held_run free_wide rfl (by rfl) BelowR.refl fun xH w' kH hR => ⟨_, run_binO rfl (pT 0 (by kernel_rfl) (by kernel_rfl) (kH 0 (by decide))) (pT 1 (by kernel_rfl) (by kernel_rfl) (kH 1 (by decide))) (eql_Place (l := [q0, q1, q2, p3]) (m := [p0, p1, p2, p3]) rfl rfl), (congrArg Value.bool qeo192)⟩
    case o19x3 =>
      exact held_move free_wide rfl BelowR.refl (.tmp 23) (.inr rfl) fun xH w' kH _ => (pT 2 (by kernel_rfl) (by kernel_rfl) (kH 2 (by decide)))
    intro xH w' hv hR
    subst qeo192
    have h0 : xH 0 = _ := hv 0 (by omega)
    have h1 : xH 1 = _ := hv 1 (by omega)
    have h2 : xH 2 = _ := hv 2 (by omega)
    have h3 : xH 3 = _ := hv 3 (by omega)
    simp only [List.take_succ_cons, List.take_zero, List.drop_succ_cons, List.drop_zero, putsH, Act.put, List.setIfInBounds_toArray, List.set_cons_succ, List.set_cons_zero, h0, h1, h2, h3]
    have OW2 := Lib.hid (OW.out.step hR)
    clear hv hR OW OZ h0 h1 h2 h3
    have OW := OW2
    clear OW2
    obtain ⟨g20, OZ⟩ := own_size OW HB0
    gi_wp2
    refine leaves_own [] _ (Nat.le_of_eq HB0.out) (by simpa using OW.out) ?_
    intro W' hO
    exact ⟨.bool (decide ([q0, q1, q2, p3] = [p0, p1, p2, p3])), by simp [results, Try.results20, go_sem], (by simp only [flies, hB8, hB13, hB18, cond_true, cond_false]), hO.done HB0⟩
  gi_upto_region 9 with fail
  refine wpIn_region_heldL 2 (atD [[], [0]]) (atV [fun vH _ => vH = .bool (k == 4), fun vH _ => vH = .bool (k == 4)]) BelowR (by kernel_rfl) BelowR.trans (BelowR.refl _)
    (StV.atV (.const _ (.const _ .nil)))
    ⟨?o21x0, ?o21x1, trivial⟩ ?_
  case o21x0 =>
    exact held_run free_wide rfl (by rfl) BelowR.refl fun xH w' kH hR => ⟨_, run_binO rfl (pO (by kernel_rfl) rfl) rfl bin_eql, rfl⟩
  case o21x1 =>
    exact held_move free_wide rfl BelowR.refl (.tmp 25) (.inr rfl) fun xH w' kH _ => (pT 0 (by kernel_rfl) (by kernel_rfl) (kH 0 (by decide)))
  intro xH w' hv hR
  have h0 : xH 0 = _ := hv 0 (by omega)
  have h1 : xH 1 = _ := hv 1 (by omega)
  simp only [List.take_succ_cons, List.take_zero, List.drop_succ_cons, List.drop_zero, putsH, Act.put, List.setIfInBounds_toArray, List.set_cons_succ, List.set_cons_zero, h0, h1]
  have OW2 := Lib.hid (OW.out.step hR)
  clear hv hR OW OZ h0 h1
  have OW := OW2
  clear OW2
  obtain ⟨g22, OZ⟩ := own_size OW HB0
  cases hB23 : (k == 4)
  case true =>
    gi_upto_region 11 with (first | (refine own_loadV 27 2 3 (.tmp 26) rfl rfl rfl rfl rfl (.int .i64 p2) rfl naInt OW ?_) | (refine own_store 1 3 (.tmp 28) (.tmp 27) rfl rfl rfl rfl (.int .i64 p2) rfl #[.int .i64 q0, .int .i64 q1, .int .i64 p2, .int .i64 q3] rfl (Nat.le_of_ble_eq_true rfl) rfl szInt _ rfl OW OZ ?_; clear OW OZ; intro W OW OZ))
    obtain ⟨eo242, qeo242⟩ : ∃ e, (decide ([q0, q1, p2, q3] = [p0, p1, p2, p3])) = e := ⟨_, rfl⟩
    refine wpIn_region_heldL 4 (atD [[], [], [0, 1], [2]]) (atV [fun vH _ => vH = .agg #[.int .i64 q0, .int .i64 q1, .int .i64 p2, .int .i64 q3], fun vH _ => vH = .agg #[.int .i64 p0, .int .i64 p1, .int .i64 p2, .int .i64 p3], fun vH _ => vH = .bool eo242, fun vH _ => vH = .bool eo242]) BelowR (by kernel_rfl) BelowR.trans (BelowR.refl _)
      (StV.atV (.const _ (.const _ (.const _ (.const _ .nil)))))
      ⟨?o24x0, ?o24x1, ?o24x2, ?o24x3, trivial⟩ ?_
    case o24x0 =>
      exact held_load free_wide rfl BelowR.refl 23 (.tmp 3) rfl fun xH w' kH hR => ⟨_, _, (pO (by kernel_rfl) rfl), ldS OW hR 1 rfl 4 rfl Try.underlying23 rfl rfl (by kernel_rfl), rfl⟩
    case o24x1 =>
      exact held_load free_wide rfl BelowR.refl 23 (.tmp 5) rfl fun xH w' kH hR => ⟨_, _, (pO (by kernel_rfl) rfl), ldS OW hR 2 rfl 4 rfl Try.underlying23 rfl rfl (by kernel_rfl), rfl⟩
    case o24x2 =>
      exact held_run free_wide rfl (by rfl) BelowR.refl fun xH w' kH hR => ⟨_, run_binO rfl (pT 0 (by kernel_rfl) (by kernel_rfl) (kH 0 (by decide))) (pT 1 (by kernel_rfl) (by kernel_rfl) (kH 1 (by decide))) (eql_Place (l := [q0, q1, p2, q3]) (m := [p0, p1, p2, p3]) rfl rfl), (congrArg Value.bool qeo242)⟩
    case o24x3 =>
      exact held_move free_wide rfl BelowR.refl (.tmp 31) (.inr rfl) fun xH w' kH _ => (pT 2 (by kernel_rfl) (by kernel_rfl) (kH 2 (by decide)))
    intro xH w' hv hR
    subst qeo242
    have h0 : xH 0 = _ := hv 0 (by omega)
    have h1 : xH 1 = _ := hv 1 (by omega)
    have h2 : xH 2 = _ := hv 2 (by omega)
    have h3 : xH 3 = _ := hv 3 (by omega)
    simp only [List.take_succ_cons, List.take_zero, List.drop_succ_cons, List.drop_zero, putsH, Act.put, List.setIfInBounds_toArray, List.set_cons_succ, List.set_cons_zero, h0, h1, h2, h3]
    have OW2 := Lib.hid (OW.out.step hR)
    clear hv hR OW OZ h0 h1 h2 h3
    have OW := OW2
    clear OW2
    obtain ⟨g25, OZ⟩ := own_size OW HB0
    gi_wp2
    refine leaves_own [] _ (Nat.le_of_eq HB0.out) (by simpa using OW.out) ?_
    intro W' hO
    exact ⟨.bool (decide ([q0, q1, p2, q3] = [p0, p1, p2, p3])), by simp [results, Try.results20, go_sem], (by simp only [flies, hB8, hB13, hB18, hB23, cond_true, cond_false]), hO.done HB0⟩
  gi_upto_region 12 with fail
  refine wpIn_region_heldL 2 (atD [[], [0]]) (atV [fun vH _ => vH = .bool (k == 5), fun vH _ => vH = .bool (k == 5)]) BelowR (by kernel_rfl) BelowR.trans (BelowR.refl _)
    (StV.atV (.const _ (.const _ .nil)))
    ⟨?o26x0, ?o26x1, trivial⟩ ?_
  case o26x0 =>
    exact held_run free_wide rfl (by rfl) BelowR.refl fun xH w' kH hR => ⟨_, run_binO rfl (pO (by kernel_rfl) rfl) rfl bin_eql, rfl⟩
  case o26x1 =>
    exact held_move free_wide rfl BelowR.refl (.tmp 33) (.inr rfl) fun xH w' kH _ => (pT 0 (by kernel_rfl) (by kernel_rfl) (kH 0 (by decide)))
  intro xH w' hv hR
  have h0 : xH 0 = _ := hv 0 (by omega)
  have h1 : xH 1 = _ := hv 1 (by omega)
  simp only [List.take_succ_cons, List.take_zero, List.drop_succ_cons, List.drop_zero, putsH, Act.put, List.setIfInBounds_toArray, List.set_cons_succ, List.set_cons_zero, h0, h1]
  have OW2 := Lib.hid (OW.out.step hR)
  clear hv hR OW OZ h0 h1
  have OW := OW2
  clear OW2
  obtain ⟨g27, OZ⟩ := own_size OW HB0
  cases hB28 : (k == 5)
  case true =>
    gi_upto_region 13 with fail
    refine wpIn_region_heldL 6 (atD [[], [0], [], [2], [1, 3], [4]]) (atV [fun vH _ => vH = .pointer (some ⟨g1, 0, none⟩), fun vH _ => vH = .int .i64 q0, fun vH _ => vH = .pointer (some ⟨g2, 0, none⟩), fun vH _ => vH = .int .i64 p0, fun vH _ => vH = .bool (q0 == p0), fun vH _ => vH = .bool (q0 == p0)]) BelowR (by kernel_rfl) BelowR.trans (BelowR.refl _)
      (StV.atV (.const _ (.const _ (.const _ (.const _ (.const _ (.const _ .nil)))))))
      ⟨?o29x0, ?o29x1, ?o29x2, ?o29x3, ?o29x4, ?o29x5, trivial⟩ ?_
    case o29x0 =>
      exact held_run free_wide rfl (by rfl) BelowR.refl fun xH w' kH hR => ⟨_, run_fldO rfl (pO (by kernel_rfl) rfl) (by kernel_rfl), rfl⟩
    case o29x1 =>
      exact held_load free_wide rfl BelowR.refl 3 (.tmp 34) rfl fun xH w' kH hR => ⟨_, _, (pT 0 (by kernel_rfl) (by kernel_rfl) (kH 0 (by decide))), ldC OW hR 1 rfl rfl naInt, rfl⟩
    case o29x2 =>
      exact held_run free_wide rfl (by rfl) BelowR.refl fun xH w' kH hR => ⟨_, run_fldO rfl (pO (by kernel_rfl) rfl) (by kernel_rfl), rfl⟩
    case o29x3 =>
      exact held_load free_wide rfl BelowR.refl 3 (.tmp 36) rfl fun xH w' kH hR => ⟨_, _, (pT 2 (by kernel_rfl) (by kernel_rfl) (kH 2 (by decide))), ldC OW hR 2 rfl rfl naInt, rfl⟩
    case o29x4 =>
      exact held_run free_wide rfl (by rfl) BelowR.refl fun xH w' kH hR => ⟨_, run_binO rfl (pT 1 (by kernel_rfl) (by kernel_rfl) (kH 1 (by decide))) (pT 3 (by kernel_rfl) (by kernel_rfl) (kH 3 (by decide))) bin_eql, rfl⟩
    case o29x5 =>
      exact held_move free_wide rfl BelowR.refl (.tmp 38) (.inr rfl) fun xH w' kH _ => (pT 4 (by kernel_rfl) (by kernel_rfl) (kH 4 (by decide)))
    intro xH w' hv hR
    have h0 : xH 0 = _ := hv 0 (by omega)
    have h1 : xH 1 = _ := hv 1 (by omega)
    have h2 : xH 2 = _ := hv 2 (by omega)
    have h3 : xH 3 = _ := hv 3 (by omega)
    have h4 : xH 4 = _ := hv 4 (by omega)
    have h5 : xH 5 = _ := hv 5 (by omega)
    simp only [List.take_succ_cons, List.take_zero, List.drop_succ_cons, List.drop_zero, putsH, Act.put, List.setIfInBounds_toArray, List.set_cons_succ, List.set_cons_zero, h0, h1, h2, h3, h4, h5]
    have OW2 := Lib.hid (OW.out.step hR)
    clear hv hR OW OZ h0 h1 h2 h3 h4 h5
    have OW := OW2
    clear OW2
    obtain ⟨g30, OZ⟩ := own_size OW HB0
    gi_wp2
    refine leaves_own [] _ (Nat.le_of_eq HB0.out) (by simpa using OW.out) ?_
    intro W' hO
    exact ⟨.bool (q0 == p0), by simp [results, Try.results20, go_sem], (by simp only [flies, hB8, hB13, hB18, hB23, hB28, cond_true, cond_false]), hO.done HB0⟩
  gi_wp2
  refine leaves_own [] _ (Nat.le_of_eq HB0.out) (by simpa using OW.out) ?_
  intro W' hO
  exact ⟨.bool false, by simp [results, Try.results20, go_sem], (by simp only [flies, hB8, hB13, hB18, hB23, hB28, cond_true, cond_false]), hO.done HB0⟩
def fbare_1 (k p0 p1 p2 p3 c b v : Int) : Int := (bif k == 1 then p0 else (bif k == 2 then p0 else (bif k == 3 then p0 else (bif k == 4 then p0 else (bif k == 5 then p0 else (bif k == 7 then 0 else p0))))))
def fbare_2 (k p0 p1 p2 p3 c b v : Int) : Int := (bif k == 1 then p1 else (bif k == 2 then p1 else (bif k == 3 then p1 else (bif k == 4 then p1 else (bif k == 5 then 0 else (bif k == 7 then 0 else p1))))))
def fbare_3 (k p0 p1 p2 p3 c b v : Int) : Int := (bif k == 1 then p2 else (bif k == 2 then p2 else (bif k == 3 then p2 else (bif k == 4 then 0 else (bif k == 5 then 0 else (bif k == 7 then 0 else p2))))))
def fbare_4 (k p0 p1 p2 p3 c b v : Int) : Int := (bif k == 1 then p3 else (bif k == 2 then p3 else (bif k == 3 then 0 else (bif k == 4 then p3 else (bif k == 5 then 0 else (bif k == 7 then 0 else p3))))))
def fbare_5 (k p0 p1 p2 p3 c b v : Int) : Int := (bif k == 1 then 0 else (bif k == 2 then 0 else (bif k == 3 then c else (bif k == 4 then c else (bif k == 5 then c else 0)))))
def fbare_6 (k p0 p1 p2 p3 c b v : Int) : Int := (bif k == 1 then b else (bif k == 2 then b else 0))
def fbare_7 (k p0 p1 p2 p3 c b v : Int) : Int := (bif k == 1 then 0 else (bif k == 2 then v else (bif k == 3 then v else (bif k == 4 then v else (bif k == 5 then v else 0)))))
set_option maxRecDepth 100000 in
set_option maxHeartbeats 1000000 in
theorem fbare_any (k p0 p1 p2 p3 c b v : Int) (w : World) : Calls Try.prog 61 #[.agg #[.int .i64 k, .int .i64 p0, .int .i64 p1, .int .i64 p2, .int .i64 p3, .int .i64 c, .int .i64 b, .int .i64 v]] w fun e w' => e = .returned (.agg #[.int .i64 k, .int .i64 (fbare_1 k p0 p1 p2 p3 c b v), .int .i64 (fbare_2 k p0 p1 p2 p3 c b v), .int .i64 (fbare_3 k p0 p1 p2 p3 c b v), .int .i64 (fbare_4 k p0 p1 p2 p3 c b v), .int .i64 (fbare_5 k p0 p1 p2 p3 c b v), .int .i64 (fbare_6 k p0 p1 p2 p3 c b v), .int .i64 (fbare_7 k p0 p1 p2 p3 c b v)]) ∧ Below w.heap.size w w' := by
  obtain ⟨b0, hb0⟩ : ∃ b0, w.heap.size = b0 := ⟨_, rfl⟩
  have HB0 := Lib.hid hb0
  have OW := Lib.hid (Own.start b0 w)
  have OZ := Lib.hid (And.intro hb0 (Nat.le_refl b0))
  clear hb0
  refine (callsIn_wide (n := 6)).1 ?_
  refine callsIn_of_wp_marks Try.func61 rfl trivial ?_ rfl
  simp only [Try.ntmps61, List.size_toArray, List.length_cons, List.length_nil, Nat.reduceAdd, Nat.reduceSub, Array.replicate_succ, Array.replicate_zero, List.push_toArray, List.append_toArray, List.nil_append, List.cons_append]
  gi_upto_region 2 with (first | (refine own_boxV 1 25 (.tmp 0) rfl rfl rfl (.agg #[.int .i64 k, .int .i64 p0, .int .i64 p1, .int .i64 p2, .int .i64 p3, .int .i64 c, .int .i64 b, .int .i64 v]) rfl #[.int .i64 k, .int .i64 p0, .int .i64 p1, .int .i64 p2, .int .i64 p3, .int .i64 c, .int .i64 b, .int .i64 v] rfl OW OZ ?_; clear OW OZ; intro W g1 OW OZ) | (refine own_allocV 2 25 rfl rfl rfl #[.int .i64 0, .int .i64 0, .int .i64 0, .int .i64 0, .int .i64 0, .int .i64 0, .int .i64 0, .int .i64 0] (fun _ => by kernel_rfl) OW OZ ?_; clear OW OZ; intro W g2 OW OZ) | (refine own_loadV 5 0 3 (.tmp 4) rfl rfl rfl rfl rfl (.int .i64 k) rfl naInt OW ?_) | (refine own_loadSubV 7 0 1 23 (.tmp 6) rfl rfl rfl rfl rfl [.int .i64 p0, .int .i64 p1, .int .i64 p2, .int .i64 p3] rfl Try.underlying23 rfl (by kernel_rfl) OW ?_) | (refine own_valV 8 rfl rfl rfl (.agg #[.int .i64 k, .int .i64 p0, .int .i64 p1, .int .i64 p2, .int .i64 p3, .int .i64 0, .int .i64 0, .int .i64 0]) (run_buildO rfl (vs := #[(0, .int .i64 k), (1, .agg #[.int .i64 p0, .int .i64 p1, .int .i64 p2, .int .i64 p3])]) rfl _ (by kernel_rfl)) ?_) | (refine own_allocV 3 25 rfl rfl rfl #[.int .i64 0, .int .i64 0, .int .i64 0, .int .i64 0, .int .i64 0, .int .i64 0, .int .i64 0, .int .i64 0] (fun _ => by kernel_rfl) OW OZ ?_; clear OW OZ; intro W g3 OW OZ) | (refine own_storeSub 2 0 25 (.tmp 3) (.tmp 8) rfl rfl rfl rfl [.int .i64 k, .int .i64 p0, .int .i64 p1, .int .i64 p2, .int .i64 p3, .int .i64 0, .int .i64 0, .int .i64 0] rfl (Nat.le_of_ble_eq_true rfl) rfl (by kernel_rfl) #[.int .i64 k, .int .i64 p0, .int .i64 p1, .int .i64 p2, .int .i64 p3, .int .i64 0, .int .i64 0, .int .i64 0] rfl _ rfl OW OZ ?_; clear OW OZ; intro W OW OZ))
  refine wpIn_region_heldL 2 (atD [[], [0]]) (atV [fun vH _ => vH = .pointer (some ⟨b0, 0, none⟩), fun vH _ => vH = .int .i64 k]) BelowR (by kernel_rfl) BelowR.trans (BelowR.refl _)
    (StV.atV (.const _ (.const _ .nil)))
    ⟨?o4x0, ?o4x1, trivial⟩ ?_
  case o4x0 =>
    exact held_run free_wide rfl (by rfl) BelowR.refl fun xH w' kH hR => ⟨_, run_fldO rfl (pO (by kernel_rfl) rfl) (by kernel_rfl), rfl⟩
  case o4x1 =>
    exact held_load free_wide rfl BelowR.refl 3 (.tmp 9) rfl fun xH w' kH hR => ⟨_, _, (pT 0 (by kernel_rfl) (by kernel_rfl) (kH 0 (by decide))), ldC OW hR 0 rfl rfl naInt, rfl⟩
  intro xH w' hv hR
  have h0 : xH 0 = _ := hv 0 (by omega)
  have h1 : xH 1 = _ := hv 1 (by omega)
  simp only [List.take_succ_cons, List.take_zero, List.drop_succ_cons, List.drop_zero, putsH, Act.put, List.setIfInBounds_toArray, List.set_cons_succ, List.set_cons_zero, h0, h1]
  have OW2 := Lib.hid (OW.out.step hR)
  clear hv hR OW OZ h0 h1
  have OW := OW2
  clear OW2
  obtain ⟨g5, OZ⟩ := own_size OW HB0
  gi_upto_region 3 with fail
  refine wpIn_region_heldL 2 (atD [[], [0]]) (atV [fun vH _ => vH = .bool (k == 1), fun vH _ => vH = .bool (k == 1)]) BelowR (by kernel_rfl) BelowR.trans (BelowR.refl _)
    (StV.atV (.const _ (.const _ .nil)))
    ⟨?o6x0, ?o6x1, trivial⟩ ?_
  case o6x0 =>
    exact held_run free_wide rfl (by rfl) BelowR.refl fun xH w' kH hR => ⟨_, run_binO rfl (pO (by kernel_rfl) rfl) rfl bin_eql, rfl⟩
  case o6x1 =>
    exact held_move free_wide rfl BelowR.refl (.tmp 12) (.inr rfl) fun xH w' kH _ => (pT 0 (by kernel_rfl) (by kernel_rfl) (kH 0 (by decide)))
  intro xH w' hv hR
  have h0 : xH 0 = _ := hv 0 (by omega)
  have h1 : xH 1 = _ := hv 1 (by omega)
  simp only [List.take_succ_cons, List.take_zero, List.drop_succ_cons, List.drop_zero, putsH, Act.put, List.setIfInBounds_toArray, List.set_cons_succ, List.set_cons_zero, h0, h1]
  have OW2 := Lib.hid (OW.out.step hR)
  clear hv hR OW OZ h0 h1
  have OW := OW2
  clear OW2
  obtain ⟨g7, OZ⟩ := own_size OW HB0
  cases hB8 : (k == 1)
  case true =>
    gi_upto_region 13 with (first | (refine own_loadV 14 0 3 (.tmp 13) rfl rfl rfl rfl rfl (.int .i64 b) rfl naInt OW ?_) | (refine own_store 2 3 (.tmp 15) (.tmp 14) rfl rfl rfl rfl (.int .i64 b) rfl #[.int .i64 k, .int .i64 p0, .int .i64 p1, .int .i64 p2, .int .i64 p3, .int .i64 0, .int .i64 b, .int .i64 0] rfl (Nat.le_of_ble_eq_true rfl) rfl szInt _ rfl OW OZ ?_; clear OW OZ; intro W OW OZ))
    refine wpIn_region_heldL 2 (atD [[], [0]]) (atV [fun vH _ => vH = .pointer (some ⟨b0, 0, none⟩), fun vH _ => vH = .int .i64 k]) BelowR (by kernel_rfl) BelowR.trans (BelowR.refl _)
      (StV.atV (.const _ (.const _ .nil)))
      ⟨?o9x0, ?o9x1, trivial⟩ ?_
    case o9x0 =>
      exact held_run free_wide rfl (by rfl) BelowR.refl fun xH w' kH hR => ⟨_, run_fldO rfl (pO (by kernel_rfl) rfl) (by kernel_rfl), rfl⟩
    case o9x1 =>
      exact held_load free_wide rfl BelowR.refl 3 (.tmp 38) rfl fun xH w' kH hR => ⟨_, _, (pT 0 (by kernel_rfl) (by kernel_rfl) (kH 0 (by decide))), ldC OW hR 0 rfl rfl naInt, rfl⟩
    intro xH w' hv hR
    have h0 : xH 0 = _ := hv 0 (by omega)
    have h1 : xH 1 = _ := hv 1 (by omega)
    simp only [List.take_succ_cons, List.take_zero, List.drop_succ_cons, List.drop_zero, putsH, Act.put, List.setIfInBounds_toArray, List.set_cons_succ, List.set_cons_zero, h0, h1]
    have OW2 := Lib.hid (OW.out.step hR)
    clear hv hR OW OZ h0 h1
    have OW := OW2
    clear OW2
    obtain ⟨g10, OZ⟩ := own_size OW HB0
    gi_upto_region 14 with fail
    refine wpIn_region_heldL 2 (atD [[], [0]]) (atV [fun vH _ => vH = .bool (k == 3), fun vH _ => vH = .bool (k == 3)]) BelowR (by kernel_rfl) BelowR.trans (BelowR.refl _)
      (StV.atV (.const _ (.const _ .nil)))
      ⟨?o11x0, ?o11x1, trivial⟩ ?_
    case o11x0 =>
      exact held_run free_wide rfl (by rfl) BelowR.refl fun xH w' kH hR => ⟨_, run_binO rfl (pO (by kernel_rfl) rfl) rfl bin_eql, rfl⟩
    case o11x1 =>
      exact held_move free_wide rfl BelowR.refl (.tmp 41) (.inr rfl) fun xH w' kH _ => (pT 0 (by kernel_rfl) (by kernel_rfl) (kH 0 (by decide)))
    intro xH w' hv hR
    have h0 : xH 0 = _ := hv 0 (by omega)
    have h1 : xH 1 = _ := hv 1 (by omega)
    simp only [List.take_succ_cons, List.take_zero, List.drop_succ_cons, List.drop_zero, putsH, Act.put, List.setIfInBounds_toArray, List.set_cons_succ, List.set_cons_zero, h0, h1]
    have OW2 := Lib.hid (OW.out.step hR)
    clear hv hR OW OZ h0 h1
    have OW := OW2
    clear OW2
    obtain ⟨g12, OZ⟩ := own_size OW HB0
    cases hB13 : (k == 3)
    case true => exact absurd ((eq_of_beq hB8).symm.trans (eq_of_beq hB13)) (by decide)
    gi_upto_region 16 with fail
    refine wpIn_region_heldL 2 (atD [[], [0]]) (atV [fun vH _ => vH = .bool (k == 4), fun vH _ => vH = .bool (k == 4)]) BelowR (by kernel_rfl) BelowR.trans (BelowR.refl _)
      (StV.atV (.const _ (.const _ .nil)))
      ⟨?o14x0, ?o14x1, trivial⟩ ?_
    case o14x0 =>
      exact held_run free_wide rfl (by rfl) BelowR.refl fun xH w' kH hR => ⟨_, run_binO rfl (pO (by kernel_rfl) rfl) rfl bin_eql, rfl⟩
    case o14x1 =>
      exact held_move free_wide rfl BelowR.refl (.tmp 45) (.inr rfl) fun xH w' kH _ => (pT 0 (by kernel_rfl) (by kernel_rfl) (kH 0 (by decide)))
    intro xH w' hv hR
    have h0 : xH 0 = _ := hv 0 (by omega)
    have h1 : xH 1 = _ := hv 1 (by omega)
    simp only [List.take_succ_cons, List.take_zero, List.drop_succ_cons, List.drop_zero, putsH, Act.put, List.setIfInBounds_toArray, List.set_cons_succ, List.set_cons_zero, h0, h1]
    have OW2 := Lib.hid (OW.out.step hR)
    clear hv hR OW OZ h0 h1
    have OW := OW2
    clear OW2
    obtain ⟨g15, OZ⟩ := own_size OW HB0
    cases hB16 : (k == 4)
    case true => exact absurd ((eq_of_beq hB8).symm.trans (eq_of_beq hB16)) (by decide)
    gi_upto_region 18 with fail
    refine wpIn_region_heldL 2 (atD [[], [0]]) (atV [fun vH _ => vH = .bool (k == 5), fun vH _ => vH = .bool (k == 5)]) BelowR (by kernel_rfl) BelowR.trans (BelowR.refl _)
      (StV.atV (.const _ (.const _ .nil)))
      ⟨?o17x0, ?o17x1, trivial⟩ ?_
    case o17x0 =>
      exact held_run free_wide rfl (by rfl) BelowR.refl fun xH w' kH hR => ⟨_, run_binO rfl (pO (by kernel_rfl) rfl) rfl bin_eql, rfl⟩
    case o17x1 =>
      exact held_move free_wide rfl BelowR.refl (.tmp 49) (.inr rfl) fun xH w' kH _ => (pT 0 (by kernel_rfl) (by kernel_rfl) (kH 0 (by decide)))
    intro xH w' hv hR
    have h0 : xH 0 = _ := hv 0 (by omega)
    have h1 : xH 1 = _ := hv 1 (by omega)
    simp only [List.take_succ_cons, List.take_zero, List.drop_succ_cons, List.drop_zero, putsH, Act.put, List.setIfInBounds_toArray, List.set_cons_succ, List.set_cons_zero, h0, h1]
    have OW2 := Lib.hid (OW.out.step hR)
    clear hv hR OW OZ h0 h1
    have OW := OW2
    clear OW2
    obtain ⟨g18, OZ⟩ := own_size OW HB0
    cases hB19 : (k == 5)
    case true => exact absurd ((eq_of_beq hB8).symm.trans (eq_of_beq hB19)) (by decide)
    gi_wp2_with (first | (refine own_loadSubV 55 2 0 25 (.tmp 3) rfl rfl rfl rfl rfl [.int .i64 k, .int .i64 p0, .int .i64 p1, .int .i64 p2, .int .i64 p3, .int .i64 0, .int .i64 b, .int .i64 0] rfl Try.underlying25 rfl (by kernel_rfl) OW ?_) | (refine own_storeSub 1 0 25 (.tmp 2) (.tmp 55) rfl rfl rfl rfl [.int .i64 k, .int .i64 p0, .int .i64 p1, .int .i64 p2, .int .i64 p3, .int .i64 0, .int .i64 b, .int .i64 0] rfl (Nat.le_of_ble_eq_true rfl) rfl (by kernel_rfl) #[.int .i64 k, .int .i64 p0, .int .i64 p1, .int .i64 p2, .int .i64 p3, .int .i64 0, .int .i64 b, .int .i64 0] rfl _ rfl OW OZ ?_; clear OW OZ; intro W OW OZ))
    refine leaves_own [] _ (Nat.le_of_eq HB0.out) (by simpa using OW.out) ?_
    intro W' hO
    exact ⟨.agg #[.int .i64 k, .int .i64 p0, .int .i64 p1, .int .i64 p2, .int .i64 p3, .int .i64 0, .int .i64 b, .int .i64 0], results_ownRow hO 1 rfl rfl rfl Try.underlying25 rfl (by kernel_rfl), (by simp only [fbare_1, fbare_2, fbare_3, fbare_4, fbare_5, fbare_6, fbare_7, hB8, cond_true, cond_false]), hO.done HB0⟩
  gi_upto_region 5 with fail
  refine wpIn_region_heldL 2 (atD [[], [0]]) (atV [fun vH _ => vH = .bool (k == 2), fun vH _ => vH = .bool (k == 2)]) BelowR (by kernel_rfl) BelowR.trans (BelowR.refl _)
    (StV.atV (.const _ (.const _ .nil)))
    ⟨?o20x0, ?o20x1, trivial⟩ ?_
  case o20x0 =>
    exact held_run free_wide rfl (by rfl) BelowR.refl fun xH w' kH hR => ⟨_, run_binO rfl (pO (by kernel_rfl) rfl) rfl bin_eql, rfl⟩
  case o20x1 =>
    exact held_move free_wide rfl BelowR.refl (.tmp 17) (.inr rfl) fun xH w' kH _ => (pT 0 (by kernel_rfl) (by kernel_rfl) (kH 0 (by decide)))
  intro xH w' hv hR
  have h0 : xH 0 = _ := hv 0 (by omega)
  have h1 : xH 1 = _ := hv 1 (by omega)
  simp only [List.take_succ_cons, List.take_zero, List.drop_succ_cons, List.drop_zero, putsH, Act.put, List.setIfInBounds_toArray, List.set_cons_succ, List.set_cons_zero, h0, h1]
  have OW2 := Lib.hid (OW.out.step hR)
  clear hv hR OW OZ h0 h1
  have OW := OW2
  clear OW2
  obtain ⟨g21, OZ⟩ := own_size OW HB0
  cases hB22 : (k == 2)
  case true =>
    gi_upto_region 6 with fail
    refine wpIn_region_held 8 (atD [[], [0], [], [2], [], [1, 4], [], [3, 6]]) (atV [fun vH _ => vH = .pointer (some ⟨b0, 6, none⟩), fun vH _ => vH = .int .i64 b, fun vH _ => vH = .pointer (some ⟨b0, 7, none⟩), fun vH _ => vH = .int .i64 v, fun vH _ => vH = .pointer (some ⟨g2, 6, none⟩), fun _ w' => CellIs g2 6 (.int .i64 b) w', fun vH _ => vH = .pointer (some ⟨g2, 7, none⟩), fun _ w' => CellIs g2 7 (.int .i64 v) w']) (StR g2 [(6, .int .i64 b), (7, .int .i64 v)]) (by kernel_rfl) (by kernel_rfl) StR.trans (StR.drew _)
      (StV.atV (.const _ (.const _ (.const _ (.const _ (.const _ (.cons (fun v x y h k => StR.keeps (by simp) h k) (.const _ (.cons (fun v x y h k => StR.keeps (by simp) h k) .nil)))))))))
      ⟨?o23x0, ?o23x1, ?o23x2, ?o23x3, ?o23x4, ?o23x5, ?o23x6, ?o23x7, trivial⟩ ?_
    case o23x0 =>
      exact held_run free_wide rfl (by rfl) StR.refl fun xH w' kH hR => ⟨_, run_fldO rfl (pO (by kernel_rfl) rfl) (by kernel_rfl), rfl⟩
    case o23x1 =>
      exact held_load free_wide rfl StR.refl 3 (.tmp 18) rfl fun xH w' kH hR => ⟨_, _, (pT 0 (by kernel_rfl) (by kernel_rfl) (kH 0 (by decide))), run_loadVar_cell (naInt w') (Blk.cell (StR.get OW.out (k := 0) rfl (Own.apart OW.out (j := 0) (k := 2) rfl rfl (by decide)) hR) 6), rfl⟩
    case o23x2 =>
      exact held_run free_wide rfl (by rfl) StR.refl fun xH w' kH hR => ⟨_, run_fldO rfl (pO (by kernel_rfl) rfl) (by kernel_rfl), rfl⟩
    case o23x3 =>
      exact held_load free_wide rfl StR.refl 3 (.tmp 20) rfl fun xH w' kH hR => ⟨_, _, (pT 2 (by kernel_rfl) (by kernel_rfl) (kH 2 (by decide))), run_loadVar_cell (naInt w') (Blk.cell (StR.get OW.out (k := 0) rfl (Own.apart OW.out (j := 0) (k := 2) rfl rfl (by decide)) hR) 7), rfl⟩
    case o23x4 =>
      exact held_run free_wide rfl (by rfl) StR.refl fun xH w' kH hR => ⟨_, run_fldO rfl (pO (by kernel_rfl) rfl) (by kernel_rfl), rfl⟩
    case o23x5 =>
      exact held_store free_wide rfl 3 (.tmp 22) (.tmp 19) rfl 6 (.int .i64 b) rfl szInt (by simp) (fun w' h => h) fun xH w' kH hR => ⟨(pT 4 (by kernel_rfl) (by kernel_rfl) (kH 4 (by decide))), (pT 1 (by kernel_rfl) (by kernel_rfl) (kH 1 (by decide))), _, _, OW.out.get (k := 2) rfl, Nat.le_of_ble_eq_true rfl⟩
    case o23x6 =>
      exact held_run free_wide rfl (by rfl) StR.refl fun xH w' kH hR => ⟨_, run_fldO rfl (pO (by kernel_rfl) rfl) (by kernel_rfl), rfl⟩
    case o23x7 =>
      exact held_store free_wide rfl 3 (.tmp 23) (.tmp 21) rfl 7 (.int .i64 v) rfl szInt (by simp) (fun w' h => h) fun xH w' kH hR => ⟨(pT 6 (by kernel_rfl) (by kernel_rfl) (kH 6 (by decide))), (pT 3 (by kernel_rfl) (by kernel_rfl) (kH 3 (by decide))), _, _, OW.out.get (k := 2) rfl, Nat.le_of_ble_eq_true rfl⟩
    intro xH w' hv hR
    have h0 : xH 0 = _ := hv 0 (by omega)
    have h1 : xH 1 = _ := hv 1 (by omega)
    have h2 : xH 2 = _ := hv 2 (by omega)
    have h3 : xH 3 = _ := hv 3 (by omega)
    have h4 : xH 4 = _ := hv 4 (by omega)
    have hs5 : (fun _ w' => CellIs g2 6 (.int .i64 b) w') (xH 5) w' := hv 5 (by omega)
    have h6 : xH 6 = _ := hv 6 (by omega)
    have hs7 : (fun _ w' => CellIs g2 7 (.int .i64 v) w') (xH 7) w' := hv 7 (by omega)
    simp only [List.take_succ_cons, List.take_zero, List.drop_succ_cons, List.drop_zero, putsH, Act.put, List.setIfInBounds_toArray, List.set_cons_succ, List.set_cons_zero, h0, h1, h2, h3, h4, h6]
    have HV : ∀ p ∈ [(6, .int .i64 b), (7, .int .i64 v)], CellIs g2 p.1 p.2 w' := by
      intro p hp
      simp only [List.mem_cons, List.not_mem_nil, or_false] at hp
      rcases hp with rfl | rfl
      · exact hs5
      · exact hs7
    have OW2 := Lib.hid (Own.stored OW.out (k := 2) rfl hR HV #[.int .i64 k, .int .i64 p0, .int .i64 p1, .int .i64 p2, .int .i64 p3, .int .i64 0, .int .i64 b, .int .i64 v] rfl fun i hi => by
      match i, hi with
      | 0, _ => exact .inr ⟨by simp, rfl⟩
      | 1, _ => exact .inr ⟨by simp, rfl⟩
      | 2, _ => exact .inr ⟨by simp, rfl⟩
      | 3, _ => exact .inr ⟨by simp, rfl⟩
      | 4, _ => exact .inr ⟨by simp, rfl⟩
      | 5, _ => exact .inr ⟨by simp, rfl⟩
      | 6, _ => exact .inl ⟨_, by simp, rfl⟩
      | 7, _ => exact .inl ⟨_, by simp, rfl⟩
      | i + 8, hi => exact absurd (show i + 8 < 8 from hi) (by omega))
    clear HV hs5 hs7
    skip
    clear hv hR OW OZ h0 h1 h2 h3 h4 h6
    have OW := OW2
    clear OW2
    obtain ⟨g24, OZ⟩ := own_size OW HB0
    gi_upto_region 13 with fail
    refine wpIn_region_heldL 2 (atD [[], [0]]) (atV [fun vH _ => vH = .pointer (some ⟨b0, 0, none⟩), fun vH _ => vH = .int .i64 k]) BelowR (by kernel_rfl) BelowR.trans (BelowR.refl _)
      (StV.atV (.const _ (.const _ .nil)))
      ⟨?o25x0, ?o25x1, trivial⟩ ?_
    case o25x0 =>
      exact held_run free_wide rfl (by rfl) BelowR.refl fun xH w' kH hR => ⟨_, run_fldO rfl (pO (by kernel_rfl) rfl) (by kernel_rfl), rfl⟩
    case o25x1 =>
      exact held_load free_wide rfl BelowR.refl 3 (.tmp 38) rfl fun xH w' kH hR => ⟨_, _, (pT 0 (by kernel_rfl) (by kernel_rfl) (kH 0 (by decide))), ldC OW hR 0 rfl rfl naInt, rfl⟩
    intro xH w' hv hR
    have h0 : xH 0 = _ := hv 0 (by omega)
    have h1 : xH 1 = _ := hv 1 (by omega)
    simp only [List.take_succ_cons, List.take_zero, List.drop_succ_cons, List.drop_zero, putsH, Act.put, List.setIfInBounds_toArray, List.set_cons_succ, List.set_cons_zero, h0, h1]
    have OW2 := Lib.hid (OW.out.step hR)
    clear hv hR OW OZ h0 h1
    have OW := OW2
    clear OW2
    obtain ⟨g26, OZ⟩ := own_size OW HB0
    gi_upto_region 14 with fail
    refine wpIn_region_heldL 2 (atD [[], [0]]) (atV [fun vH _ => vH = .bool (k == 3), fun vH _ => vH = .bool (k == 3)]) BelowR (by kernel_rfl) BelowR.trans (BelowR.refl _)
      (StV.atV (.const _ (.const _ .nil)))
      ⟨?o27x0, ?o27x1, trivial⟩ ?_
    case o27x0 =>
      exact held_run free_wide rfl (by rfl) BelowR.refl fun xH w' kH hR => ⟨_, run_binO rfl (pO (by kernel_rfl) rfl) rfl bin_eql, rfl⟩
    case o27x1 =>
      exact held_move free_wide rfl BelowR.refl (.tmp 41) (.inr rfl) fun xH w' kH _ => (pT 0 (by kernel_rfl) (by kernel_rfl) (kH 0 (by decide)))
    intro xH w' hv hR
    have h0 : xH 0 = _ := hv 0 (by omega)
    have h1 : xH 1 = _ := hv 1 (by omega)
    simp only [List.take_succ_cons, List.take_zero, List.drop_succ_cons, List.drop_zero, putsH, Act.put, List.setIfInBounds_toArray, List.set_cons_succ, List.set_cons_zero, h0, h1]
    have OW2 := Lib.hid (OW.out.step hR)
    clear hv hR OW OZ h0 h1
    have OW := OW2
    clear OW2
    obtain ⟨g28, OZ⟩ := own_size OW HB0
    cases hB29 : (k == 3)
    case true => exact absurd ((eq_of_beq hB22).symm.trans (eq_of_beq hB29)) (by decide)
    gi_upto_region 16 with fail
    refine wpIn_region_heldL 2 (atD [[], [0]]) (atV [fun vH _ => vH = .bool (k == 4), fun vH _ => vH = .bool (k == 4)]) BelowR (by kernel_rfl) BelowR.trans (BelowR.refl _)
      (StV.atV (.const _ (.const _ .nil)))
      ⟨?o30x0, ?o30x1, trivial⟩ ?_
    case o30x0 =>
      exact held_run free_wide rfl (by rfl) BelowR.refl fun xH w' kH hR => ⟨_, run_binO rfl (pO (by kernel_rfl) rfl) rfl bin_eql, rfl⟩
    case o30x1 =>
      exact held_move free_wide rfl BelowR.refl (.tmp 45) (.inr rfl) fun xH w' kH _ => (pT 0 (by kernel_rfl) (by kernel_rfl) (kH 0 (by decide)))
    intro xH w' hv hR
    have h0 : xH 0 = _ := hv 0 (by omega)
    have h1 : xH 1 = _ := hv 1 (by omega)
    simp only [List.take_succ_cons, List.take_zero, List.drop_succ_cons, List.drop_zero, putsH, Act.put, List.setIfInBounds_toArray, List.set_cons_succ, List.set_cons_zero, h0, h1]
    have OW2 := Lib.hid (OW.out.step hR)
    clear hv hR OW OZ h0 h1
    have OW := OW2
    clear OW2
    obtain ⟨g31, OZ⟩ := own_size OW HB0
    cases hB32 : (k == 4)
    case true => exact absurd ((eq_of_beq hB22).symm.trans (eq_of_beq hB32)) (by decide)
    gi_upto_region 18 with fail
    refine wpIn_region_heldL 2 (atD [[], [0]]) (atV [fun vH _ => vH = .bool (k == 5), fun vH _ => vH = .bool (k == 5)]) BelowR (by kernel_rfl) BelowR.trans (BelowR.refl _)
      (StV.atV (.const _ (.const _ .nil)))
      ⟨?o33x0, ?o33x1, trivial⟩ ?_
    case o33x0 =>
      exact held_run free_wide rfl (by rfl) BelowR.refl fun xH w' kH hR => ⟨_, run_binO rfl (pO (by kernel_rfl) rfl) rfl bin_eql, rfl⟩
    case o33x1 =>
      exact held_move free_wide rfl BelowR.refl (.tmp 49) (.inr rfl) fun xH w' kH _ => (pT 0 (by kernel_rfl) (by kernel_rfl) (kH 0 (by decide)))
    intro xH w' hv hR
    have h0 : xH 0 = _ := hv 0 (by omega)
    have h1 : xH 1 = _ := hv 1 (by omega)
    simp only [List.take_succ_cons, List.take_zero, List.drop_succ_cons, List.drop_zero, putsH, Act.put, List.setIfInBounds_toArray, List.set_cons_succ, List.set_cons_zero, h0, h1]
    have OW2 := Lib.hid (OW.out.step hR)
    clear hv hR OW OZ h0 h1
    have OW := OW2
    clear OW2
    obtain ⟨g34, OZ⟩ := own_size OW HB0
    cases hB35 : (k == 5)
    case true => exact absurd ((eq_of_beq hB22).symm.trans (eq_of_beq hB35)) (by decide)
    gi_wp2_with (first | (refine own_loadSubV 55 2 0 25 (.tmp 3) rfl rfl rfl rfl rfl [.int .i64 k, .int .i64 p0, .int .i64 p1, .int .i64 p2, .int .i64 p3, .int .i64 0, .int .i64 b, .int .i64 v] rfl Try.underlying25 rfl (by kernel_rfl) OW ?_) | (refine own_storeSub 1 0 25 (.tmp 2) (.tmp 55) rfl rfl rfl rfl [.int .i64 k, .int .i64 p0, .int .i64 p1, .int .i64 p2, .int .i64 p3, .int .i64 0, .int .i64 b, .int .i64 v] rfl (Nat.le_of_ble_eq_true rfl) rfl (by kernel_rfl) #[.int .i64 k, .int .i64 p0, .int .i64 p1, .int .i64 p2, .int .i64 p3, .int .i64 0, .int .i64 b, .int .i64 v] rfl _ rfl OW OZ ?_; clear OW OZ; intro W OW OZ))
    refine leaves_own [] _ (Nat.le_of_eq HB0.out) (by simpa using OW.out) ?_
    intro W' hO
    exact ⟨.agg #[.int .i64 k, .int .i64 p0, .int .i64 p1, .int .i64 p2, .int .i64 p3, .int .i64 0, .int .i64 b, .int .i64 v], results_ownRow hO 1 rfl rfl rfl Try.underlying25 rfl (by kernel_rfl), (by simp only [fbare_1, fbare_2, fbare_3, fbare_4, fbare_5, fbare_6, fbare_7, hB8, hB22, cond_true, cond_false]), hO.done HB0⟩
  gi_upto_region 7 with fail
  refine wpIn_region_heldL 2 (atD [[], [0]]) (atV [fun vH _ => vH = .bool (k == 3), fun vH _ => vH = .bool (k == 3)]) BelowR (by kernel_rfl) BelowR.trans (BelowR.refl _)
    (StV.atV (.const _ (.const _ .nil)))
    ⟨?o36x0, ?o36x1, trivial⟩ ?_
  case o36x0 =>
    exact held_run free_wide rfl (by rfl) BelowR.refl fun xH w' kH hR => ⟨_, run_binO rfl (pO (by kernel_rfl) rfl) rfl bin_eql, rfl⟩
  case o36x1 =>
    exact held_move free_wide rfl BelowR.refl (.tmp 25) (.inr rfl) fun xH w' kH _ => (pT 0 (by kernel_rfl) (by kernel_rfl) (kH 0 (by decide)))
  intro xH w' hv hR
  have h0 : xH 0 = _ := hv 0 (by omega)
  have h1 : xH 1 = _ := hv 1 (by omega)
  simp only [List.take_succ_cons, List.take_zero, List.drop_succ_cons, List.drop_zero, putsH, Act.put, List.setIfInBounds_toArray, List.set_cons_succ, List.set_cons_zero, h0, h1]
  have OW2 := Lib.hid (OW.out.step hR)
  clear hv hR OW OZ h0 h1
  have OW := OW2
  clear OW2
  obtain ⟨g37, OZ⟩ := own_size OW HB0
  cases hB38 : (k == 3)
  case true =>
    gi_upto_region 10 with fail
    refine wpIn_region_held 8 (atD [[], [0], [], [2], [], [1, 4], [], [3, 6]]) (atV [fun vH _ => vH = .pointer (some ⟨b0, 5, none⟩), fun vH _ => vH = .int .i64 c, fun vH _ => vH = .pointer (some ⟨b0, 7, none⟩), fun vH _ => vH = .int .i64 v, fun vH _ => vH = .pointer (some ⟨g2, 5, none⟩), fun _ w' => CellIs g2 5 (.int .i64 c) w', fun vH _ => vH = .pointer (some ⟨g2, 7, none⟩), fun _ w' => CellIs g2 7 (.int .i64 v) w']) (StR g2 [(5, .int .i64 c), (7, .int .i64 v)]) (by kernel_rfl) (by kernel_rfl) StR.trans (StR.drew _)
      (StV.atV (.const _ (.const _ (.const _ (.const _ (.const _ (.cons (fun v x y h k => StR.keeps (by simp) h k) (.const _ (.cons (fun v x y h k => StR.keeps (by simp) h k) .nil)))))))))
      ⟨?o39x0, ?o39x1, ?o39x2, ?o39x3, ?o39x4, ?o39x5, ?o39x6, ?o39x7, trivial⟩ ?_
    case o39x0 =>
      exact held_run free_wide rfl (by rfl) StR.refl fun xH w' kH hR => ⟨_, run_fldO rfl (pO (by kernel_rfl) rfl) (by kernel_rfl), rfl⟩
    case o39x1 =>
      exact held_load free_wide rfl StR.refl 3 (.tmp 28) rfl fun xH w' kH hR => ⟨_, _, (pT 0 (by kernel_rfl) (by kernel_rfl) (kH 0 (by decide))), run_loadVar_cell (naInt w') (Blk.cell (StR.get OW.out (k := 0) rfl (Own.apart OW.out (j := 0) (k := 2) rfl rfl (by decide)) hR) 5), rfl⟩
    case o39x2 =>
      exact held_run free_wide rfl (by rfl) StR.refl fun xH w' kH hR => ⟨_, run_fldO rfl (pO (by kernel_rfl) rfl) (by kernel_rfl), rfl⟩
    case o39x3 =>
      exact held_load free_wide rfl StR.refl 3 (.tmp 30) rfl fun xH w' kH hR => ⟨_, _, (pT 2 (by kernel_rfl) (by kernel_rfl) (kH 2 (by decide))), run_loadVar_cell (naInt w') (Blk.cell (StR.get OW.out (k := 0) rfl (Own.apart OW.out (j := 0) (k := 2) rfl rfl (by decide)) hR) 7), rfl⟩
    case o39x4 =>
      exact held_run free_wide rfl (by rfl) StR.refl fun xH w' kH hR => ⟨_, run_fldO rfl (pO (by kernel_rfl) rfl) (by kernel_rfl), rfl⟩
    case o39x5 =>
      exact held_store free_wide rfl 3 (.tmp 32) (.tmp 29) rfl 5 (.int .i64 c) rfl szInt (by simp) (fun w' h => h) fun xH w' kH hR => ⟨(pT 4 (by kernel_rfl) (by kernel_rfl) (kH 4 (by decide))), (pT 1 (by kernel_rfl) (by kernel_rfl) (kH 1 (by decide))), _, _, OW.out.get (k := 2) rfl, Nat.le_of_ble_eq_true rfl⟩
    case o39x6 =>
      exact held_run free_wide rfl (by rfl) StR.refl fun xH w' kH hR => ⟨_, run_fldO rfl (pO (by kernel_rfl) rfl) (by kernel_rfl), rfl⟩
    case o39x7 =>
      exact held_store free_wide rfl 3 (.tmp 33) (.tmp 31) rfl 7 (.int .i64 v) rfl szInt (by simp) (fun w' h => h) fun xH w' kH hR => ⟨(pT 6 (by kernel_rfl) (by kernel_rfl) (kH 6 (by decide))), (pT 3 (by kernel_rfl) (by kernel_rfl) (kH 3 (by decide))), _, _, OW.out.get (k := 2) rfl, Nat.le_of_ble_eq_true rfl⟩
    intro xH w' hv hR
    have h0 : xH 0 = _ := hv 0 (by omega)
    have h1 : xH 1 = _ := hv 1 (by omega)
    have h2 : xH 2 = _ := hv 2 (by omega)
    have h3 : xH 3 = _ := hv 3 (by omega)
    have h4 : xH 4 = _ := hv 4 (by omega)
    have hs5 : (fun _ w' => CellIs g2 5 (.int .i64 c) w') (xH 5) w' := hv 5 (by omega)
    have h6 : xH 6 = _ := hv 6 (by omega)
    have hs7 : (fun _ w' => CellIs g2 7 (.int .i64 v) w') (xH 7) w' := hv 7 (by omega)
    simp only [List.take_succ_cons, List.take_zero, List.drop_succ_cons, List.drop_zero, putsH, Act.put, List.setIfInBounds_toArray, List.set_cons_succ, List.set_cons_zero, h0, h1, h2, h3, h4, h6]
    have HV : ∀ p ∈ [(5, .int .i64 c), (7, .int .i64 v)], CellIs g2 p.1 p.2 w' := by
      intro p hp
      simp only [List.mem_cons, List.not_mem_nil, or_false] at hp
      rcases hp with rfl | rfl
      · exact hs5
      · exact hs7
    have OW2 := Lib.hid (Own.stored OW.out (k := 2) rfl hR HV #[.int .i64 k, .int .i64 p0, .int .i64 p1, .int .i64 p2, .int .i64 p3, .int .i64 c, .int .i64 0, .int .i64 v] rfl fun i hi => by
      match i, hi with
      | 0, _ => exact .inr ⟨by simp, rfl⟩
      | 1, _ => exact .inr ⟨by simp, rfl⟩
      | 2, _ => exact .inr ⟨by simp, rfl⟩
      | 3, _ => exact .inr ⟨by simp, rfl⟩
      | 4, _ => exact .inr ⟨by simp, rfl⟩
      | 5, _ => exact .inl ⟨_, by simp, rfl⟩
      | 6, _ => exact .inr ⟨by simp, rfl⟩
      | 7, _ => exact .inl ⟨_, by simp, rfl⟩
      | i + 8, hi => exact absurd (show i + 8 < 8 from hi) (by omega))
    clear HV hs5 hs7
    skip
    clear hv hR OW OZ h0 h1 h2 h3 h4 h6
    have OW := OW2
    clear OW2
    obtain ⟨g40, OZ⟩ := own_size OW HB0
    gi_upto_region 13 with fail
    refine wpIn_region_heldL 2 (atD [[], [0]]) (atV [fun vH _ => vH = .pointer (some ⟨b0, 0, none⟩), fun vH _ => vH = .int .i64 k]) BelowR (by kernel_rfl) BelowR.trans (BelowR.refl _)
      (StV.atV (.const _ (.const _ .nil)))
      ⟨?o41x0, ?o41x1, trivial⟩ ?_
    case o41x0 =>
      exact held_run free_wide rfl (by rfl) BelowR.refl fun xH w' kH hR => ⟨_, run_fldO rfl (pO (by kernel_rfl) rfl) (by kernel_rfl), rfl⟩
    case o41x1 =>
      exact held_load free_wide rfl BelowR.refl 3 (.tmp 38) rfl fun xH w' kH hR => ⟨_, _, (pT 0 (by kernel_rfl) (by kernel_rfl) (kH 0 (by decide))), ldC OW hR 0 rfl rfl naInt, rfl⟩
    intro xH w' hv hR
    have h0 : xH 0 = _ := hv 0 (by omega)
    have h1 : xH 1 = _ := hv 1 (by omega)
    simp only [List.take_succ_cons, List.take_zero, List.drop_succ_cons, List.drop_zero, putsH, Act.put, List.setIfInBounds_toArray, List.set_cons_succ, List.set_cons_zero, h0, h1]
    have OW2 := Lib.hid (OW.out.step hR)
    clear hv hR OW OZ h0 h1
    have OW := OW2
    clear OW2
    obtain ⟨g42, OZ⟩ := own_size OW HB0
    gi_upto_region 14 with fail
    refine wpIn_region_heldL 2 (atD [[], [0]]) (atV [fun vH _ => vH = .bool (k == 3), fun vH _ => vH = .bool (k == 3)]) BelowR (by kernel_rfl) BelowR.trans (BelowR.refl _)
      (StV.atV (.const _ (.const _ .nil)))
      ⟨?o43x0, ?o43x1, trivial⟩ ?_
    case o43x0 =>
      exact held_run free_wide rfl (by rfl) BelowR.refl fun xH w' kH hR => ⟨_, run_binO rfl (pO (by kernel_rfl) rfl) rfl bin_eql, rfl⟩
    case o43x1 =>
      exact held_move free_wide rfl BelowR.refl (.tmp 41) (.inr rfl) fun xH w' kH _ => (pT 0 (by kernel_rfl) (by kernel_rfl) (kH 0 (by decide)))
    intro xH w' hv hR
    have h0 : xH 0 = _ := hv 0 (by omega)
    have h1 : xH 1 = _ := hv 1 (by omega)
    simp only [List.take_succ_cons, List.take_zero, List.drop_succ_cons, List.drop_zero, putsH, Act.put, List.setIfInBounds_toArray, List.set_cons_succ, List.set_cons_zero, h0, h1]
    have OW2 := Lib.hid (OW.out.step hR)
    clear hv hR OW OZ h0 h1
    have OW := OW2
    clear OW2
    obtain ⟨g44, OZ⟩ := own_size OW HB0
    gi_wp2_with (first | (refine own_store 2 3 (.tmp 43) (.const (.int .i64 0)) rfl rfl rfl rfl (.int .i64 0) rfl #[.int .i64 k, .int .i64 p0, .int .i64 p1, .int .i64 p2, .int .i64 0, .int .i64 c, .int .i64 0, .int .i64 v] rfl (Nat.le_of_ble_eq_true rfl) rfl szInt _ rfl OW OZ ?_; clear OW OZ; intro W OW OZ) | (refine own_loadSubV 55 2 0 25 (.tmp 3) rfl rfl rfl rfl rfl [.int .i64 k, .int .i64 p0, .int .i64 p1, .int .i64 p2, .int .i64 0, .int .i64 c, .int .i64 0, .int .i64 v] rfl Try.underlying25 rfl (by kernel_rfl) OW ?_) | (refine own_storeSub 1 0 25 (.tmp 2) (.tmp 55) rfl rfl rfl rfl [.int .i64 k, .int .i64 p0, .int .i64 p1, .int .i64 p2, .int .i64 0, .int .i64 c, .int .i64 0, .int .i64 v] rfl (Nat.le_of_ble_eq_true rfl) rfl (by kernel_rfl) #[.int .i64 k, .int .i64 p0, .int .i64 p1, .int .i64 p2, .int .i64 0, .int .i64 c, .int .i64 0, .int .i64 v] rfl _ rfl OW OZ ?_; clear OW OZ; intro W OW OZ))
    refine leaves_own [] _ (Nat.le_of_eq HB0.out) (by simpa using OW.out) ?_
    intro W' hO
    exact ⟨.agg #[.int .i64 k, .int .i64 p0, .int .i64 p1, .int .i64 p2, .int .i64 0, .int .i64 c, .int .i64 0, .int .i64 v], results_ownRow hO 1 rfl rfl rfl Try.underlying25 rfl (by kernel_rfl), (by simp only [fbare_1, fbare_2, fbare_3, fbare_4, fbare_5, fbare_6, fbare_7, hB8, hB22, hB38, cond_true, cond_false]), hO.done HB0⟩
  gi_upto_region 8 with fail
  refine wpIn_region_heldL 2 (atD [[], [0]]) (atV [fun vH _ => vH = .bool (k == 4), fun vH _ => vH = .bool (k == 4)]) BelowR (by kernel_rfl) BelowR.trans (BelowR.refl _)
    (StV.atV (.const _ (.const _ .nil)))
    ⟨?o45x0, ?o45x1, trivial⟩ ?_
  case o45x0 =>
    exact held_run free_wide rfl (by rfl) BelowR.refl fun xH w' kH hR => ⟨_, run_binO rfl (pO (by kernel_rfl) rfl) rfl bin_eql, rfl⟩
  case o45x1 =>
    exact held_move free_wide rfl BelowR.refl (.tmp 26) (.inr rfl) fun xH w' kH _ => (pT 0 (by kernel_rfl) (by kernel_rfl) (kH 0 (by decide)))
  intro xH w' hv hR
  have h0 : xH 0 = _ := hv 0 (by omega)
  have h1 : xH 1 = _ := hv 1 (by omega)
  simp only [List.take_succ_cons, List.take_zero, List.drop_succ_cons, List.drop_zero, putsH, Act.put, List.setIfInBounds_toArray, List.set_cons_succ, List.set_cons_zero, h0, h1]
  have OW2 := Lib.hid (OW.out.step hR)
  clear hv hR OW OZ h0 h1
  have OW := OW2
  clear OW2
  obtain ⟨g46, OZ⟩ := own_size OW HB0
  cases hB47 : (k == 4)
  case true =>
    gi_upto_region 10 with fail
    refine wpIn_region_held 8 (atD [[], [0], [], [2], [], [1, 4], [], [3, 6]]) (atV [fun vH _ => vH = .pointer (some ⟨b0, 5, none⟩), fun vH _ => vH = .int .i64 c, fun vH _ => vH = .pointer (some ⟨b0, 7, none⟩), fun vH _ => vH = .int .i64 v, fun vH _ => vH = .pointer (some ⟨g2, 5, none⟩), fun _ w' => CellIs g2 5 (.int .i64 c) w', fun vH _ => vH = .pointer (some ⟨g2, 7, none⟩), fun _ w' => CellIs g2 7 (.int .i64 v) w']) (StR g2 [(5, .int .i64 c), (7, .int .i64 v)]) (by kernel_rfl) (by kernel_rfl) StR.trans (StR.drew _)
      (StV.atV (.const _ (.const _ (.const _ (.const _ (.const _ (.cons (fun v x y h k => StR.keeps (by simp) h k) (.const _ (.cons (fun v x y h k => StR.keeps (by simp) h k) .nil)))))))))
      ⟨?o48x0, ?o48x1, ?o48x2, ?o48x3, ?o48x4, ?o48x5, ?o48x6, ?o48x7, trivial⟩ ?_
    case o48x0 =>
      exact held_run free_wide rfl (by rfl) StR.refl fun xH w' kH hR => ⟨_, run_fldO rfl (pO (by kernel_rfl) rfl) (by kernel_rfl), rfl⟩
    case o48x1 =>
      exact held_load free_wide rfl StR.refl 3 (.tmp 28) rfl fun xH w' kH hR => ⟨_, _, (pT 0 (by kernel_rfl) (by kernel_rfl) (kH 0 (by decide))), run_loadVar_cell (naInt w') (Blk.cell (StR.get OW.out (k := 0) rfl (Own.apart OW.out (j := 0) (k := 2) rfl rfl (by decide)) hR) 5), rfl⟩
    case o48x2 =>
      exact held_run free_wide rfl (by rfl) StR.refl fun xH w' kH hR => ⟨_, run_fldO rfl (pO (by kernel_rfl) rfl) (by kernel_rfl), rfl⟩
    case o48x3 =>
      exact held_load free_wide rfl StR.refl 3 (.tmp 30) rfl fun xH w' kH hR => ⟨_, _, (pT 2 (by kernel_rfl) (by kernel_rfl) (kH 2 (by decide))), run_loadVar_cell (naInt w') (Blk.cell (StR.get OW.out (k := 0) rfl (Own.apart OW.out (j := 0) (k := 2) rfl rfl (by decide)) hR) 7), rfl⟩
    case o48x4 =>
      exact held_run free_wide rfl (by rfl) StR.refl fun xH w' kH hR => ⟨_, run_fldO rfl (pO (by kernel_rfl) rfl) (by kernel_rfl), rfl⟩
    case o48x5 =>
      exact held_store free_wide rfl 3 (.tmp 32) (.tmp 29) rfl 5 (.int .i64 c) rfl szInt (by simp) (fun w' h => h) fun xH w' kH hR => ⟨(pT 4 (by kernel_rfl) (by kernel_rfl) (kH 4 (by decide))), (pT 1 (by kernel_rfl) (by kernel_rfl) (kH 1 (by decide))), _, _, OW.out.get (k := 2) rfl, Nat.le_of_ble_eq_true rfl⟩
    case o48x6 =>
      exact held_run free_wide rfl (by rfl) StR.refl fun xH w' kH hR => ⟨_, run_fldO rfl (pO (by kernel_rfl) rfl) (by kernel_rfl), rfl⟩
    case o48x7 =>
      exact held_store free_wide rfl 3 (.tmp 33) (.tmp 31) rfl 7 (.int .i64 v) rfl szInt (by simp) (fun w' h => h) fun xH w' kH hR => ⟨(pT 6 (by kernel_rfl) (by kernel_rfl) (kH 6 (by decide))), (pT 3 (by kernel_rfl) (by kernel_rfl) (kH 3 (by decide))), _, _, OW.out.get (k := 2) rfl, Nat.le_of_ble_eq_true rfl⟩
    intro xH w' hv hR
    have h0 : xH 0 = _ := hv 0 (by omega)
    have h1 : xH 1 = _ := hv 1 (by omega)
    have h2 : xH 2 = _ := hv 2 (by omega)
    have h3 : xH 3 = _ := hv 3 (by omega)
    have h4 : xH 4 = _ := hv 4 (by omega)
    have hs5 : (fun _ w' => CellIs g2 5 (.int .i64 c) w') (xH 5) w' := hv 5 (by omega)
    have h6 : xH 6 = _ := hv 6 (by omega)
    have hs7 : (fun _ w' => CellIs g2 7 (.int .i64 v) w') (xH 7) w' := hv 7 (by omega)
    simp only [List.take_succ_cons, List.take_zero, List.drop_succ_cons, List.drop_zero, putsH, Act.put, List.setIfInBounds_toArray, List.set_cons_succ, List.set_cons_zero, h0, h1, h2, h3, h4, h6]
    have HV : ∀ p ∈ [(5, .int .i64 c), (7, .int .i64 v)], CellIs g2 p.1 p.2 w' := by
      intro p hp
      simp only [List.mem_cons, List.not_mem_nil, or_false] at hp
      rcases hp with rfl | rfl
      · exact hs5
      · exact hs7
    have OW2 := Lib.hid (Own.stored OW.out (k := 2) rfl hR HV #[.int .i64 k, .int .i64 p0, .int .i64 p1, .int .i64 p2, .int .i64 p3, .int .i64 c, .int .i64 0, .int .i64 v] rfl fun i hi => by
      match i, hi with
      | 0, _ => exact .inr ⟨by simp, rfl⟩
      | 1, _ => exact .inr ⟨by simp, rfl⟩
      | 2, _ => exact .inr ⟨by simp, rfl⟩
      | 3, _ => exact .inr ⟨by simp, rfl⟩
      | 4, _ => exact .inr ⟨by simp, rfl⟩
      | 5, _ => exact .inl ⟨_, by simp, rfl⟩
      | 6, _ => exact .inr ⟨by simp, rfl⟩
      | 7, _ => exact .inl ⟨_, by simp, rfl⟩
      | i + 8, hi => exact absurd (show i + 8 < 8 from hi) (by omega))
    clear HV hs5 hs7
    skip
    clear hv hR OW OZ h0 h1 h2 h3 h4 h6
    have OW := OW2
    clear OW2
    obtain ⟨g49, OZ⟩ := own_size OW HB0
    gi_upto_region 13 with fail
    refine wpIn_region_heldL 2 (atD [[], [0]]) (atV [fun vH _ => vH = .pointer (some ⟨b0, 0, none⟩), fun vH _ => vH = .int .i64 k]) BelowR (by kernel_rfl) BelowR.trans (BelowR.refl _)
      (StV.atV (.const _ (.const _ .nil)))
      ⟨?o50x0, ?o50x1, trivial⟩ ?_
    case o50x0 =>
      exact held_run free_wide rfl (by rfl) BelowR.refl fun xH w' kH hR => ⟨_, run_fldO rfl (pO (by kernel_rfl) rfl) (by kernel_rfl), rfl⟩
    case o50x1 =>
      exact held_load free_wide rfl BelowR.refl 3 (.tmp 38) rfl fun xH w' kH hR => ⟨_, _, (pT 0 (by kernel_rfl) (by kernel_rfl) (kH 0 (by decide))), ldC OW hR 0 rfl rfl naInt, rfl⟩
    intro xH w' hv hR
    have h0 : xH 0 = _ := hv 0 (by omega)
    have h1 : xH 1 = _ := hv 1 (by omega)
    simp only [List.take_succ_cons, List.take_zero, List.drop_succ_cons, List.drop_zero, putsH, Act.put, List.setIfInBounds_toArray, List.set_cons_succ, List.set_cons_zero, h0, h1]
    have OW2 := Lib.hid (OW.out.step hR)
    clear hv hR OW OZ h0 h1
    have OW := OW2
    clear OW2
    obtain ⟨g51, OZ⟩ := own_size OW HB0
    gi_upto_region 14 with fail
    refine wpIn_region_heldL 2 (atD [[], [0]]) (atV [fun vH _ => vH = .bool (k == 3), fun vH _ => vH = .bool (k == 3)]) BelowR (by kernel_rfl) BelowR.trans (BelowR.refl _)
      (StV.atV (.const _ (.const _ .nil)))
      ⟨?o52x0, ?o52x1, trivial⟩ ?_
    case o52x0 =>
      exact held_run free_wide rfl (by rfl) BelowR.refl fun xH w' kH hR => ⟨_, run_binO rfl (pO (by kernel_rfl) rfl) rfl bin_eql, rfl⟩
    case o52x1 =>
      exact held_move free_wide rfl BelowR.refl (.tmp 41) (.inr rfl) fun xH w' kH _ => (pT 0 (by kernel_rfl) (by kernel_rfl) (kH 0 (by decide)))
    intro xH w' hv hR
    have h0 : xH 0 = _ := hv 0 (by omega)
    have h1 : xH 1 = _ := hv 1 (by omega)
    simp only [List.take_succ_cons, List.take_zero, List.drop_succ_cons, List.drop_zero, putsH, Act.put, List.setIfInBounds_toArray, List.set_cons_succ, List.set_cons_zero, h0, h1]
    have OW2 := Lib.hid (OW.out.step hR)
    clear hv hR OW OZ h0 h1
    have OW := OW2
    clear OW2
    obtain ⟨g53, OZ⟩ := own_size OW HB0
    gi_upto_region 16 with fail
    refine wpIn_region_heldL 2 (atD [[], [0]]) (atV [fun vH _ => vH = .bool (k == 4), fun vH _ => vH = .bool (k == 4)]) BelowR (by kernel_rfl) BelowR.trans (BelowR.refl _)
      (StV.atV (.const _ (.const _ .nil)))
      ⟨?o54x0, ?o54x1, trivial⟩ ?_
    case o54x0 =>
      exact held_run free_wide rfl (by rfl) BelowR.refl fun xH w' kH hR => ⟨_, run_binO rfl (pO (by kernel_rfl) rfl) rfl bin_eql, rfl⟩
    case o54x1 =>
      exact held_move free_wide rfl BelowR.refl (.tmp 45) (.inr rfl) fun xH w' kH _ => (pT 0 (by kernel_rfl) (by kernel_rfl) (kH 0 (by decide)))
    intro xH w' hv hR
    have h0 : xH 0 = _ := hv 0 (by omega)
    have h1 : xH 1 = _ := hv 1 (by omega)
    simp only [List.take_succ_cons, List.take_zero, List.drop_succ_cons, List.drop_zero, putsH, Act.put, List.setIfInBounds_toArray, List.set_cons_succ, List.set_cons_zero, h0, h1]
    have OW2 := Lib.hid (OW.out.step hR)
    clear hv hR OW OZ h0 h1
    have OW := OW2
    clear OW2
    obtain ⟨g55, OZ⟩ := own_size OW HB0
    gi_wp2_with (first | (refine own_store 2 3 (.tmp 47) (.const (.int .i64 0)) rfl rfl rfl rfl (.int .i64 0) rfl #[.int .i64 k, .int .i64 p0, .int .i64 p1, .int .i64 0, .int .i64 p3, .int .i64 c, .int .i64 0, .int .i64 v] rfl (Nat.le_of_ble_eq_true rfl) rfl szInt _ rfl OW OZ ?_; clear OW OZ; intro W OW OZ) | (refine own_loadSubV 55 2 0 25 (.tmp 3) rfl rfl rfl rfl rfl [.int .i64 k, .int .i64 p0, .int .i64 p1, .int .i64 0, .int .i64 p3, .int .i64 c, .int .i64 0, .int .i64 v] rfl Try.underlying25 rfl (by kernel_rfl) OW ?_) | (refine own_storeSub 1 0 25 (.tmp 2) (.tmp 55) rfl rfl rfl rfl [.int .i64 k, .int .i64 p0, .int .i64 p1, .int .i64 0, .int .i64 p3, .int .i64 c, .int .i64 0, .int .i64 v] rfl (Nat.le_of_ble_eq_true rfl) rfl (by kernel_rfl) #[.int .i64 k, .int .i64 p0, .int .i64 p1, .int .i64 0, .int .i64 p3, .int .i64 c, .int .i64 0, .int .i64 v] rfl _ rfl OW OZ ?_; clear OW OZ; intro W OW OZ))
    refine leaves_own [] _ (Nat.le_of_eq HB0.out) (by simpa using OW.out) ?_
    intro W' hO
    exact ⟨.agg #[.int .i64 k, .int .i64 p0, .int .i64 p1, .int .i64 0, .int .i64 p3, .int .i64 c, .int .i64 0, .int .i64 v], results_ownRow hO 1 rfl rfl rfl Try.underlying25 rfl (by kernel_rfl), (by simp only [fbare_1, fbare_2, fbare_3, fbare_4, fbare_5, fbare_6, fbare_7, hB8, hB22, hB38, hB47, cond_true, cond_false]), hO.done HB0⟩
  gi_upto_region 9 with fail
  refine wpIn_region_heldL 2 (atD [[], [0]]) (atV [fun vH _ => vH = .bool (k == 5), fun vH _ => vH = .bool (k == 5)]) BelowR (by kernel_rfl) BelowR.trans (BelowR.refl _)
    (StV.atV (.const _ (.const _ .nil)))
    ⟨?o56x0, ?o56x1, trivial⟩ ?_
  case o56x0 =>
    exact held_run free_wide rfl (by rfl) BelowR.refl fun xH w' kH hR => ⟨_, run_binO rfl (pO (by kernel_rfl) rfl) rfl bin_eql, rfl⟩
  case o56x1 =>
    exact held_move free_wide rfl BelowR.refl (.tmp 27) (.inr rfl) fun xH w' kH _ => (pT 0 (by kernel_rfl) (by kernel_rfl) (kH 0 (by decide)))
  intro xH w' hv hR
  have h0 : xH 0 = _ := hv 0 (by omega)
  have h1 : xH 1 = _ := hv 1 (by omega)
  simp only [List.take_succ_cons, List.take_zero, List.drop_succ_cons, List.drop_zero, putsH, Act.put, List.setIfInBounds_toArray, List.set_cons_succ, List.set_cons_zero, h0, h1]
  have OW2 := Lib.hid (OW.out.step hR)
  clear hv hR OW OZ h0 h1
  have OW := OW2
  clear OW2
  obtain ⟨g57, OZ⟩ := own_size OW HB0
  cases hB58 : (k == 5)
  case true =>
    gi_upto_region 10 with fail
    refine wpIn_region_held 8 (atD [[], [0], [], [2], [], [1, 4], [], [3, 6]]) (atV [fun vH _ => vH = .pointer (some ⟨b0, 5, none⟩), fun vH _ => vH = .int .i64 c, fun vH _ => vH = .pointer (some ⟨b0, 7, none⟩), fun vH _ => vH = .int .i64 v, fun vH _ => vH = .pointer (some ⟨g2, 5, none⟩), fun _ w' => CellIs g2 5 (.int .i64 c) w', fun vH _ => vH = .pointer (some ⟨g2, 7, none⟩), fun _ w' => CellIs g2 7 (.int .i64 v) w']) (StR g2 [(5, .int .i64 c), (7, .int .i64 v)]) (by kernel_rfl) (by kernel_rfl) StR.trans (StR.drew _)
      (StV.atV (.const _ (.const _ (.const _ (.const _ (.const _ (.cons (fun v x y h k => StR.keeps (by simp) h k) (.const _ (.cons (fun v x y h k => StR.keeps (by simp) h k) .nil)))))))))
      ⟨?o59x0, ?o59x1, ?o59x2, ?o59x3, ?o59x4, ?o59x5, ?o59x6, ?o59x7, trivial⟩ ?_
    case o59x0 =>
      exact held_run free_wide rfl (by rfl) StR.refl fun xH w' kH hR => ⟨_, run_fldO rfl (pO (by kernel_rfl) rfl) (by kernel_rfl), rfl⟩
    case o59x1 =>
      exact held_load free_wide rfl StR.refl 3 (.tmp 28) rfl fun xH w' kH hR => ⟨_, _, (pT 0 (by kernel_rfl) (by kernel_rfl) (kH 0 (by decide))), run_loadVar_cell (naInt w') (Blk.cell (StR.get OW.out (k := 0) rfl (Own.apart OW.out (j := 0) (k := 2) rfl rfl (by decide)) hR) 5), rfl⟩
    case o59x2 =>
      exact held_run free_wide rfl (by rfl) StR.refl fun xH w' kH hR => ⟨_, run_fldO rfl (pO (by kernel_rfl) rfl) (by kernel_rfl), rfl⟩
    case o59x3 =>
      exact held_load free_wide rfl StR.refl 3 (.tmp 30) rfl fun xH w' kH hR => ⟨_, _, (pT 2 (by kernel_rfl) (by kernel_rfl) (kH 2 (by decide))), run_loadVar_cell (naInt w') (Blk.cell (StR.get OW.out (k := 0) rfl (Own.apart OW.out (j := 0) (k := 2) rfl rfl (by decide)) hR) 7), rfl⟩
    case o59x4 =>
      exact held_run free_wide rfl (by rfl) StR.refl fun xH w' kH hR => ⟨_, run_fldO rfl (pO (by kernel_rfl) rfl) (by kernel_rfl), rfl⟩
    case o59x5 =>
      exact held_store free_wide rfl 3 (.tmp 32) (.tmp 29) rfl 5 (.int .i64 c) rfl szInt (by simp) (fun w' h => h) fun xH w' kH hR => ⟨(pT 4 (by kernel_rfl) (by kernel_rfl) (kH 4 (by decide))), (pT 1 (by kernel_rfl) (by kernel_rfl) (kH 1 (by decide))), _, _, OW.out.get (k := 2) rfl, Nat.le_of_ble_eq_true rfl⟩
    case o59x6 =>
      exact held_run free_wide rfl (by rfl) StR.refl fun xH w' kH hR => ⟨_, run_fldO rfl (pO (by kernel_rfl) rfl) (by kernel_rfl), rfl⟩
    case o59x7 =>
      exact held_store free_wide rfl 3 (.tmp 33) (.tmp 31) rfl 7 (.int .i64 v) rfl szInt (by simp) (fun w' h => h) fun xH w' kH hR => ⟨(pT 6 (by kernel_rfl) (by kernel_rfl) (kH 6 (by decide))), (pT 3 (by kernel_rfl) (by kernel_rfl) (kH 3 (by decide))), _, _, OW.out.get (k := 2) rfl, Nat.le_of_ble_eq_true rfl⟩
    intro xH w' hv hR
    have h0 : xH 0 = _ := hv 0 (by omega)
    have h1 : xH 1 = _ := hv 1 (by omega)
    have h2 : xH 2 = _ := hv 2 (by omega)
    have h3 : xH 3 = _ := hv 3 (by omega)
    have h4 : xH 4 = _ := hv 4 (by omega)
    have hs5 : (fun _ w' => CellIs g2 5 (.int .i64 c) w') (xH 5) w' := hv 5 (by omega)
    have h6 : xH 6 = _ := hv 6 (by omega)
    have hs7 : (fun _ w' => CellIs g2 7 (.int .i64 v) w') (xH 7) w' := hv 7 (by omega)
    simp only [List.take_succ_cons, List.take_zero, List.drop_succ_cons, List.drop_zero, putsH, Act.put, List.setIfInBounds_toArray, List.set_cons_succ, List.set_cons_zero, h0, h1, h2, h3, h4, h6]
    have HV : ∀ p ∈ [(5, .int .i64 c), (7, .int .i64 v)], CellIs g2 p.1 p.2 w' := by
      intro p hp
      simp only [List.mem_cons, List.not_mem_nil, or_false] at hp
      rcases hp with rfl | rfl
      · exact hs5
      · exact hs7
    have OW2 := Lib.hid (Own.stored OW.out (k := 2) rfl hR HV #[.int .i64 k, .int .i64 p0, .int .i64 p1, .int .i64 p2, .int .i64 p3, .int .i64 c, .int .i64 0, .int .i64 v] rfl fun i hi => by
      match i, hi with
      | 0, _ => exact .inr ⟨by simp, rfl⟩
      | 1, _ => exact .inr ⟨by simp, rfl⟩
      | 2, _ => exact .inr ⟨by simp, rfl⟩
      | 3, _ => exact .inr ⟨by simp, rfl⟩
      | 4, _ => exact .inr ⟨by simp, rfl⟩
      | 5, _ => exact .inl ⟨_, by simp, rfl⟩
      | 6, _ => exact .inr ⟨by simp, rfl⟩
      | 7, _ => exact .inl ⟨_, by simp, rfl⟩
      | i + 8, hi => exact absurd (show i + 8 < 8 from hi) (by omega))
    clear HV hs5 hs7
    skip
    clear hv hR OW OZ h0 h1 h2 h3 h4 h6
    have OW := OW2
    clear OW2
    obtain ⟨g60, OZ⟩ := own_size OW HB0
    gi_upto_region 13 with fail
    refine wpIn_region_heldL 2 (atD [[], [0]]) (atV [fun vH _ => vH = .pointer (some ⟨b0, 0, none⟩), fun vH _ => vH = .int .i64 k]) BelowR (by kernel_rfl) BelowR.trans (BelowR.refl _)
      (StV.atV (.const _ (.const _ .nil)))
      ⟨?o61x0, ?o61x1, trivial⟩ ?_
    case o61x0 =>
      exact held_run free_wide rfl (by rfl) BelowR.refl fun xH w' kH hR => ⟨_, run_fldO rfl (pO (by kernel_rfl) rfl) (by kernel_rfl), rfl⟩
    case o61x1 =>
      exact held_load free_wide rfl BelowR.refl 3 (.tmp 38) rfl fun xH w' kH hR => ⟨_, _, (pT 0 (by kernel_rfl) (by kernel_rfl) (kH 0 (by decide))), ldC OW hR 0 rfl rfl naInt, rfl⟩
    intro xH w' hv hR
    have h0 : xH 0 = _ := hv 0 (by omega)
    have h1 : xH 1 = _ := hv 1 (by omega)
    simp only [List.take_succ_cons, List.take_zero, List.drop_succ_cons, List.drop_zero, putsH, Act.put, List.setIfInBounds_toArray, List.set_cons_succ, List.set_cons_zero, h0, h1]
    have OW2 := Lib.hid (OW.out.step hR)
    clear hv hR OW OZ h0 h1
    have OW := OW2
    clear OW2
    obtain ⟨g62, OZ⟩ := own_size OW HB0
    gi_upto_region 14 with fail
    refine wpIn_region_heldL 2 (atD [[], [0]]) (atV [fun vH _ => vH = .bool (k == 3), fun vH _ => vH = .bool (k == 3)]) BelowR (by kernel_rfl) BelowR.trans (BelowR.refl _)
      (StV.atV (.const _ (.const _ .nil)))
      ⟨?o63x0, ?o63x1, trivial⟩ ?_
    case o63x0 =>
      exact held_run free_wide rfl (by rfl) BelowR.refl fun xH w' kH hR => ⟨_, run_binO rfl (pO (by kernel_rfl) rfl) rfl bin_eql, rfl⟩
    case o63x1 =>
      exact held_move free_wide rfl BelowR.refl (.tmp 41) (.inr rfl) fun xH w' kH _ => (pT 0 (by kernel_rfl) (by kernel_rfl) (kH 0 (by decide)))
    intro xH w' hv hR
    have h0 : xH 0 = _ := hv 0 (by omega)
    have h1 : xH 1 = _ := hv 1 (by omega)
    simp only [List.take_succ_cons, List.take_zero, List.drop_succ_cons, List.drop_zero, putsH, Act.put, List.setIfInBounds_toArray, List.set_cons_succ, List.set_cons_zero, h0, h1]
    have OW2 := Lib.hid (OW.out.step hR)
    clear hv hR OW OZ h0 h1
    have OW := OW2
    clear OW2
    obtain ⟨g64, OZ⟩ := own_size OW HB0
    gi_upto_region 16 with fail
    refine wpIn_region_heldL 2 (atD [[], [0]]) (atV [fun vH _ => vH = .bool (k == 4), fun vH _ => vH = .bool (k == 4)]) BelowR (by kernel_rfl) BelowR.trans (BelowR.refl _)
      (StV.atV (.const _ (.const _ .nil)))
      ⟨?o65x0, ?o65x1, trivial⟩ ?_
    case o65x0 =>
      exact held_run free_wide rfl (by rfl) BelowR.refl fun xH w' kH hR => ⟨_, run_binO rfl (pO (by kernel_rfl) rfl) rfl bin_eql, rfl⟩
    case o65x1 =>
      exact held_move free_wide rfl BelowR.refl (.tmp 45) (.inr rfl) fun xH w' kH _ => (pT 0 (by kernel_rfl) (by kernel_rfl) (kH 0 (by decide)))
    intro xH w' hv hR
    have h0 : xH 0 = _ := hv 0 (by omega)
    have h1 : xH 1 = _ := hv 1 (by omega)
    simp only [List.take_succ_cons, List.take_zero, List.drop_succ_cons, List.drop_zero, putsH, Act.put, List.setIfInBounds_toArray, List.set_cons_succ, List.set_cons_zero, h0, h1]
    have OW2 := Lib.hid (OW.out.step hR)
    clear hv hR OW OZ h0 h1
    have OW := OW2
    clear OW2
    obtain ⟨g66, OZ⟩ := own_size OW HB0
    gi_upto_region 18 with fail
    refine wpIn_region_heldL 2 (atD [[], [0]]) (atV [fun vH _ => vH = .bool (k == 5), fun vH _ => vH = .bool (k == 5)]) BelowR (by kernel_rfl) BelowR.trans (BelowR.refl _)
      (StV.atV (.const _ (.const _ .nil)))
      ⟨?o67x0, ?o67x1, trivial⟩ ?_
    case o67x0 =>
      exact held_run free_wide rfl (by rfl) BelowR.refl fun xH w' kH hR => ⟨_, run_binO rfl (pO (by kernel_rfl) rfl) rfl bin_eql, rfl⟩
    case o67x1 =>
      exact held_move free_wide rfl BelowR.refl (.tmp 49) (.inr rfl) fun xH w' kH _ => (pT 0 (by kernel_rfl) (by kernel_rfl) (kH 0 (by decide)))
    intro xH w' hv hR
    have h0 : xH 0 = _ := hv 0 (by omega)
    have h1 : xH 1 = _ := hv 1 (by omega)
    simp only [List.take_succ_cons, List.take_zero, List.drop_succ_cons, List.drop_zero, putsH, Act.put, List.setIfInBounds_toArray, List.set_cons_succ, List.set_cons_zero, h0, h1]
    have OW2 := Lib.hid (OW.out.step hR)
    clear hv hR OW OZ h0 h1
    have OW := OW2
    clear OW2
    obtain ⟨g68, OZ⟩ := own_size OW HB0
    gi_wp2_with (first | (refine own_loadV 52 0 3 (.tmp 51) rfl rfl rfl rfl rfl (.int .i64 p0) rfl naInt OW ?_) | (refine own_valV 53 rfl rfl rfl (.agg #[.int .i64 p0, .int .i64 0, .int .i64 0, .int .i64 0]) (run_buildO rfl (vs := #[(0, .int .i64 p0)]) rfl _ (by kernel_rfl)) ?_) | (refine own_storeSub 2 1 23 (.tmp 54) (.tmp 53) rfl rfl rfl rfl [.int .i64 p0, .int .i64 0, .int .i64 0, .int .i64 0] rfl (Nat.le_of_ble_eq_true rfl) rfl (by kernel_rfl) #[.int .i64 k, .int .i64 p0, .int .i64 0, .int .i64 0, .int .i64 0, .int .i64 c, .int .i64 0, .int .i64 v] rfl _ rfl OW OZ ?_; clear OW OZ; intro W OW OZ) | (refine own_loadSubV 55 2 0 25 (.tmp 3) rfl rfl rfl rfl rfl [.int .i64 k, .int .i64 p0, .int .i64 0, .int .i64 0, .int .i64 0, .int .i64 c, .int .i64 0, .int .i64 v] rfl Try.underlying25 rfl (by kernel_rfl) OW ?_) | (refine own_storeSub 1 0 25 (.tmp 2) (.tmp 55) rfl rfl rfl rfl [.int .i64 k, .int .i64 p0, .int .i64 0, .int .i64 0, .int .i64 0, .int .i64 c, .int .i64 0, .int .i64 v] rfl (Nat.le_of_ble_eq_true rfl) rfl (by kernel_rfl) #[.int .i64 k, .int .i64 p0, .int .i64 0, .int .i64 0, .int .i64 0, .int .i64 c, .int .i64 0, .int .i64 v] rfl _ rfl OW OZ ?_; clear OW OZ; intro W OW OZ))
    refine leaves_own [] _ (Nat.le_of_eq HB0.out) (by simpa using OW.out) ?_
    intro W' hO
    exact ⟨.agg #[.int .i64 k, .int .i64 p0, .int .i64 0, .int .i64 0, .int .i64 0, .int .i64 c, .int .i64 0, .int .i64 v], results_ownRow hO 1 rfl rfl rfl Try.underlying25 rfl (by kernel_rfl), (by simp only [fbare_1, fbare_2, fbare_3, fbare_4, fbare_5, fbare_6, fbare_7, hB8, hB22, hB38, hB47, hB58, cond_true, cond_false]), hO.done HB0⟩
  gi_upto_region 11 with fail
  refine wpIn_region_heldL 2 (atD [[], [0]]) (atV [fun vH _ => vH = .bool (k == 7), fun vH _ => vH = .bool (k == 7)]) BelowR (by kernel_rfl) BelowR.trans (BelowR.refl _)
    (StV.atV (.const _ (.const _ .nil)))
    ⟨?o69x0, ?o69x1, trivial⟩ ?_
  case o69x0 =>
    exact held_run free_wide rfl (by rfl) BelowR.refl fun xH w' kH hR => ⟨_, run_binO rfl (pO (by kernel_rfl) rfl) rfl bin_eql, rfl⟩
  case o69x1 =>
    exact held_move free_wide rfl BelowR.refl (.tmp 35) (.inr rfl) fun xH w' kH _ => (pT 0 (by kernel_rfl) (by kernel_rfl) (kH 0 (by decide)))
  intro xH w' hv hR
  have h0 : xH 0 = _ := hv 0 (by omega)
  have h1 : xH 1 = _ := hv 1 (by omega)
  simp only [List.take_succ_cons, List.take_zero, List.drop_succ_cons, List.drop_zero, putsH, Act.put, List.setIfInBounds_toArray, List.set_cons_succ, List.set_cons_zero, h0, h1]
  have OW2 := Lib.hid (OW.out.step hR)
  clear hv hR OW OZ h0 h1
  have OW := OW2
  clear OW2
  obtain ⟨g70, OZ⟩ := own_size OW HB0
  cases hB71 : (k == 7)
  case true =>
    gi_upto_region 13 with (first | (refine own_valV 36 rfl rfl rfl (.agg #[.int .i64 0, .int .i64 0, .int .i64 0, .int .i64 0]) (run_buildO rfl (vs := #[]) rfl _ (by kernel_rfl)) ?_) | (refine own_storeSub 2 1 23 (.tmp 37) (.tmp 36) rfl rfl rfl rfl [.int .i64 0, .int .i64 0, .int .i64 0, .int .i64 0] rfl (Nat.le_of_ble_eq_true rfl) rfl (by kernel_rfl) #[.int .i64 k, .int .i64 0, .int .i64 0, .int .i64 0, .int .i64 0, .int .i64 0, .int .i64 0, .int .i64 0] rfl _ rfl OW OZ ?_; clear OW OZ; intro W OW OZ))
    refine wpIn_region_heldL 2 (atD [[], [0]]) (atV [fun vH _ => vH = .pointer (some ⟨b0, 0, none⟩), fun vH _ => vH = .int .i64 k]) BelowR (by kernel_rfl) BelowR.trans (BelowR.refl _)
      (StV.atV (.const _ (.const _ .nil)))
      ⟨?o72x0, ?o72x1, trivial⟩ ?_
    case o72x0 =>
      exact held_run free_wide rfl (by rfl) BelowR.refl fun xH w' kH hR => ⟨_, run_fldO rfl (pO (by kernel_rfl) rfl) (by kernel_rfl), rfl⟩
    case o72x1 =>
      exact held_load free_wide rfl BelowR.refl 3 (.tmp 38) rfl fun xH w' kH hR => ⟨_, _, (pT 0 (by kernel_rfl) (by kernel_rfl) (kH 0 (by decide))), ldC OW hR 0 rfl rfl naInt, rfl⟩
    intro xH w' hv hR
    have h0 : xH 0 = _ := hv 0 (by omega)
    have h1 : xH 1 = _ := hv 1 (by omega)
    simp only [List.take_succ_cons, List.take_zero, List.drop_succ_cons, List.drop_zero, putsH, Act.put, List.setIfInBounds_toArray, List.set_cons_succ, List.set_cons_zero, h0, h1]
    have OW2 := Lib.hid (OW.out.step hR)
    clear hv hR OW OZ h0 h1
    have OW := OW2
    clear OW2
    obtain ⟨g73, OZ⟩ := own_size OW HB0
    gi_upto_region 14 with fail
    refine wpIn_region_heldL 2 (atD [[], [0]]) (atV [fun vH _ => vH = .bool (k == 3), fun vH _ => vH = .bool (k == 3)]) BelowR (by kernel_rfl) BelowR.trans (BelowR.refl _)
      (StV.atV (.const _ (.const _ .nil)))
      ⟨?o74x0, ?o74x1, trivial⟩ ?_
    case o74x0 =>
      exact held_run free_wide rfl (by rfl) BelowR.refl fun xH w' kH hR => ⟨_, run_binO rfl (pO (by kernel_rfl) rfl) rfl bin_eql, rfl⟩
    case o74x1 =>
      exact held_move free_wide rfl BelowR.refl (.tmp 41) (.inr rfl) fun xH w' kH _ => (pT 0 (by kernel_rfl) (by kernel_rfl) (kH 0 (by decide)))
    intro xH w' hv hR
    have h0 : xH 0 = _ := hv 0 (by omega)
    have h1 : xH 1 = _ := hv 1 (by omega)
    simp only [List.take_succ_cons, List.take_zero, List.drop_succ_cons, List.drop_zero, putsH, Act.put, List.setIfInBounds_toArray, List.set_cons_succ, List.set_cons_zero, h0, h1]
    have OW2 := Lib.hid (OW.out.step hR)
    clear hv hR OW OZ h0 h1
    have OW := OW2
    clear OW2
    obtain ⟨g75, OZ⟩ := own_size OW HB0
    gi_upto_region 16 with fail
    refine wpIn_region_heldL 2 (atD [[], [0]]) (atV [fun vH _ => vH = .bool (k == 4), fun vH _ => vH = .bool (k == 4)]) BelowR (by kernel_rfl) BelowR.trans (BelowR.refl _)
      (StV.atV (.const _ (.const _ .nil)))
      ⟨?o76x0, ?o76x1, trivial⟩ ?_
    case o76x0 =>
      exact held_run free_wide rfl (by rfl) BelowR.refl fun xH w' kH hR => ⟨_, run_binO rfl (pO (by kernel_rfl) rfl) rfl bin_eql, rfl⟩
    case o76x1 =>
      exact held_move free_wide rfl BelowR.refl (.tmp 45) (.inr rfl) fun xH w' kH _ => (pT 0 (by kernel_rfl) (by kernel_rfl) (kH 0 (by decide)))
    intro xH w' hv hR
    have h0 : xH 0 = _ := hv 0 (by omega)
    have h1 : xH 1 = _ := hv 1 (by omega)
    simp only [List.take_succ_cons, List.take_zero, List.drop_succ_cons, List.drop_zero, putsH, Act.put, List.setIfInBounds_toArray, List.set_cons_succ, List.set_cons_zero, h0, h1]
    have OW2 := Lib.hid (OW.out.step hR)
    clear hv hR OW OZ h0 h1
    have OW := OW2
    clear OW2
    obtain ⟨g77, OZ⟩ := own_size OW HB0
    gi_upto_region 18 with fail
    refine wpIn_region_heldL 2 (atD [[], [0]]) (atV [fun vH _ => vH = .bool (k == 5), fun vH _ => vH = .bool (k == 5)]) BelowR (by kernel_rfl) BelowR.trans (BelowR.refl _)
      (StV.atV (.const _ (.const _ .nil)))
      ⟨?o78x0, ?o78x1, trivial⟩ ?_
    case o78x0 =>
      exact held_run free_wide rfl (by rfl) BelowR.refl fun xH w' kH hR => ⟨_, run_binO rfl (pO (by kernel_rfl) rfl) rfl bin_eql, rfl⟩
    case o78x1 =>
      exact held_move free_wide rfl BelowR.refl (.tmp 49) (.inr rfl) fun xH w' kH _ => (pT 0 (by kernel_rfl) (by kernel_rfl) (kH 0 (by decide)))
    intro xH w' hv hR
    have h0 : xH 0 = _ := hv 0 (by omega)
    have h1 : xH 1 = _ := hv 1 (by omega)
    simp only [List.take_succ_cons, List.take_zero, List.drop_succ_cons, List.drop_zero, putsH, Act.put, List.setIfInBounds_toArray, List.set_cons_succ, List.set_cons_zero, h0, h1]
    have OW2 := Lib.hid (OW.out.step hR)
    clear hv hR OW OZ h0 h1
    have OW := OW2
    clear OW2
    obtain ⟨g79, OZ⟩ := own_size OW HB0
    gi_wp2_with (first | (refine own_loadSubV 55 2 0 25 (.tmp 3) rfl rfl rfl rfl rfl [.int .i64 k, .int .i64 0, .int .i64 0, .int .i64 0, .int .i64 0, .int .i64 0, .int .i64 0, .int .i64 0] rfl Try.underlying25 rfl (by kernel_rfl) OW ?_) | (refine own_storeSub 1 0 25 (.tmp 2) (.tmp 55) rfl rfl rfl rfl [.int .i64 k, .int .i64 0, .int .i64 0, .int .i64 0, .int .i64 0, .int .i64 0, .int .i64 0, .int .i64 0] rfl (Nat.le_of_ble_eq_true rfl) rfl (by kernel_rfl) #[.int .i64 k, .int .i64 0, .int .i64 0, .int .i64 0, .int .i64 0, .int .i64 0, .int .i64 0, .int .i64 0] rfl _ rfl OW OZ ?_; clear OW OZ; intro W OW OZ))
    refine leaves_own [] _ (Nat.le_of_eq HB0.out) (by simpa using OW.out) ?_
    intro W' hO
    exact ⟨.agg #[.int .i64 k, .int .i64 0, .int .i64 0, .int .i64 0, .int .i64 0, .int .i64 0, .int .i64 0, .int .i64 0], results_ownRow hO 1 rfl rfl rfl Try.underlying25 rfl (by kernel_rfl), (by simp only [fbare_1, fbare_2, fbare_3, fbare_4, fbare_5, fbare_6, fbare_7, hB8, hB22, hB38, hB47, hB58, hB71, cond_true, cond_false]), hO.done HB0⟩
  gi_upto_region 13 with fail
  refine wpIn_region_heldL 2 (atD [[], [0]]) (atV [fun vH _ => vH = .pointer (some ⟨b0, 0, none⟩), fun vH _ => vH = .int .i64 k]) BelowR (by kernel_rfl) BelowR.trans (BelowR.refl _)
    (StV.atV (.const _ (.const _ .nil)))
    ⟨?o80x0, ?o80x1, trivial⟩ ?_
  case o80x0 =>
    exact held_run free_wide rfl (by rfl) BelowR.refl fun xH w' kH hR => ⟨_, run_fldO rfl (pO (by kernel_rfl) rfl) (by kernel_rfl), rfl⟩
  case o80x1 =>
    exact held_load free_wide rfl BelowR.refl 3 (.tmp 38) rfl fun xH w' kH hR => ⟨_, _, (pT 0 (by kernel_rfl) (by kernel_rfl) (kH 0 (by decide))), ldC OW hR 0 rfl rfl naInt, rfl⟩
  intro xH w' hv hR
  have h0 : xH 0 = _ := hv 0 (by omega)
  have h1 : xH 1 = _ := hv 1 (by omega)
  simp only [List.take_succ_cons, List.take_zero, List.drop_succ_cons, List.drop_zero, putsH, Act.put, List.setIfInBounds_toArray, List.set_cons_succ, List.set_cons_zero, h0, h1]
  have OW2 := Lib.hid (OW.out.step hR)
  clear hv hR OW OZ h0 h1
  have OW := OW2
  clear OW2
  obtain ⟨g81, OZ⟩ := own_size OW HB0
  gi_upto_region 14 with fail
  refine wpIn_region_heldL 2 (atD [[], [0]]) (atV [fun vH _ => vH = .bool (k == 3), fun vH _ => vH = .bool (k == 3)]) BelowR (by kernel_rfl) BelowR.trans (BelowR.refl _)
    (StV.atV (.const _ (.const _ .nil)))
    ⟨?o82x0, ?o82x1, trivial⟩ ?_
  case o82x0 =>
    exact held_run free_wide rfl (by rfl) BelowR.refl fun xH w' kH hR => ⟨_, run_binO rfl (pO (by kernel_rfl) rfl) rfl bin_eql, rfl⟩
  case o82x1 =>
    exact held_move free_wide rfl BelowR.refl (.tmp 41) (.inr rfl) fun xH w' kH _ => (pT 0 (by kernel_rfl) (by kernel_rfl) (kH 0 (by decide)))
  intro xH w' hv hR
  have h0 : xH 0 = _ := hv 0 (by omega)
  have h1 : xH 1 = _ := hv 1 (by omega)
  simp only [List.take_succ_cons, List.take_zero, List.drop_succ_cons, List.drop_zero, putsH, Act.put, List.setIfInBounds_toArray, List.set_cons_succ, List.set_cons_zero, h0, h1]
  have OW2 := Lib.hid (OW.out.step hR)
  clear hv hR OW OZ h0 h1
  have OW := OW2
  clear OW2
  obtain ⟨g83, OZ⟩ := own_size OW HB0
  gi_upto_region 16 with fail
  refine wpIn_region_heldL 2 (atD [[], [0]]) (atV [fun vH _ => vH = .bool (k == 4), fun vH _ => vH = .bool (k == 4)]) BelowR (by kernel_rfl) BelowR.trans (BelowR.refl _)
    (StV.atV (.const _ (.const _ .nil)))
    ⟨?o84x0, ?o84x1, trivial⟩ ?_
  case o84x0 =>
    exact held_run free_wide rfl (by rfl) BelowR.refl fun xH w' kH hR => ⟨_, run_binO rfl (pO (by kernel_rfl) rfl) rfl bin_eql, rfl⟩
  case o84x1 =>
    exact held_move free_wide rfl BelowR.refl (.tmp 45) (.inr rfl) fun xH w' kH _ => (pT 0 (by kernel_rfl) (by kernel_rfl) (kH 0 (by decide)))
  intro xH w' hv hR
  have h0 : xH 0 = _ := hv 0 (by omega)
  have h1 : xH 1 = _ := hv 1 (by omega)
  simp only [List.take_succ_cons, List.take_zero, List.drop_succ_cons, List.drop_zero, putsH, Act.put, List.setIfInBounds_toArray, List.set_cons_succ, List.set_cons_zero, h0, h1]
  have OW2 := Lib.hid (OW.out.step hR)
  clear hv hR OW OZ h0 h1
  have OW := OW2
  clear OW2
  obtain ⟨g85, OZ⟩ := own_size OW HB0
  gi_upto_region 18 with fail
  refine wpIn_region_heldL 2 (atD [[], [0]]) (atV [fun vH _ => vH = .bool (k == 5), fun vH _ => vH = .bool (k == 5)]) BelowR (by kernel_rfl) BelowR.trans (BelowR.refl _)
    (StV.atV (.const _ (.const _ .nil)))
    ⟨?o86x0, ?o86x1, trivial⟩ ?_
  case o86x0 =>
    exact held_run free_wide rfl (by rfl) BelowR.refl fun xH w' kH hR => ⟨_, run_binO rfl (pO (by kernel_rfl) rfl) rfl bin_eql, rfl⟩
  case o86x1 =>
    exact held_move free_wide rfl BelowR.refl (.tmp 49) (.inr rfl) fun xH w' kH _ => (pT 0 (by kernel_rfl) (by kernel_rfl) (kH 0 (by decide)))
  intro xH w' hv hR
  have h0 : xH 0 = _ := hv 0 (by omega)
  have h1 : xH 1 = _ := hv 1 (by omega)
  simp only [List.take_succ_cons, List.take_zero, List.drop_succ_cons, List.drop_zero, putsH, Act.put, List.setIfInBounds_toArray, List.set_cons_succ, List.set_cons_zero, h0, h1]
  have OW2 := Lib.hid (OW.out.step hR)
  clear hv hR OW OZ h0 h1
  have OW := OW2
  clear OW2
  obtain ⟨g87, OZ⟩ := own_size OW HB0
  gi_wp2_with (first | (refine own_loadSubV 55 2 0 25 (.tmp 3) rfl rfl rfl rfl rfl [.int .i64 k, .int .i64 p0, .int .i64 p1, .int .i64 p2, .int .i64 p3, .int .i64 0, .int .i64 0, .int .i64 0] rfl Try.underlying25 rfl (by kernel_rfl) OW ?_) | (refine own_storeSub 1 0 25 (.tmp 2) (.tmp 55) rfl rfl rfl rfl [.int .i64 k, .int .i64 p0, .int .i64 p1, .int .i64 p2, .int .i64 p3, .int .i64 0, .int .i64 0, .int .i64 0] rfl (Nat.le_of_ble_eq_true rfl) rfl (by kernel_rfl) #[.int .i64 k, .int .i64 p0, .int .i64 p1, .int .i64 p2, .int .i64 p3, .int .i64 0, .int .i64 0, .int .i64 0] rfl _ rfl OW OZ ?_; clear OW OZ; intro W OW OZ))
  refine leaves_own [] _ (Nat.le_of_eq HB0.out) (by simpa using OW.out) ?_
  intro W' hO
  exact ⟨.agg #[.int .i64 k, .int .i64 p0, .int .i64 p1, .int .i64 p2, .int .i64 p3, .int .i64 0, .int .i64 0, .int .i64 0], results_ownRow hO 1 rfl rfl rfl Try.underlying25 rfl (by kernel_rfl), (by simp only [fbare_1, fbare_2, fbare_3, fbare_4, fbare_5, fbare_6, fbare_7, hB8, hB22, hB38, hB47, hB58, hB71, cond_true, cond_false]), hO.done HB0⟩
end Go.Proofs.Ytckhkagkpldoiaa
