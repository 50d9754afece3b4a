/- Geometries: whether they may be, and hold places: walks. -/
import Derived.Test.YtckhkagkpldoiaaBinI
import Derived.WalkKit
import Derived.Sort.CutIn
import Derived.IntWalk
namespace Go.Proofs.Ytckhkagkpldoiaa
open Go.RowKit Go.Shelf
attribute [local go_sem] Oper.semAt_some
set_option linter.unusedVariables false
set_option linter.unusedSimpArgs false


def gbelow (i n : Int) : Bool := ((decide (0 ≤ i)) && (decide (i < n)))
set_option maxRecDepth 100000 in
set_option maxHeartbeats 1000000 in
theorem gbelow_any (i n : Int) (w : World) : Calls Try.prog 93 #[.int .i64 i, .int .i64 n] w fun e w' => e = .returned (.bool (gbelow i n)) ∧ Below w.heap.size w w' := by
  obtain ⟨b0, hb0⟩ : ∃ b0, w.heap.size = b0 := ⟨_, rfl⟩
  have HB0 := Lib.hid hb0
  have OW := Lib.hid (Own.start b0 w)
  have OZ := Lib.hid (And.intro hb0 (Nat.le_refl b0))
  clear hb0
  refine (callsIn_wide (n := 6)).1 ?_
  refine callsIn_of_wp_marks Try.func93 rfl trivial ?_ rfl
  simp only [Try.ntmps93, List.size_toArray, List.length_cons, List.length_nil, Nat.reduceAdd, Nat.reduceSub, Array.replicate_succ, Array.replicate_zero, List.push_toArray, List.append_toArray, List.nil_append, List.cons_append]
  gi_upto_region 1 with fail
  refine wpIn_region_heldL 8 (atD [[], [0], [1], [2], [2], [2, 3, 4], [2, 5], [6]]) (atV [fun vH _ => vH = .int .i64 i, fun vH _ => vH = .bool (decide (0 ≤ i)), fun vH _ => vH = .bool (decide (0 ≤ i)), cdV (True ∧ (decide (0 ≤ i)) = true) (fun vH _ => vH = .int .i64 i), cdV (True ∧ (decide (0 ≤ i)) = true) (fun vH _ => vH = .int .i64 n), cdV (True ∧ (decide (0 ≤ i)) = true) (fun vH _ => vH = .bool (decide (i < n))), fun vH _ => vH = .bool ((decide (0 ≤ i)) && (decide (i < n))), fun vH _ => vH = .bool ((decide (0 ≤ i)) && (decide (i < n)))]) BelowR (by kernel_rfl) BelowR.trans (BelowR.refl _)
    (StV.atV (.const _ (.const _ (.const _ (.cons (fun v x y h _ => h) (.cons (fun v x y h _ => h) (.cons (fun v x y h _ => h) (.const _ (.const _ .nil)))))))))
    ⟨?o1x0, ?o1x1, ?o1x2, ?o1x3, ?o1x4, ?o1x5, ?o1x6, ?o1x7, trivial⟩ ?o1end
  case o1x0 =>
    exact held_move free_wide rfl BelowR.refl (.tmp 0) (.inl rfl) fun xsH w' hk _ => ((putsH_old (by kernel_rfl)).trans rfl)
  case o1x1 =>
    exact held_run free_wide rfl (by rfl) BelowR.refl fun xsH w' hk hR => ⟨.bool (decide (0 ≤ i)), run_binO rfl ((putsH_tmp (i := 0) (by kernel_rfl) (by kernel_rfl)).trans (show xsH 0 = .int .i64 i from hk 0 (by decide))) rfl bin_geq, rfl⟩
  case o1x2 =>
    exact held_move free_wide rfl BelowR.refl (.tmp 6) (.inl rfl) fun xsH w' hk _ => ((putsH_tmp (i := 1) (by kernel_rfl) (by kernel_rfl)).trans (show xsH 1 = .bool (decide (0 ≤ i)) from hk 1 (by decide)))
  case o1x3 =>
    refine held_guard free_wide 2 7 true True (decide (0 ≤ i)) BelowR.refl rfl (by kernel_rfl) (by kernel_rfl) (by kernel_rfl) (fun xsH w' hk => Or.inl ⟨trivial, (show xsH 2 = .bool (decide (0 ≤ i)) from hk 2 (by decide))⟩) (fun hC hG => ?_) (fun hN w' => Or.inr ⟨hN, rfl⟩)
    exact held_moveG free_wide hG BelowR.refl (.tmp 0) (.inl rfl) fun xsH w' hk _ => Or.inl ⟨hC, ((putsH_old (by kernel_rfl)).trans rfl)⟩
  case o1x4 =>
    refine held_guard free_wide 2 7 true True (decide (0 ≤ i)) BelowR.refl rfl (by kernel_rfl) (by kernel_rfl) (by kernel_rfl) (fun xsH w' hk => Or.inl ⟨trivial, (show xsH 2 = .bool (decide (0 ≤ i)) from hk 2 (by decide))⟩) (fun hC hG => ?_) (fun hN w' => Or.inr ⟨hN, rfl⟩)
    exact held_moveG free_wide hG BelowR.refl (.tmp 1) (.inl rfl) fun xsH w' hk _ => Or.inl ⟨hC, ((putsH_old (by kernel_rfl)).trans rfl)⟩
  case o1x5 =>
    refine held_guard free_wide 2 7 true True (decide (0 ≤ i)) BelowR.refl rfl (by kernel_rfl) (by kernel_rfl) (by kernel_rfl) (fun xsH w' hk => Or.inl ⟨trivial, (show xsH 2 = .bool (decide (0 ≤ i)) from hk 2 (by decide))⟩) (fun hC hG => ?_) (fun hN w' => Or.inr ⟨hN, rfl⟩)
    exact held_runG free_wide hG (by rfl) BelowR.refl fun xsH w' hk hR => ⟨.bool (decide (i < n)), run_binO rfl ((putsH_tmp (i := 3) (by kernel_rfl) (by kernel_rfl)).trans ((show cdV (True ∧ (decide (0 ≤ i)) = true) (fun vH _ => vH = .int .i64 i) (xsH 3) w' from hk 3 (by decide)).get hC)) ((putsH_tmp (i := 4) (by kernel_rfl) (by kernel_rfl)).trans ((show cdV (True ∧ (decide (0 ≤ i)) = true) (fun vH _ => vH = .int .i64 n) (xsH 4) w' from hk 4 (by decide)).get hC)) bin_lss, (Or.inl ⟨hC, rfl⟩)⟩
  case o1x6 =>
    exact held_run free_wide rfl (by rfl) BelowR.refl fun xsH w' hk hR => ⟨.bool ((decide (0 ≤ i)) && (decide (i < n))), run_pickAnd rfl ((putsH_tmp (i := 2) (by kernel_rfl) (by kernel_rfl)).trans (show xsH 2 = .bool (decide (0 ≤ i)) from hk 2 (by decide))) rfl (fun h => (putsH_tmp (i := 5) (by kernel_rfl) (by kernel_rfl)).trans ((show cdV (True ∧ (decide (0 ≤ i)) = true) (fun vH _ => vH = .bool (decide (i < n))) (xsH 5) w' from hk 5 (by decide)).get (And.intro trivial h))), rfl⟩
  case o1x7 =>
    exact held_move free_wide rfl BelowR.refl (.tmp 11) (.inr rfl) fun xsH w' hk _ => ((putsH_tmp (i := 6) (by kernel_rfl) (by kernel_rfl)).trans (show xsH 6 = .bool ((decide (0 ≤ i)) && (decide (i < n))) from hk 6 (by decide)))
  case o1end =>
    intro xsH w' hv hR
    have h0 : xsH 0 = .int .i64 i := hv 0 (by omega)
    have h1 : xsH 1 = .bool (decide (0 ≤ i)) := hv 1 (by omega)
    have h2 : xsH 2 = .bool (decide (0 ≤ i)) := hv 2 (by omega)
    have h6 : xsH 6 = .bool ((decide (0 ≤ i)) && (decide (i < n))) := hv 6 (by omega)
    have h7 : xsH 7 = .bool ((decide (0 ≤ i)) && (decide (i < n))) := hv 7 (by omega)
    simp only [List.take_succ_cons, List.take_zero, List.drop_succ_cons, List.drop_zero, putsH, Act.put, List.setIfInBounds_toArray, List.set_cons_succ, List.set_cons_zero, h0, h1, h2, h6, h7]
    have OW2 := Lib.hid (OW.out.step hR)
    clear hv hR OW OZ h0 h1 h2 h6 h7
    have OW := OW2
    clear OW2
    obtain ⟨g2, OZ⟩ := own_size OW HB0
    gi_wp2
    refine leaves_own [] _ (Nat.le_of_eq HB0.out) (by simpa using OW.out) ?_
    intro W' hO
    exact ⟨.bool ((decide (0 ≤ i)) && (decide (i < n))), by simp [results, Try.results93, go_sem], rfl, hO.done HB0⟩
def gpower (n most : Int) : Bool := (((decide (1 ≤ n)) && (decide (n ≤ most))) && ((bits .and .i64 n (n - 1)) == 0))
set_option maxRecDepth 100000 in
set_option maxHeartbeats 1000000 in
theorem gpower_any (n most : Int) (hm : most ≤ 1024) (w : World) : Calls Try.prog 96 #[.int .i64 n, .int .i64 most] w fun e w' => e = .returned (.bool (gpower n most)) ∧ Below w.heap.size w w' := by
  obtain ⟨b0, hb0⟩ : ∃ b0, w.heap.size = b0 := ⟨_, rfl⟩
  have HB0 := Lib.hid hb0
  have OW := Lib.hid (Own.start b0 w)
  have OZ := Lib.hid (And.intro hb0 (Nat.le_refl b0))
  clear hb0
  refine (callsIn_wide (n := 6)).1 ?_
  refine callsIn_of_wp_marks Try.func96 rfl trivial ?_ rfl
  simp only [Try.ntmps96, List.size_toArray, List.length_cons, List.length_nil, Nat.reduceAdd, Nat.reduceSub, Array.replicate_succ, Array.replicate_zero, List.push_toArray, List.append_toArray, List.nil_append, List.cons_append]
  gi_upto_region 1 with fail
  refine wpIn_region_heldL 15 (atD [[], [0], [1], [2], [2], [2, 3, 4], [2, 5], [6], [7], [7], [7, 9], [7, 8, 10], [7, 11], [7, 12], [13]]) (atV [fun vH _ => vH = .int .i64 n, fun vH _ => vH = .bool (decide (1 ≤ n)), fun vH _ => vH = .bool (decide (1 ≤ n)), cdV (True ∧ (decide (1 ≤ n)) = true) (fun vH _ => vH = .int .i64 n), cdV (True ∧ (decide (1 ≤ n)) = true) (fun vH _ => vH = .int .i64 most), cdV (True ∧ (decide (1 ≤ n)) = true) (fun vH _ => vH = .bool (decide (n ≤ most))), fun vH _ => vH = .bool ((decide (1 ≤ n)) && (decide (n ≤ most))), fun vH _ => vH = .bool ((decide (1 ≤ n)) && (decide (n ≤ most))), cdV (True ∧ ((decide (1 ≤ n)) && (decide (n ≤ most))) = true) (fun vH _ => vH = .int .i64 n), cdV (True ∧ ((decide (1 ≤ n)) && (decide (n ≤ most))) = true) (fun vH _ => vH = .int .i64 n), cdV (True ∧ ((decide (1 ≤ n)) && (decide (n ≤ most))) = true) (fun vH _ => vH = .int .i64 (n - 1)), cdV (True ∧ ((decide (1 ≤ n)) && (decide (n ≤ most))) = true) (fun vH _ => vH = .int .i64 (bits .and .i64 n (n - 1))), cdV (True ∧ ((decide (1 ≤ n)) && (decide (n ≤ most))) = true) (fun vH _ => vH = .bool ((bits .and .i64 n (n - 1)) == 0)), fun vH _ => vH = .bool (((decide (1 ≤ n)) && (decide (n ≤ most))) && ((bits .and .i64 n (n - 1)) == 0)), fun vH _ => vH = .bool (((decide (1 ≤ n)) && (decide (n ≤ most))) && ((bits .and .i64 n (n - 1)) == 0))]) BelowR (by kernel_rfl) BelowR.trans (BelowR.refl _)
    (StV.atV (.const _ (.const _ (.const _ (.cons (fun v x y h _ => h) (.cons (fun v x y h _ => h) (.cons (fun v x y h _ => h) (.const _ (.const _ (.cons (fun v x y h _ => h) (.cons (fun v x y h _ => h) (.cons (fun v x y h _ => h) (.cons (fun v x y h _ => h) (.cons (fun v x y h _ => h) (.const _ (.const _ .nil))))))))))))))))
    ⟨?o1x0, ?o1x1, ?o1x2, ?o1x3, ?o1x4, ?o1x5, ?o1x6, ?o1x7, ?o1x8, ?o1x9, ?o1x10, ?o1x11, ?o1x12, ?o1x13, ?o1x14, trivial⟩ ?o1end
  case o1x0 =>
    exact held_move free_wide rfl BelowR.refl (.tmp 0) (.inl rfl) fun xsH w' hk _ => ((putsH_old (by kernel_rfl)).trans rfl)
  case o1x1 =>
    exact held_run free_wide rfl (by rfl) BelowR.refl fun xsH w' hk hR => ⟨.bool (decide (1 ≤ n)), run_binO rfl ((putsH_tmp (i := 0) (by kernel_rfl) (by kernel_rfl)).trans (show xsH 0 = .int .i64 n from hk 0 (by decide))) rfl bin_geq, rfl⟩
  case o1x2 =>
    exact held_move free_wide rfl BelowR.refl (.tmp 6) (.inl rfl) fun xsH w' hk _ => ((putsH_tmp (i := 1) (by kernel_rfl) (by kernel_rfl)).trans (show xsH 1 = .bool (decide (1 ≤ n)) from hk 1 (by decide)))
  case o1x3 =>
    refine held_guard free_wide 2 7 true True (decide (1 ≤ n)) BelowR.refl rfl (by kernel_rfl) (by kernel_rfl) (by kernel_rfl) (fun xsH w' hk => Or.inl ⟨trivial, (show xsH 2 = .bool (decide (1 ≤ n)) from hk 2 (by decide))⟩) (fun hC hG => ?_) (fun hN w' => Or.inr ⟨hN, rfl⟩)
    exact held_moveG free_wide hG BelowR.refl (.tmp 0) (.inl rfl) fun xsH w' hk _ => Or.inl ⟨hC, ((putsH_old (by kernel_rfl)).trans rfl)⟩
  case o1x4 =>
    refine held_guard free_wide 2 7 true True (decide (1 ≤ n)) BelowR.refl rfl (by kernel_rfl) (by kernel_rfl) (by kernel_rfl) (fun xsH w' hk => Or.inl ⟨trivial, (show xsH 2 = .bool (decide (1 ≤ n)) from hk 2 (by decide))⟩) (fun hC hG => ?_) (fun hN w' => Or.inr ⟨hN, rfl⟩)
    exact held_moveG free_wide hG BelowR.refl (.tmp 1) (.inl rfl) fun xsH w' hk _ => Or.inl ⟨hC, ((putsH_old (by kernel_rfl)).trans rfl)⟩
  case o1x5 =>
    refine held_guard free_wide 2 7 true True (decide (1 ≤ n)) BelowR.refl rfl (by kernel_rfl) (by kernel_rfl) (by kernel_rfl) (fun xsH w' hk => Or.inl ⟨trivial, (show xsH 2 = .bool (decide (1 ≤ n)) from hk 2 (by decide))⟩) (fun hC hG => ?_) (fun hN w' => Or.inr ⟨hN, rfl⟩)
    exact held_runG free_wide hG (by rfl) BelowR.refl fun xsH w' hk hR => ⟨.bool (decide (n ≤ most)), run_binO rfl ((putsH_tmp (i := 3) (by kernel_rfl) (by kernel_rfl)).trans ((show cdV (True ∧ (decide (1 ≤ n)) = true) (fun vH _ => vH = .int .i64 n) (xsH 3) w' from hk 3 (by decide)).get hC)) ((putsH_tmp (i := 4) (by kernel_rfl) (by kernel_rfl)).trans ((show cdV (True ∧ (decide (1 ≤ n)) = true) (fun vH _ => vH = .int .i64 most) (xsH 4) w' from hk 4 (by decide)).get hC)) bin_leq, (Or.inl ⟨hC, rfl⟩)⟩
  case o1x6 =>
    exact held_run free_wide rfl (by rfl) BelowR.refl fun xsH w' hk hR => ⟨.bool ((decide (1 ≤ n)) && (decide (n ≤ most))), run_pickAnd rfl ((putsH_tmp (i := 2) (by kernel_rfl) (by kernel_rfl)).trans (show xsH 2 = .bool (decide (1 ≤ n)) from hk 2 (by decide))) rfl (fun h => (putsH_tmp (i := 5) (by kernel_rfl) (by kernel_rfl)).trans ((show cdV (True ∧ (decide (1 ≤ n)) = true) (fun vH _ => vH = .bool (decide (n ≤ most))) (xsH 5) w' from hk 5 (by decide)).get (And.intro trivial h))), rfl⟩
  case o1x7 =>
    exact held_move free_wide rfl BelowR.refl (.tmp 11) (.inl rfl) fun xsH w' hk _ => ((putsH_tmp (i := 6) (by kernel_rfl) (by kernel_rfl)).trans (show xsH 6 = .bool ((decide (1 ≤ n)) && (decide (n ≤ most))) from hk 6 (by decide)))
  case o1x8 =>
    refine held_guard free_wide 7 12 true True ((decide (1 ≤ n)) && (decide (n ≤ most))) BelowR.refl rfl (by kernel_rfl) (by kernel_rfl) (by kernel_rfl) (fun xsH w' hk => Or.inl ⟨trivial, (show xsH 7 = .bool ((decide (1 ≤ n)) && (decide (n ≤ most))) from hk 7 (by decide))⟩) (fun hC hG => ?_) (fun hN w' => Or.inr ⟨hN, rfl⟩)
    exact held_moveG free_wide hG BelowR.refl (.tmp 0) (.inl rfl) fun xsH w' hk _ => Or.inl ⟨hC, ((putsH_old (by kernel_rfl)).trans rfl)⟩
  case o1x9 =>
    refine held_guard free_wide 7 12 true True ((decide (1 ≤ n)) && (decide (n ≤ most))) BelowR.refl rfl (by kernel_rfl) (by kernel_rfl) (by kernel_rfl) (fun xsH w' hk => Or.inl ⟨trivial, (show xsH 7 = .bool ((decide (1 ≤ n)) && (decide (n ≤ most))) from hk 7 (by decide))⟩) (fun hC hG => ?_) (fun hN w' => Or.inr ⟨hN, rfl⟩)
    exact held_moveG free_wide hG BelowR.refl (.tmp 0) (.inl rfl) fun xsH w' hk _ => Or.inl ⟨hC, ((putsH_old (by kernel_rfl)).trans rfl)⟩
  case o1x10 =>
    refine held_guard free_wide 7 12 true True ((decide (1 ≤ n)) && (decide (n ≤ most))) BelowR.refl rfl (by kernel_rfl) (by kernel_rfl) (by kernel_rfl) (fun xsH w' hk => Or.inl ⟨trivial, (show xsH 7 = .bool ((decide (1 ≤ n)) && (decide (n ≤ most))) from hk 7 (by decide))⟩) (fun hC hG => ?_) (fun hN w' => Or.inr ⟨hN, rfl⟩)
    exact held_runG free_wide hG (by rfl) BelowR.refl fun xsH w' hk hR => ⟨.int .i64 (n - 1), run_binO (vx := .int .i64 n) (vy := .int .i64 1) rfl ((putsH_tmp (i := 9) (by kernel_rfl) (by kernel_rfl)).trans ((show cdV (True ∧ ((decide (1 ≤ n)) && (decide (n ≤ most))) = true) (fun vH _ => vH = .int .i64 n) (xsH 9) w' from hk 9 (by decide)).get hC)) rfl (bin_sub_in (by have := hC.2; simp at this; omega) (by have := hC.2; simp at this; omega)), (Or.inl ⟨hC, rfl⟩)⟩
  case o1x11 =>
    refine held_guard free_wide 7 12 true True ((decide (1 ≤ n)) && (decide (n ≤ most))) BelowR.refl rfl (by kernel_rfl) (by kernel_rfl) (by kernel_rfl) (fun xsH w' hk => Or.inl ⟨trivial, (show xsH 7 = .bool ((decide (1 ≤ n)) && (decide (n ≤ most))) from hk 7 (by decide))⟩) (fun hC hG => ?_) (fun hN w' => Or.inr ⟨hN, rfl⟩)
    exact held_runG free_wide hG (by rfl) BelowR.refl fun xsH w' hk hR => ⟨.int .i64 (bits .and .i64 n (n - 1)), run_binO (vx := .int .i64 n) (vy := .int .i64 (n - 1)) rfl ((putsH_tmp (i := 8) (by kernel_rfl) (by kernel_rfl)).trans ((show cdV (True ∧ ((decide (1 ≤ n)) && (decide (n ≤ most))) = true) (fun vH _ => vH = .int .i64 n) (xsH 8) w' from hk 8 (by decide)).get hC)) ((putsH_tmp (i := 10) (by kernel_rfl) (by kernel_rfl)).trans ((show cdV (True ∧ ((decide (1 ≤ n)) && (decide (n ≤ most))) = true) (fun vH _ => vH = .int .i64 (n - 1)) (xsH 10) w' from hk 10 (by decide)).get hC)) (bin_bits (.inl rfl)), (Or.inl ⟨hC, rfl⟩)⟩
  case o1x12 =>
    refine held_guard free_wide 7 12 true True ((decide (1 ≤ n)) && (decide (n ≤ most))) BelowR.refl rfl (by kernel_rfl) (by kernel_rfl) (by kernel_rfl) (fun xsH w' hk => Or.inl ⟨trivial, (show xsH 7 = .bool ((decide (1 ≤ n)) && (decide (n ≤ most))) from hk 7 (by decide))⟩) (fun hC hG => ?_) (fun hN w' => Or.inr ⟨hN, rfl⟩)
    exact held_runG free_wide hG (by rfl) BelowR.refl fun xsH w' hk hR => ⟨.bool ((bits .and .i64 n (n - 1)) == 0), run_binO rfl ((putsH_tmp (i := 11) (by kernel_rfl) (by kernel_rfl)).trans ((show cdV (True ∧ ((decide (1 ≤ n)) && (decide (n ≤ most))) = true) (fun vH _ => vH = .int .i64 (bits .and .i64 n (n - 1))) (xsH 11) w' from hk 11 (by decide)).get hC)) rfl bin_eql, (Or.inl ⟨hC, rfl⟩)⟩
  case o1x13 =>
    exact held_run free_wide rfl (by rfl) BelowR.refl fun xsH w' hk hR => ⟨.bool (((decide (1 ≤ n)) && (decide (n ≤ most))) && ((bits .and .i64 n (n - 1)) == 0)), run_pickAnd rfl ((putsH_tmp (i := 7) (by kernel_rfl) (by kernel_rfl)).trans (show xsH 7 = .bool ((decide (1 ≤ n)) && (decide (n ≤ most))) from hk 7 (by decide))) rfl (fun h => (putsH_tmp (i := 12) (by kernel_rfl) (by kernel_rfl)).trans ((show cdV (True ∧ ((decide (1 ≤ n)) && (decide (n ≤ most))) = true) (fun vH _ => vH = .bool ((bits .and .i64 n (n - 1)) == 0)) (xsH 12) w' from hk 12 (by decide)).get (And.intro trivial h))), rfl⟩
  case o1x14 =>
    exact held_move free_wide rfl BelowR.refl (.tmp 18) (.inr rfl) fun xsH w' hk _ => ((putsH_tmp (i := 13) (by kernel_rfl) (by kernel_rfl)).trans (show xsH 13 = .bool (((decide (1 ≤ n)) && (decide (n ≤ most))) && ((bits .and .i64 n (n - 1)) == 0)) from hk 13 (by decide)))
  case o1end =>
    intro xsH w' hv hR
    have h0 : xsH 0 = .int .i64 n := hv 0 (by omega)
    have h1 : xsH 1 = .bool (decide (1 ≤ n)) := hv 1 (by omega)
    have h2 : xsH 2 = .bool (decide (1 ≤ n)) := hv 2 (by omega)
    have h6 : xsH 6 = .bool ((decide (1 ≤ n)) && (decide (n ≤ most))) := hv 6 (by omega)
    have h7 : xsH 7 = .bool ((decide (1 ≤ n)) && (decide (n ≤ most))) := hv 7 (by omega)
    have h13 : xsH 13 = .bool (((decide (1 ≤ n)) && (decide (n ≤ most))) && ((bits .and .i64 n (n - 1)) == 0)) := hv 13 (by omega)
    have h14 : xsH 14 = .bool (((decide (1 ≤ n)) && (decide (n ≤ most))) && ((bits .and .i64 n (n - 1)) == 0)) := hv 14 (by omega)
    simp only [List.take_succ_cons, List.take_zero, List.drop_succ_cons, List.drop_zero, putsH, Act.put, List.setIfInBounds_toArray, List.set_cons_succ, List.set_cons_zero, h0, h1, h2, h6, h7, h13, h14]
    have OW2 := Lib.hid (OW.out.step hR)
    clear hv hR OW OZ h0 h1 h2 h6 h7 h13 h14
    have OW := OW2
    clear OW2
    obtain ⟨g2, OZ⟩ := own_size OW HB0
    gi_wp2
    refine leaves_own [] _ (Nat.le_of_eq HB0.out) (by simpa using OW.out) ?_
    intro W' hO
    exact ⟨.bool (((decide (1 ≤ n)) && (decide (n ≤ most))) && ((bits .and .i64 n (n - 1)) == 0)), by simp [results, Try.results96, go_sem], rfl, hO.done HB0⟩
theorem gpower_in {n m : Int} (h : gpower n m = true) : 1 ≤ n ∧ n ≤ m := by
  simp [gpower] at h
  exact h.1
/-- The products of a geometry's sides are small. -/
theorem prods {r s b m c : Int} (h0 : 0 ≤ r + s ∧ r + s ≤ 8) (h1 : 1 ≤ b ∧ b ≤ 16) (h2 : 1 ≤ m ∧ m ≤ 1024) (h3 : 1 ≤ c ∧ c ≤ 64) :
    (0 ≤ (r + s) * b ∧ (r + s) * b ≤ 128) ∧ (0 ≤ (r + s) * b * m ∧ (r + s) * b * m ≤ 131072) ∧ (0 ≤ (r + s) * b * m * c ∧ (r + s) * b * m * c ≤ 8388608) := by
  have a0 : 0 ≤ (r + s) * b := Int.mul_nonneg h0.1 (by omega)
  have a1 : (r + s) * b ≤ 8 * 16 := Int.mul_le_mul h0.2 h1.2 (by omega) (by omega)
  have b0 : 0 ≤ (r + s) * b * m := Int.mul_nonneg a0 (by omega)
  have b1 : (r + s) * b * m ≤ 128 * 1024 := Int.mul_le_mul (by omega) h2.2 (by omega) (by omega)
  have c0 : 0 ≤ (r + s) * b * m * c := Int.mul_nonneg b0 (by omega)
  have c1 : (r + s) * b * m * c ≤ 131072 * 64 := Int.mul_le_mul (by omega) h3.2 (by omega) (by omega)
  omega
theorem gR_in {r s b m c : Int} (h : ((((((gpower r 8) && (decide (0 ≤ s))) && (decide (s ≤ (8 - r)))) && (gpower b 16)) && (gpower m 1024)) && (gpower c 64)) = true) :
    (0 ≤ r + s ∧ r + s ≤ 8) ∧ (0 ≤ (r + s) * b ∧ (r + s) * b ≤ 128) ∧ (0 ≤ (r + s) * b * m ∧ (r + s) * b * m ≤ 131072) ∧ (0 ≤ (r + s) * b * m * c ∧ (r + s) * b * m * c ≤ 8388608) := by
  simp only [Bool.and_eq_true, decide_eq_true_eq] at h
  obtain ⟨⟨⟨⟨⟨h0, h1⟩, h2⟩, h3⟩, h4⟩, h5⟩ := h
  have := gpower_in h0
  have e : 0 ≤ r + s ∧ r + s ≤ 8 := by omega
  exact And.intro e (prods e (gpower_in h3) (gpower_in h4) (gpower_in h5))
def gright (r s b m c : Int) : Bool := (((((((gpower r 8) && (decide (0 ≤ s))) && (decide (s ≤ (8 - r)))) && (gpower b 16)) && (gpower m 1024)) && (gpower c 64)) && (decide (((((r + s) * b) * m) * c) ≤ 4096)))
set_option maxRecDepth 100000 in
set_option maxHeartbeats 1000000 in
theorem gright_any (r s b m c : Int) (w : World) : Calls Try.prog 72 #[.agg #[.int .i64 r, .int .i64 s, .int .i64 b, .int .i64 m, .int .i64 c]] w fun e w' => e = .returned (.bool (gright r s b m c)) ∧ Below w.heap.size w w' := by
  obtain ⟨b0, hb0⟩ : ∃ b0, w.heap.size = b0 := ⟨_, rfl⟩
  have HB0 := Lib.hid hb0
  have OW := Lib.hid (Own.start b0 w)
  have OZ := Lib.hid (And.intro hb0 (Nat.le_refl b0))
  clear hb0
  refine (callsIn_wide (n := 6)).1 ?_
  refine callsIn_of_wp_marks Try.func72 rfl trivial ?_ rfl
  simp only [Try.ntmps72, List.size_toArray, List.length_cons, List.length_nil, Nat.reduceAdd, Nat.reduceSub, Array.replicate_succ, Array.replicate_zero, List.push_toArray, List.append_toArray, List.nil_append, List.cons_append]
  gi_upto_region 1 with (first | (refine own_boxV 1 27 (.tmp 0) rfl rfl rfl (.agg #[.int .i64 r, .int .i64 s, .int .i64 b, .int .i64 m, .int .i64 c]) rfl #[.int .i64 r, .int .i64 s, .int .i64 b, .int .i64 m, .int .i64 c] rfl OW OZ ?_; clear OW OZ; intro W g1 OW OZ))
  refine wpIn_region_heldL 49 (atD [[], [0], [1], [2], [3], [3, 4], [3, 5], [3, 6], [7], [8], [8, 9], [8], [8, 11], [8, 12], [8, 10, 13], [8, 14], [15], [16], [16, 17], [16, 18], [16, 19], [20], [21], [21, 22], [21, 23], [21, 24], [25], [26], [26, 27], [26, 28], [26, 29], [30], [31], [31, 32], [31], [31, 34], [31, 33, 35], [31], [31, 37], [31, 36, 38], [31], [31, 40], [31, 39, 41], [31], [31, 43], [31, 42, 44], [31, 45], [31, 46], [47]]) (atV [fun vH _ => vH = .pointer (some ⟨b0, 0, none⟩), fun vH _ => vH = .int .i64 r, fun vH _ => vH = .bool (gpower r 8), fun vH _ => vH = .bool (gpower r 8), cdV (True ∧ (gpower r 8) = true) (fun vH _ => vH = .pointer (some ⟨b0, 1, none⟩)), cdV (True ∧ (gpower r 8) = true) (fun vH _ => vH = .int .i64 s), cdV (True ∧ (gpower r 8) = true) (fun vH _ => vH = .bool (decide (0 ≤ s))), fun vH _ => vH = .bool ((gpower r 8) && (decide (0 ≤ s))), fun vH _ => vH = .bool ((gpower r 8) && (decide (0 ≤ s))), cdV (True ∧ ((gpower r 8) && (decide (0 ≤ s))) = true) (fun vH _ => vH = .pointer (some ⟨b0, 1, none⟩)), cdV (True ∧ ((gpower r 8) && (decide (0 ≤ s))) = true) (fun vH _ => vH = .int .i64 s), cdV (True ∧ ((gpower r 8) && (decide (0 ≤ s))) = true) (fun vH _ => vH = .pointer (some ⟨b0, 0, none⟩)), cdV (True ∧ ((gpower r 8) && (decide (0 ≤ s))) = true) (fun vH _ => vH = .int .i64 r), cdV (True ∧ ((gpower r 8) && (decide (0 ≤ s))) = true) (fun vH _ => vH = .int .i64 (8 - r)), cdV (True ∧ ((gpower r 8) && (decide (0 ≤ s))) = true) (fun vH _ => vH = .bool (decide (s ≤ (8 - r)))), fun vH _ => vH = .bool (((gpower r 8) && (decide (0 ≤ s))) && (decide (s ≤ (8 - r)))), fun vH _ => vH = .bool (((gpower r 8) && (decide (0 ≤ s))) && (decide (s ≤ (8 - r)))), cdV (True ∧ (((gpower r 8) && (decide (0 ≤ s))) && (decide (s ≤ (8 - r)))) = true) (fun vH _ => vH = .pointer (some ⟨b0, 2, none⟩)), cdV (True ∧ (((gpower r 8) && (decide (0 ≤ s))) && (decide (s ≤ (8 - r)))) = true) (fun vH _ => vH = .int .i64 b), cdV (True ∧ (((gpower r 8) && (decide (0 ≤ s))) && (decide (s ≤ (8 - r)))) = true) (fun vH _ => vH = .bool (gpower b 16)), fun vH _ => vH = .bool ((((gpower r 8) && (decide (0 ≤ s))) && (decide (s ≤ (8 - r)))) && (gpower b 16)), fun vH _ => vH = .bool ((((gpower r 8) && (decide (0 ≤ s))) && (decide (s ≤ (8 - r)))) && (gpower b 16)), cdV (True ∧ ((((gpower r 8) && (decide (0 ≤ s))) && (decide (s ≤ (8 - r)))) && (gpower b 16)) = true) (fun vH _ => vH = .pointer (some ⟨b0, 3, none⟩)), cdV (True ∧ ((((gpower r 8) && (decide (0 ≤ s))) && (decide (s ≤ (8 - r)))) && (gpower b 16)) = true) (fun vH _ => vH = .int .i64 m), cdV (True ∧ ((((gpower r 8) && (decide (0 ≤ s))) && (decide (s ≤ (8 - r)))) && (gpower b 16)) = true) (fun vH _ => vH = .bool (gpower m 1024)), fun vH _ => vH = .bool (((((gpower r 8) && (decide (0 ≤ s))) && (decide (s ≤ (8 - r)))) && (gpower b 16)) && (gpower m 1024)), fun vH _ => vH = .bool (((((gpower r 8) && (decide (0 ≤ s))) && (decide (s ≤ (8 - r)))) && (gpower b 16)) && (gpower m 1024)), cdV (True ∧ (((((gpower r 8) && (decide (0 ≤ s))) && (decide (s ≤ (8 - r)))) && (gpower b 16)) && (gpower m 1024)) = true) (fun vH _ => vH = .pointer (some ⟨b0, 4, none⟩)), cdV (True ∧ (((((gpower r 8) && (decide (0 ≤ s))) && (decide (s ≤ (8 - r)))) && (gpower b 16)) && (gpower m 1024)) = true) (fun vH _ => vH = .int .i64 c), cdV (True ∧ (((((gpower r 8) && (decide (0 ≤ s))) && (decide (s ≤ (8 - r)))) && (gpower b 16)) && (gpower m 1024)) = true) (fun vH _ => vH = .bool (gpower c 64)), fun vH _ => vH = .bool ((((((gpower r 8) && (decide (0 ≤ s))) && (decide (s ≤ (8 - r)))) && (gpower b 16)) && (gpower m 1024)) && (gpower c 64)), fun vH _ => vH = .bool ((((((gpower r 8) && (decide (0 ≤ s))) && (decide (s ≤ (8 - r)))) && (gpower b 16)) && (gpower m 1024)) && (gpower c 64)), cdV (True ∧ ((((((gpower r 8) && (decide (0 ≤ s))) && (decide (s ≤ (8 - r)))) && (gpower b 16)) && (gpower m 1024)) && (gpower c 64)) = true) (fun vH _ => vH = .pointer (some ⟨b0, 0, none⟩)), cdV (True ∧ ((((((gpower r 8) && (decide (0 ≤ s))) && (decide (s ≤ (8 - r)))) && (gpower b 16)) && (gpower m 1024)) && (gpower c 64)) = true) (fun vH _ => vH = .int .i64 r), cdV (True ∧ ((((((gpower r 8) && (decide (0 ≤ s))) && (decide (s ≤ (8 - r)))) && (gpower b 16)) && (gpower m 1024)) && (gpower c 64)) = true) (fun vH _ => vH = .pointer (some ⟨b0, 1, none⟩)), cdV (True ∧ ((((((gpower r 8) && (decide (0 ≤ s))) && (decide (s ≤ (8 - r)))) && (gpower b 16)) && (gpower m 1024)) && (gpower c 64)) = true) (fun vH _ => vH = .int .i64 s), cdV (True ∧ ((((((gpower r 8) && (decide (0 ≤ s))) && (decide (s ≤ (8 - r)))) && (gpower b 16)) && (gpower m 1024)) && (gpower c 64)) = true) (fun vH _ => vH = .int .i64 (r + s)), cdV (True ∧ ((((((gpower r 8) && (decide (0 ≤ s))) && (decide (s ≤ (8 - r)))) && (gpower b 16)) && (gpower m 1024)) && (gpower c 64)) = true) (fun vH _ => vH = .pointer (some ⟨b0, 2, none⟩)), cdV (True ∧ ((((((gpower r 8) && (decide (0 ≤ s))) && (decide (s ≤ (8 - r)))) && (gpower b 16)) && (gpower m 1024)) && (gpower c 64)) = true) (fun vH _ => vH = .int .i64 b), cdV (True ∧ ((((((gpower r 8) && (decide (0 ≤ s))) && (decide (s ≤ (8 - r)))) && (gpower b 16)) && (gpower m 1024)) && (gpower c 64)) = true) (fun vH _ => vH = .int .i64 ((r + s) * b)), cdV (True ∧ ((((((gpower r 8) && (decide (0 ≤ s))) && (decide (s ≤ (8 - r)))) && (gpower b 16)) && (gpower m 1024)) && (gpower c 64)) = true) (fun vH _ => vH = .pointer (some ⟨b0, 3, none⟩)), cdV (True ∧ ((((((gpower r 8) && (decide (0 ≤ s))) && (decide (s ≤ (8 - r)))) && (gpower b 16)) && (gpower m 1024)) && (gpower c 64)) = true) (fun vH _ => vH = .int .i64 m), cdV (True ∧ ((((((gpower r 8) && (decide (0 ≤ s))) && (decide (s ≤ (8 - r)))) && (gpower b 16)) && (gpower m 1024)) && (gpower c 64)) = true) (fun vH _ => vH = .int .i64 (((r + s) * b) * m)), cdV (True ∧ ((((((gpower r 8) && (decide (0 ≤ s))) && (decide (s ≤ (8 - r)))) && (gpower b 16)) && (gpower m 1024)) && (gpower c 64)) = true) (fun vH _ => vH = .pointer (some ⟨b0, 4, none⟩)), cdV (True ∧ ((((((gpower r 8) && (decide (0 ≤ s))) && (decide (s ≤ (8 - r)))) && (gpower b 16)) && (gpower m 1024)) && (gpower c 64)) = true) (fun vH _ => vH = .int .i64 c), cdV (True ∧ ((((((gpower r 8) && (decide (0 ≤ s))) && (decide (s ≤ (8 - r)))) && (gpower b 16)) && (gpower m 1024)) && (gpower c 64)) = true) (fun vH _ => vH = .int .i64 ((((r + s) * b) * m) * c)), cdV (True ∧ ((((((gpower r 8) && (decide (0 ≤ s))) && (decide (s ≤ (8 - r)))) && (gpower b 16)) && (gpower m 1024)) && (gpower c 64)) = true) (fun vH _ => vH = .bool (decide (((((r + s) * b) * m) * c) ≤ 4096))), fun vH _ => vH = .bool (((((((gpower r 8) && (decide (0 ≤ s))) && (decide (s ≤ (8 - r)))) && (gpower b 16)) && (gpower m 1024)) && (gpower c 64)) && (decide (((((r + s) * b) * m) * c) ≤ 4096))), fun vH _ => vH = .bool (((((((gpower r 8) && (decide (0 ≤ s))) && (decide (s ≤ (8 - r)))) && (gpower b 16)) && (gpower m 1024)) && (gpower c 64)) && (decide (((((r + s) * b) * m) * c) ≤ 4096)))]) BelowR (by kernel_rfl) BelowR.trans (BelowR.refl _)
    (StV.atV (.const _ (.const _ (.const _ (.const _ (.cons (fun v x y h _ => h) (.cons (fun v x y h _ => h) (.cons (fun v x y h _ => h) (.const _ (.const _ (.cons (fun v x y h _ => h) (.cons (fun v x y h _ => h) (.cons (fun v x y h _ => h) (.cons (fun v x y h _ => h) (.cons (fun v x y h _ => h) (.cons (fun v x y h _ => h) (.const _ (.const _ (.cons (fun v x y h _ => h) (.cons (fun v x y h _ => h) (.cons (fun v x y h _ => h) (.const _ (.const _ (.cons (fun v x y h _ => h) (.cons (fun v x y h _ => h) (.cons (fun v x y h _ => h) (.const _ (.const _ (.cons (fun v x y h _ => h) (.cons (fun v x y h _ => h) (.cons (fun v x y h _ => h) (.const _ (.const _ (.cons (fun v x y h _ => h) (.cons (fun v x y h _ => h) (.cons (fun v x y h _ => h) (.cons (fun v x y h _ => h) (.cons (fun v x y h _ => h) (.cons (fun v x y h _ => h) (.cons (fun v x y h _ => h) (.cons (fun v x y h _ => h) (.cons (fun v x y h _ => h) (.cons (fun v x y h _ => h) (.cons (fun v x y h _ => h) (.cons (fun v x y h _ => h) (.cons (fun v x y h _ => h) (.cons (fun v x y h _ => h) (.cons (fun v x y h _ => h) (.const _ (.const _ .nil))))))))))))))))))))))))))))))))))))))))))))))))))
    ⟨?o2x0, ?o2x1, ?o2x2, ?o2x3, ?o2x4, ?o2x5, ?o2x6, ?o2x7, ?o2x8, ?o2x9, ?o2x10, ?o2x11, ?o2x12, ?o2x13, ?o2x14, ?o2x15, ?o2x16, ?o2x17, ?o2x18, ?o2x19, ?o2x20, ?o2x21, ?o2x22, ?o2x23, ?o2x24, ?o2x25, ?o2x26, ?o2x27, ?o2x28, ?o2x29, ?o2x30, ?o2x31, ?o2x32, ?o2x33, ?o2x34, ?o2x35, ?o2x36, ?o2x37, ?o2x38, ?o2x39, ?o2x40, ?o2x41, ?o2x42, ?o2x43, ?o2x44, ?o2x45, ?o2x46, ?o2x47, ?o2x48, trivial⟩ ?o2end
  case o2x0 =>
    exact held_run free_wide rfl (by rfl) BelowR.refl fun xsH w' hk hR => ⟨.pointer (some ⟨b0, 0, none⟩), run_fldO rfl ((putsH_old (by kernel_rfl)).trans rfl) (by kernel_rfl), rfl⟩
  case o2x1 =>
    exact held_load free_wide rfl BelowR.refl 3 (.tmp 3) rfl fun xsH w' hk hR => ⟨⟨b0, 0, none⟩, _, ((putsH_tmp (i := 0) (by kernel_rfl) (by kernel_rfl)).trans (show xsH 0 = .pointer (some ⟨b0, 0, none⟩) from hk 0 (by decide))), run_loadVar_cell (naInt w') (((OW.out.step hR).blk (k := 0) rfl).cell 0), rfl⟩
  case o2x2 =>
    refine held_call free_wide rfl 96 _ _ rfl (enters_of Try.func96 (by kernel_rfl) rfl) fun xsH w' hk hR => ?_
    refine ⟨#[.int .i64 r, .int .i64 8], mapE2 ((putsH_tmp (i := 1) (by kernel_rfl) (by kernel_rfl)).trans (show xsH 1 = .int .i64 r from hk 1 (by decide))) rfl, ?_⟩
    refine (callsIn_wide.2 (gpower_any r 8 (by decide) _)).mono ?_
    rintro e w2 ⟨rfl, h2⟩
    exact ⟨_, rfl, rfl, h2⟩
  case o2x3 =>
    exact held_move free_wide rfl BelowR.refl (.tmp 5) (.inl rfl) fun xsH w' hk _ => ((putsH_tmp (i := 2) (by kernel_rfl) (by kernel_rfl)).trans (show xsH 2 = .bool (gpower r 8) from hk 2 (by decide)))
  case o2x4 =>
    refine held_guard free_wide 3 6 true True (gpower r 8) BelowR.refl rfl (by kernel_rfl) (by kernel_rfl) (by kernel_rfl) (fun xsH w' hk => Or.inl ⟨trivial, (show xsH 3 = .bool (gpower r 8) from hk 3 (by decide))⟩) (fun hC hG => ?_) (fun hN w' => Or.inr ⟨hN, rfl⟩)
    exact held_runG free_wide hG (by rfl) BelowR.refl fun xsH w' hk hR => ⟨.pointer (some ⟨b0, 1, none⟩), run_fldO rfl ((putsH_old (by kernel_rfl)).trans rfl) (by kernel_rfl), (Or.inl ⟨hC, rfl⟩)⟩
  case o2x5 =>
    refine held_guard free_wide 3 6 true True (gpower r 8) BelowR.refl rfl (by kernel_rfl) (by kernel_rfl) (by kernel_rfl) (fun xsH w' hk => Or.inl ⟨trivial, (show xsH 3 = .bool (gpower r 8) from hk 3 (by decide))⟩) (fun hC hG => ?_) (fun hN w' => Or.inr ⟨hN, rfl⟩)
    exact held_loadG free_wide hG BelowR.refl 3 (.tmp 7) rfl fun xsH w' hk hR => ⟨⟨b0, 1, none⟩, _, ((putsH_tmp (i := 4) (by kernel_rfl) (by kernel_rfl)).trans ((show cdV (True ∧ (gpower r 8) = true) (fun vH _ => vH = .pointer (some ⟨b0, 1, none⟩)) (xsH 4) w' from hk 4 (by decide)).get hC)), run_loadVar_cell (naInt w') (((OW.out.step hR).blk (k := 0) rfl).cell 1), (Or.inl ⟨hC, rfl⟩)⟩
  case o2x6 =>
    refine held_guard free_wide 3 6 true True (gpower r 8) BelowR.refl rfl (by kernel_rfl) (by kernel_rfl) (by kernel_rfl) (fun xsH w' hk => Or.inl ⟨trivial, (show xsH 3 = .bool (gpower r 8) from hk 3 (by decide))⟩) (fun hC hG => ?_) (fun hN w' => Or.inr ⟨hN, rfl⟩)
    exact held_runG free_wide hG (by rfl) BelowR.refl fun xsH w' hk hR => ⟨.bool (decide (0 ≤ s)), run_binO rfl ((putsH_tmp (i := 5) (by kernel_rfl) (by kernel_rfl)).trans ((show cdV (True ∧ (gpower r 8) = true) (fun vH _ => vH = .int .i64 s) (xsH 5) w' from hk 5 (by decide)).get hC)) rfl bin_geq, (Or.inl ⟨hC, rfl⟩)⟩
  case o2x7 =>
    exact held_run free_wide rfl (by rfl) BelowR.refl fun xsH w' hk hR => ⟨.bool ((gpower r 8) && (decide (0 ≤ s))), run_pickAnd rfl ((putsH_tmp (i := 3) (by kernel_rfl) (by kernel_rfl)).trans (show xsH 3 = .bool (gpower r 8) from hk 3 (by decide))) rfl (fun h => (putsH_tmp (i := 6) (by kernel_rfl) (by kernel_rfl)).trans ((show cdV (True ∧ (gpower r 8) = true) (fun vH _ => vH = .bool (decide (0 ≤ s))) (xsH 6) w' from hk 6 (by decide)).get (And.intro trivial h))), rfl⟩
  case o2x8 =>
    exact held_move free_wide rfl BelowR.refl (.tmp 10) (.inl rfl) fun xsH w' hk _ => ((putsH_tmp (i := 7) (by kernel_rfl) (by kernel_rfl)).trans (show xsH 7 = .bool ((gpower r 8) && (decide (0 ≤ s))) from hk 7 (by decide)))
  case o2x9 =>
    refine held_guard free_wide 8 11 true True ((gpower r 8) && (decide (0 ≤ s))) BelowR.refl rfl (by kernel_rfl) (by kernel_rfl) (by kernel_rfl) (fun xsH w' hk => Or.inl ⟨trivial, (show xsH 8 = .bool ((gpower r 8) && (decide (0 ≤ s))) from hk 8 (by decide))⟩) (fun hC hG => ?_) (fun hN w' => Or.inr ⟨hN, rfl⟩)
    exact held_runG free_wide hG (by rfl) BelowR.refl fun xsH w' hk hR => ⟨.pointer (some ⟨b0, 1, none⟩), run_fldO rfl ((putsH_old (by kernel_rfl)).trans rfl) (by kernel_rfl), (Or.inl ⟨hC, rfl⟩)⟩
  case o2x10 =>
    refine held_guard free_wide 8 11 true True ((gpower r 8) && (decide (0 ≤ s))) BelowR.refl rfl (by kernel_rfl) (by kernel_rfl) (by kernel_rfl) (fun xsH w' hk => Or.inl ⟨trivial, (show xsH 8 = .bool ((gpower r 8) && (decide (0 ≤ s))) from hk 8 (by decide))⟩) (fun hC hG => ?_) (fun hN w' => Or.inr ⟨hN, rfl⟩)
    exact held_loadG free_wide hG BelowR.refl 3 (.tmp 12) rfl fun xsH w' hk hR => ⟨⟨b0, 1, none⟩, _, ((putsH_tmp (i := 9) (by kernel_rfl) (by kernel_rfl)).trans ((show cdV (True ∧ ((gpower r 8) && (decide (0 ≤ s))) = true) (fun vH _ => vH = .pointer (some ⟨b0, 1, none⟩)) (xsH 9) w' from hk 9 (by decide)).get hC)), run_loadVar_cell (naInt w') (((OW.out.step hR).blk (k := 0) rfl).cell 1), (Or.inl ⟨hC, rfl⟩)⟩
  case o2x11 =>
    refine held_guard free_wide 8 11 true True ((gpower r 8) && (decide (0 ≤ s))) BelowR.refl rfl (by kernel_rfl) (by kernel_rfl) (by kernel_rfl) (fun xsH w' hk => Or.inl ⟨trivial, (show xsH 8 = .bool ((gpower r 8) && (decide (0 ≤ s))) from hk 8 (by decide))⟩) (fun hC hG => ?_) (fun hN w' => Or.inr ⟨hN, rfl⟩)
    exact held_runG free_wide hG (by rfl) BelowR.refl fun xsH w' hk hR => ⟨.pointer (some ⟨b0, 0, none⟩), run_fldO rfl ((putsH_old (by kernel_rfl)).trans rfl) (by kernel_rfl), (Or.inl ⟨hC, rfl⟩)⟩
  case o2x12 =>
    refine held_guard free_wide 8 11 true True ((gpower r 8) && (decide (0 ≤ s))) BelowR.refl rfl (by kernel_rfl) (by kernel_rfl) (by kernel_rfl) (fun xsH w' hk => Or.inl ⟨trivial, (show xsH 8 = .bool ((gpower r 8) && (decide (0 ≤ s))) from hk 8 (by decide))⟩) (fun hC hG => ?_) (fun hN w' => Or.inr ⟨hN, rfl⟩)
    exact held_loadG free_wide hG BelowR.refl 3 (.tmp 14) rfl fun xsH w' hk hR => ⟨⟨b0, 0, none⟩, _, ((putsH_tmp (i := 11) (by kernel_rfl) (by kernel_rfl)).trans ((show cdV (True ∧ ((gpower r 8) && (decide (0 ≤ s))) = true) (fun vH _ => vH = .pointer (some ⟨b0, 0, none⟩)) (xsH 11) w' from hk 11 (by decide)).get hC)), run_loadVar_cell (naInt w') (((OW.out.step hR).blk (k := 0) rfl).cell 0), (Or.inl ⟨hC, rfl⟩)⟩
  case o2x13 =>
    refine held_guard free_wide 8 11 true True ((gpower r 8) && (decide (0 ≤ s))) BelowR.refl rfl (by kernel_rfl) (by kernel_rfl) (by kernel_rfl) (fun xsH w' hk => Or.inl ⟨trivial, (show xsH 8 = .bool ((gpower r 8) && (decide (0 ≤ s))) from hk 8 (by decide))⟩) (fun hC hG => ?_) (fun hN w' => Or.inr ⟨hN, rfl⟩)
    exact held_runG free_wide hG (by rfl) BelowR.refl fun xsH w' hk hR => ⟨.int .i64 (8 - r), run_binO (vx := .int .i64 8) (vy := .int .i64 r) rfl rfl ((putsH_tmp (i := 12) (by kernel_rfl) (by kernel_rfl)).trans ((show cdV (True ∧ ((gpower r 8) && (decide (0 ≤ s))) = true) (fun vH _ => vH = .int .i64 r) (xsH 12) w' from hk 12 (by decide)).get hC)) (bin_sub_in (by have h := hC.2; simp only [Bool.and_eq_true] at h; have := gpower_in h.1; omega) (by have h := hC.2; simp only [Bool.and_eq_true] at h; have := gpower_in h.1; omega)), (Or.inl ⟨hC, rfl⟩)⟩
  case o2x14 =>
    refine held_guard free_wide 8 11 true True ((gpower r 8) && (decide (0 ≤ s))) BelowR.refl rfl (by kernel_rfl) (by kernel_rfl) (by kernel_rfl) (fun xsH w' hk => Or.inl ⟨trivial, (show xsH 8 = .bool ((gpower r 8) && (decide (0 ≤ s))) from hk 8 (by decide))⟩) (fun hC hG => ?_) (fun hN w' => Or.inr ⟨hN, rfl⟩)
    exact held_runG free_wide hG (by rfl) BelowR.refl fun xsH w' hk hR => ⟨.bool (decide (s ≤ (8 - r))), run_binO rfl ((putsH_tmp (i := 10) (by kernel_rfl) (by kernel_rfl)).trans ((show cdV (True ∧ ((gpower r 8) && (decide (0 ≤ s))) = true) (fun vH _ => vH = .int .i64 s) (xsH 10) w' from hk 10 (by decide)).get hC)) ((putsH_tmp (i := 13) (by kernel_rfl) (by kernel_rfl)).trans ((show cdV (True ∧ ((gpower r 8) && (decide (0 ≤ s))) = true) (fun vH _ => vH = .int .i64 (8 - r)) (xsH 13) w' from hk 13 (by decide)).get hC)) bin_leq, (Or.inl ⟨hC, rfl⟩)⟩
  case o2x15 =>
    exact held_run free_wide rfl (by rfl) BelowR.refl fun xsH w' hk hR => ⟨.bool (((gpower r 8) && (decide (0 ≤ s))) && (decide (s ≤ (8 - r)))), run_pickAnd rfl ((putsH_tmp (i := 8) (by kernel_rfl) (by kernel_rfl)).trans (show xsH 8 = .bool ((gpower r 8) && (decide (0 ≤ s))) from hk 8 (by decide))) rfl (fun h => (putsH_tmp (i := 14) (by kernel_rfl) (by kernel_rfl)).trans ((show cdV (True ∧ ((gpower r 8) && (decide (0 ≤ s))) = true) (fun vH _ => vH = .bool (decide (s ≤ (8 - r)))) (xsH 14) w' from hk 14 (by decide)).get (And.intro trivial h))), rfl⟩
  case o2x16 =>
    exact held_move free_wide rfl BelowR.refl (.tmp 18) (.inl rfl) fun xsH w' hk _ => ((putsH_tmp (i := 15) (by kernel_rfl) (by kernel_rfl)).trans (show xsH 15 = .bool (((gpower r 8) && (decide (0 ≤ s))) && (decide (s ≤ (8 - r)))) from hk 15 (by decide)))
  case o2x17 =>
    refine held_guard free_wide 16 19 true True (((gpower r 8) && (decide (0 ≤ s))) && (decide (s ≤ (8 - r)))) BelowR.refl rfl (by kernel_rfl) (by kernel_rfl) (by kernel_rfl) (fun xsH w' hk => Or.inl ⟨trivial, (show xsH 16 = .bool (((gpower r 8) && (decide (0 ≤ s))) && (decide (s ≤ (8 - r)))) from hk 16 (by decide))⟩) (fun hC hG => ?_) (fun hN w' => Or.inr ⟨hN, rfl⟩)
    exact held_runG free_wide hG (by rfl) BelowR.refl fun xsH w' hk hR => ⟨.pointer (some ⟨b0, 2, none⟩), run_fldO rfl ((putsH_old (by kernel_rfl)).trans rfl) (by kernel_rfl), (Or.inl ⟨hC, rfl⟩)⟩
  case o2x18 =>
    refine held_guard free_wide 16 19 true True (((gpower r 8) && (decide (0 ≤ s))) && (decide (s ≤ (8 - r)))) BelowR.refl rfl (by kernel_rfl) (by kernel_rfl) (by kernel_rfl) (fun xsH w' hk => Or.inl ⟨trivial, (show xsH 16 = .bool (((gpower r 8) && (decide (0 ≤ s))) && (decide (s ≤ (8 - r)))) from hk 16 (by decide))⟩) (fun hC hG => ?_) (fun hN w' => Or.inr ⟨hN, rfl⟩)
    exact held_loadG free_wide hG BelowR.refl 3 (.tmp 20) rfl fun xsH w' hk hR => ⟨⟨b0, 2, none⟩, _, ((putsH_tmp (i := 17) (by kernel_rfl) (by kernel_rfl)).trans ((show cdV (True ∧ (((gpower r 8) && (decide (0 ≤ s))) && (decide (s ≤ (8 - r)))) = true) (fun vH _ => vH = .pointer (some ⟨b0, 2, none⟩)) (xsH 17) w' from hk 17 (by decide)).get hC)), run_loadVar_cell (naInt w') (((OW.out.step hR).blk (k := 0) rfl).cell 2), (Or.inl ⟨hC, rfl⟩)⟩
  case o2x19 =>
    refine held_guard free_wide 16 19 true True (((gpower r 8) && (decide (0 ≤ s))) && (decide (s ≤ (8 - r)))) BelowR.refl rfl (by kernel_rfl) (by kernel_rfl) (by kernel_rfl) (fun xsH w' hk => Or.inl ⟨trivial, (show xsH 16 = .bool (((gpower r 8) && (decide (0 ≤ s))) && (decide (s ≤ (8 - r)))) from hk 16 (by decide))⟩) (fun hC hG => ?_) (fun hN w' => Or.inr ⟨hN, rfl⟩)
    refine held_callG free_wide hG 96 _ _ rfl (enters_of Try.func96 (by kernel_rfl) rfl) fun xsH w' hk hR => ?_
    refine ⟨#[.int .i64 b, .int .i64 16], mapE2 ((putsH_tmp (i := 18) (by kernel_rfl) (by kernel_rfl)).trans ((show cdV (True ∧ (((gpower r 8) && (decide (0 ≤ s))) && (decide (s ≤ (8 - r)))) = true) (fun vH _ => vH = .int .i64 b) (xsH 18) w' from hk 18 (by decide)).get hC)) rfl, ?_⟩
    refine (callsIn_wide.2 (gpower_any b 16 (by decide) _)).mono ?_
    rintro e w2 ⟨rfl, h2⟩
    exact ⟨_, rfl, (Or.inl ⟨hC, rfl⟩), h2⟩
  case o2x20 =>
    exact held_run free_wide rfl (by rfl) BelowR.refl fun xsH w' hk hR => ⟨.bool ((((gpower r 8) && (decide (0 ≤ s))) && (decide (s ≤ (8 - r)))) && (gpower b 16)), run_pickAnd rfl ((putsH_tmp (i := 16) (by kernel_rfl) (by kernel_rfl)).trans (show xsH 16 = .bool (((gpower r 8) && (decide (0 ≤ s))) && (decide (s ≤ (8 - r)))) from hk 16 (by decide))) rfl (fun h => (putsH_tmp (i := 19) (by kernel_rfl) (by kernel_rfl)).trans ((show cdV (True ∧ (((gpower r 8) && (decide (0 ≤ s))) && (decide (s ≤ (8 - r)))) = true) (fun vH _ => vH = .bool (gpower b 16)) (xsH 19) w' from hk 19 (by decide)).get (And.intro trivial h))), rfl⟩
  case o2x21 =>
    exact held_move free_wide rfl BelowR.refl (.tmp 23) (.inl rfl) fun xsH w' hk _ => ((putsH_tmp (i := 20) (by kernel_rfl) (by kernel_rfl)).trans (show xsH 20 = .bool ((((gpower r 8) && (decide (0 ≤ s))) && (decide (s ≤ (8 - r)))) && (gpower b 16)) from hk 20 (by decide)))
  case o2x22 =>
    refine held_guard free_wide 21 24 true True ((((gpower r 8) && (decide (0 ≤ s))) && (decide (s ≤ (8 - r)))) && (gpower b 16)) BelowR.refl rfl (by kernel_rfl) (by kernel_rfl) (by kernel_rfl) (fun xsH w' hk => Or.inl ⟨trivial, (show xsH 21 = .bool ((((gpower r 8) && (decide (0 ≤ s))) && (decide (s ≤ (8 - r)))) && (gpower b 16)) from hk 21 (by decide))⟩) (fun hC hG => ?_) (fun hN w' => Or.inr ⟨hN, rfl⟩)
    exact held_runG free_wide hG (by rfl) BelowR.refl fun xsH w' hk hR => ⟨.pointer (some ⟨b0, 3, none⟩), run_fldO rfl ((putsH_old (by kernel_rfl)).trans rfl) (by kernel_rfl), (Or.inl ⟨hC, rfl⟩)⟩
  case o2x23 =>
    refine held_guard free_wide 21 24 true True ((((gpower r 8) && (decide (0 ≤ s))) && (decide (s ≤ (8 - r)))) && (gpower b 16)) BelowR.refl rfl (by kernel_rfl) (by kernel_rfl) (by kernel_rfl) (fun xsH w' hk => Or.inl ⟨trivial, (show xsH 21 = .bool ((((gpower r 8) && (decide (0 ≤ s))) && (decide (s ≤ (8 - r)))) && (gpower b 16)) from hk 21 (by decide))⟩) (fun hC hG => ?_) (fun hN w' => Or.inr ⟨hN, rfl⟩)
    exact held_loadG free_wide hG BelowR.refl 3 (.tmp 25) rfl fun xsH w' hk hR => ⟨⟨b0, 3, none⟩, _, ((putsH_tmp (i := 22) (by kernel_rfl) (by kernel_rfl)).trans ((show cdV (True ∧ ((((gpower r 8) && (decide (0 ≤ s))) && (decide (s ≤ (8 - r)))) && (gpower b 16)) = true) (fun vH _ => vH = .pointer (some ⟨b0, 3, none⟩)) (xsH 22) w' from hk 22 (by decide)).get hC)), run_loadVar_cell (naInt w') (((OW.out.step hR).blk (k := 0) rfl).cell 3), (Or.inl ⟨hC, rfl⟩)⟩
  case o2x24 =>
    refine held_guard free_wide 21 24 true True ((((gpower r 8) && (decide (0 ≤ s))) && (decide (s ≤ (8 - r)))) && (gpower b 16)) BelowR.refl rfl (by kernel_rfl) (by kernel_rfl) (by kernel_rfl) (fun xsH w' hk => Or.inl ⟨trivial, (show xsH 21 = .bool ((((gpower r 8) && (decide (0 ≤ s))) && (decide (s ≤ (8 - r)))) && (gpower b 16)) from hk 21 (by decide))⟩) (fun hC hG => ?_) (fun hN w' => Or.inr ⟨hN, rfl⟩)
    refine held_callG free_wide hG 96 _ _ rfl (enters_of Try.func96 (by kernel_rfl) rfl) fun xsH w' hk hR => ?_
    refine ⟨#[.int .i64 m, .int .i64 1024], mapE2 ((putsH_tmp (i := 23) (by kernel_rfl) (by kernel_rfl)).trans ((show cdV (True ∧ ((((gpower r 8) && (decide (0 ≤ s))) && (decide (s ≤ (8 - r)))) && (gpower b 16)) = true) (fun vH _ => vH = .int .i64 m) (xsH 23) w' from hk 23 (by decide)).get hC)) rfl, ?_⟩
    refine (callsIn_wide.2 (gpower_any m 1024 (by decide) _)).mono ?_
    rintro e w2 ⟨rfl, h2⟩
    exact ⟨_, rfl, (Or.inl ⟨hC, rfl⟩), h2⟩
  case o2x25 =>
    exact held_run free_wide rfl (by rfl) BelowR.refl fun xsH w' hk hR => ⟨.bool (((((gpower r 8) && (decide (0 ≤ s))) && (decide (s ≤ (8 - r)))) && (gpower b 16)) && (gpower m 1024)), run_pickAnd rfl ((putsH_tmp (i := 21) (by kernel_rfl) (by kernel_rfl)).trans (show xsH 21 = .bool ((((gpower r 8) && (decide (0 ≤ s))) && (decide (s ≤ (8 - r)))) && (gpower b 16)) from hk 21 (by decide))) rfl (fun h => (putsH_tmp (i := 24) (by kernel_rfl) (by kernel_rfl)).trans ((show cdV (True ∧ ((((gpower r 8) && (decide (0 ≤ s))) && (decide (s ≤ (8 - r)))) && (gpower b 16)) = true) (fun vH _ => vH = .bool (gpower m 1024)) (xsH 24) w' from hk 24 (by decide)).get (And.intro trivial h))), rfl⟩
  case o2x26 =>
    exact held_move free_wide rfl BelowR.refl (.tmp 28) (.inl rfl) fun xsH w' hk _ => ((putsH_tmp (i := 25) (by kernel_rfl) (by kernel_rfl)).trans (show xsH 25 = .bool (((((gpower r 8) && (decide (0 ≤ s))) && (decide (s ≤ (8 - r)))) && (gpower b 16)) && (gpower m 1024)) from hk 25 (by decide)))
  case o2x27 =>
    refine held_guard free_wide 26 29 true True (((((gpower r 8) && (decide (0 ≤ s))) && (decide (s ≤ (8 - r)))) && (gpower b 16)) && (gpower m 1024)) BelowR.refl rfl (by kernel_rfl) (by kernel_rfl) (by kernel_rfl) (fun xsH w' hk => Or.inl ⟨trivial, (show xsH 26 = .bool (((((gpower r 8) && (decide (0 ≤ s))) && (decide (s ≤ (8 - r)))) && (gpower b 16)) && (gpower m 1024)) from hk 26 (by decide))⟩) (fun hC hG => ?_) (fun hN w' => Or.inr ⟨hN, rfl⟩)
    exact held_runG free_wide hG (by rfl) BelowR.refl fun xsH w' hk hR => ⟨.pointer (some ⟨b0, 4, none⟩), run_fldO rfl ((putsH_old (by kernel_rfl)).trans rfl) (by kernel_rfl), (Or.inl ⟨hC, rfl⟩)⟩
  case o2x28 =>
    refine held_guard free_wide 26 29 true True (((((gpower r 8) && (decide (0 ≤ s))) && (decide (s ≤ (8 - r)))) && (gpower b 16)) && (gpower m 1024)) BelowR.refl rfl (by kernel_rfl) (by kernel_rfl) (by kernel_rfl) (fun xsH w' hk => Or.inl ⟨trivial, (show xsH 26 = .bool (((((gpower r 8) && (decide (0 ≤ s))) && (decide (s ≤ (8 - r)))) && (gpower b 16)) && (gpower m 1024)) from hk 26 (by decide))⟩) (fun hC hG => ?_) (fun hN w' => Or.inr ⟨hN, rfl⟩)
    exact held_loadG free_wide hG BelowR.refl 3 (.tmp 30) rfl fun xsH w' hk hR => ⟨⟨b0, 4, none⟩, _, ((putsH_tmp (i := 27) (by kernel_rfl) (by kernel_rfl)).trans ((show cdV (True ∧ (((((gpower r 8) && (decide (0 ≤ s))) && (decide (s ≤ (8 - r)))) && (gpower b 16)) && (gpower m 1024)) = true) (fun vH _ => vH = .pointer (some ⟨b0, 4, none⟩)) (xsH 27) w' from hk 27 (by decide)).get hC)), run_loadVar_cell (naInt w') (((OW.out.step hR).blk (k := 0) rfl).cell 4), (Or.inl ⟨hC, rfl⟩)⟩
  case o2x29 =>
    refine held_guard free_wide 26 29 true True (((((gpower r 8) && (decide (0 ≤ s))) && (decide (s ≤ (8 - r)))) && (gpower b 16)) && (gpower m 1024)) BelowR.refl rfl (by kernel_rfl) (by kernel_rfl) (by kernel_rfl) (fun xsH w' hk => Or.inl ⟨trivial, (show xsH 26 = .bool (((((gpower r 8) && (decide (0 ≤ s))) && (decide (s ≤ (8 - r)))) && (gpower b 16)) && (gpower m 1024)) from hk 26 (by decide))⟩) (fun hC hG => ?_) (fun hN w' => Or.inr ⟨hN, rfl⟩)
    refine held_callG free_wide hG 96 _ _ rfl (enters_of Try.func96 (by kernel_rfl) rfl) fun xsH w' hk hR => ?_
    refine ⟨#[.int .i64 c, .int .i64 64], mapE2 ((putsH_tmp (i := 28) (by kernel_rfl) (by kernel_rfl)).trans ((show cdV (True ∧ (((((gpower r 8) && (decide (0 ≤ s))) && (decide (s ≤ (8 - r)))) && (gpower b 16)) && (gpower m 1024)) = true) (fun vH _ => vH = .int .i64 c) (xsH 28) w' from hk 28 (by decide)).get hC)) rfl, ?_⟩
    refine (callsIn_wide.2 (gpower_any c 64 (by decide) _)).mono ?_
    rintro e w2 ⟨rfl, h2⟩
    exact ⟨_, rfl, (Or.inl ⟨hC, rfl⟩), h2⟩
  case o2x30 =>
    exact held_run free_wide rfl (by rfl) BelowR.refl fun xsH w' hk hR => ⟨.bool ((((((gpower r 8) && (decide (0 ≤ s))) && (decide (s ≤ (8 - r)))) && (gpower b 16)) && (gpower m 1024)) && (gpower c 64)), run_pickAnd rfl ((putsH_tmp (i := 26) (by kernel_rfl) (by kernel_rfl)).trans (show xsH 26 = .bool (((((gpower r 8) && (decide (0 ≤ s))) && (decide (s ≤ (8 - r)))) && (gpower b 16)) && (gpower m 1024)) from hk 26 (by decide))) rfl (fun h => (putsH_tmp (i := 29) (by kernel_rfl) (by kernel_rfl)).trans ((show cdV (True ∧ (((((gpower r 8) && (decide (0 ≤ s))) && (decide (s ≤ (8 - r)))) && (gpower b 16)) && (gpower m 1024)) = true) (fun vH _ => vH = .bool (gpower c 64)) (xsH 29) w' from hk 29 (by decide)).get (And.intro trivial h))), rfl⟩
  case o2x31 =>
    exact held_move free_wide rfl BelowR.refl (.tmp 33) (.inl rfl) fun xsH w' hk _ => ((putsH_tmp (i := 30) (by kernel_rfl) (by kernel_rfl)).trans (show xsH 30 = .bool ((((((gpower r 8) && (decide (0 ≤ s))) && (decide (s ≤ (8 - r)))) && (gpower b 16)) && (gpower m 1024)) && (gpower c 64)) from hk 30 (by decide)))
  case o2x32 =>
    refine held_guard free_wide 31 34 true True ((((((gpower r 8) && (decide (0 ≤ s))) && (decide (s ≤ (8 - r)))) && (gpower b 16)) && (gpower m 1024)) && (gpower c 64)) BelowR.refl rfl (by kernel_rfl) (by kernel_rfl) (by kernel_rfl) (fun xsH w' hk => Or.inl ⟨trivial, (show xsH 31 = .bool ((((((gpower r 8) && (decide (0 ≤ s))) && (decide (s ≤ (8 - r)))) && (gpower b 16)) && (gpower m 1024)) && (gpower c 64)) from hk 31 (by decide))⟩) (fun hC hG => ?_) (fun hN w' => Or.inr ⟨hN, rfl⟩)
    exact held_runG free_wide hG (by rfl) BelowR.refl fun xsH w' hk hR => ⟨.pointer (some ⟨b0, 0, none⟩), run_fldO rfl ((putsH_old (by kernel_rfl)).trans rfl) (by kernel_rfl), (Or.inl ⟨hC, rfl⟩)⟩
  case o2x33 =>
    refine held_guard free_wide 31 34 true True ((((((gpower r 8) && (decide (0 ≤ s))) && (decide (s ≤ (8 - r)))) && (gpower b 16)) && (gpower m 1024)) && (gpower c 64)) BelowR.refl rfl (by kernel_rfl) (by kernel_rfl) (by kernel_rfl) (fun xsH w' hk => Or.inl ⟨trivial, (show xsH 31 = .bool ((((((gpower r 8) && (decide (0 ≤ s))) && (decide (s ≤ (8 - r)))) && (gpower b 16)) && (gpower m 1024)) && (gpower c 64)) from hk 31 (by decide))⟩) (fun hC hG => ?_) (fun hN w' => Or.inr ⟨hN, rfl⟩)
    exact held_loadG free_wide hG BelowR.refl 3 (.tmp 35) rfl fun xsH w' hk hR => ⟨⟨b0, 0, none⟩, _, ((putsH_tmp (i := 32) (by kernel_rfl) (by kernel_rfl)).trans ((show cdV (True ∧ ((((((gpower r 8) && (decide (0 ≤ s))) && (decide (s ≤ (8 - r)))) && (gpower b 16)) && (gpower m 1024)) && (gpower c 64)) = true) (fun vH _ => vH = .pointer (some ⟨b0, 0, none⟩)) (xsH 32) w' from hk 32 (by decide)).get hC)), run_loadVar_cell (naInt w') (((OW.out.step hR).blk (k := 0) rfl).cell 0), (Or.inl ⟨hC, rfl⟩)⟩
  case o2x34 =>
    refine held_guard free_wide 31 34 true True ((((((gpower r 8) && (decide (0 ≤ s))) && (decide (s ≤ (8 - r)))) && (gpower b 16)) && (gpower m 1024)) && (gpower c 64)) BelowR.refl rfl (by kernel_rfl) (by kernel_rfl) (by kernel_rfl) (fun xsH w' hk => Or.inl ⟨trivial, (show xsH 31 = .bool ((((((gpower r 8) && (decide (0 ≤ s))) && (decide (s ≤ (8 - r)))) && (gpower b 16)) && (gpower m 1024)) && (gpower c 64)) from hk 31 (by decide))⟩) (fun hC hG => ?_) (fun hN w' => Or.inr ⟨hN, rfl⟩)
    exact held_runG free_wide hG (by rfl) BelowR.refl fun xsH w' hk hR => ⟨.pointer (some ⟨b0, 1, none⟩), run_fldO rfl ((putsH_old (by kernel_rfl)).trans rfl) (by kernel_rfl), (Or.inl ⟨hC, rfl⟩)⟩
  case o2x35 =>
    refine held_guard free_wide 31 34 true True ((((((gpower r 8) && (decide (0 ≤ s))) && (decide (s ≤ (8 - r)))) && (gpower b 16)) && (gpower m 1024)) && (gpower c 64)) BelowR.refl rfl (by kernel_rfl) (by kernel_rfl) (by kernel_rfl) (fun xsH w' hk => Or.inl ⟨trivial, (show xsH 31 = .bool ((((((gpower r 8) && (decide (0 ≤ s))) && (decide (s ≤ (8 - r)))) && (gpower b 16)) && (gpower m 1024)) && (gpower c 64)) from hk 31 (by decide))⟩) (fun hC hG => ?_) (fun hN w' => Or.inr ⟨hN, rfl⟩)
    exact held_loadG free_wide hG BelowR.refl 3 (.tmp 37) rfl fun xsH w' hk hR => ⟨⟨b0, 1, none⟩, _, ((putsH_tmp (i := 34) (by kernel_rfl) (by kernel_rfl)).trans ((show cdV (True ∧ ((((((gpower r 8) && (decide (0 ≤ s))) && (decide (s ≤ (8 - r)))) && (gpower b 16)) && (gpower m 1024)) && (gpower c 64)) = true) (fun vH _ => vH = .pointer (some ⟨b0, 1, none⟩)) (xsH 34) w' from hk 34 (by decide)).get hC)), run_loadVar_cell (naInt w') (((OW.out.step hR).blk (k := 0) rfl).cell 1), (Or.inl ⟨hC, rfl⟩)⟩
  case o2x36 =>
    refine held_guard free_wide 31 34 true True ((((((gpower r 8) && (decide (0 ≤ s))) && (decide (s ≤ (8 - r)))) && (gpower b 16)) && (gpower m 1024)) && (gpower c 64)) BelowR.refl rfl (by kernel_rfl) (by kernel_rfl) (by kernel_rfl) (fun xsH w' hk => Or.inl ⟨trivial, (show xsH 31 = .bool ((((((gpower r 8) && (decide (0 ≤ s))) && (decide (s ≤ (8 - r)))) && (gpower b 16)) && (gpower m 1024)) && (gpower c 64)) from hk 31 (by decide))⟩) (fun hC hG => ?_) (fun hN w' => Or.inr ⟨hN, rfl⟩)
    exact held_runG free_wide hG (by rfl) BelowR.refl fun xsH w' hk hR => ⟨.int .i64 (r + s), run_binO (vx := .int .i64 r) (vy := .int .i64 s) rfl ((putsH_tmp (i := 33) (by kernel_rfl) (by kernel_rfl)).trans ((show cdV (True ∧ ((((((gpower r 8) && (decide (0 ≤ s))) && (decide (s ≤ (8 - r)))) && (gpower b 16)) && (gpower m 1024)) && (gpower c 64)) = true) (fun vH _ => vH = .int .i64 r) (xsH 33) w' from hk 33 (by decide)).get hC)) ((putsH_tmp (i := 35) (by kernel_rfl) (by kernel_rfl)).trans ((show cdV (True ∧ ((((((gpower r 8) && (decide (0 ≤ s))) && (decide (s ≤ (8 - r)))) && (gpower b 16)) && (gpower m 1024)) && (gpower c 64)) = true) (fun vH _ => vH = .int .i64 s) (xsH 35) w' from hk 35 (by decide)).get hC)) (bin_add_in (by (have h := gR_in hC.2; omega)) (by (have h := gR_in hC.2; omega))), (Or.inl ⟨hC, rfl⟩)⟩
  case o2x37 =>
    refine held_guard free_wide 31 34 true True ((((((gpower r 8) && (decide (0 ≤ s))) && (decide (s ≤ (8 - r)))) && (gpower b 16)) && (gpower m 1024)) && (gpower c 64)) BelowR.refl rfl (by kernel_rfl) (by kernel_rfl) (by kernel_rfl) (fun xsH w' hk => Or.inl ⟨trivial, (show xsH 31 = .bool ((((((gpower r 8) && (decide (0 ≤ s))) && (decide (s ≤ (8 - r)))) && (gpower b 16)) && (gpower m 1024)) && (gpower c 64)) from hk 31 (by decide))⟩) (fun hC hG => ?_) (fun hN w' => Or.inr ⟨hN, rfl⟩)
    exact held_runG free_wide hG (by rfl) BelowR.refl fun xsH w' hk hR => ⟨.pointer (some ⟨b0, 2, none⟩), run_fldO rfl ((putsH_old (by kernel_rfl)).trans rfl) (by kernel_rfl), (Or.inl ⟨hC, rfl⟩)⟩
  case o2x38 =>
    refine held_guard free_wide 31 34 true True ((((((gpower r 8) && (decide (0 ≤ s))) && (decide (s ≤ (8 - r)))) && (gpower b 16)) && (gpower m 1024)) && (gpower c 64)) BelowR.refl rfl (by kernel_rfl) (by kernel_rfl) (by kernel_rfl) (fun xsH w' hk => Or.inl ⟨trivial, (show xsH 31 = .bool ((((((gpower r 8) && (decide (0 ≤ s))) && (decide (s ≤ (8 - r)))) && (gpower b 16)) && (gpower m 1024)) && (gpower c 64)) from hk 31 (by decide))⟩) (fun hC hG => ?_) (fun hN w' => Or.inr ⟨hN, rfl⟩)
    exact held_loadG free_wide hG BelowR.refl 3 (.tmp 40) rfl fun xsH w' hk hR => ⟨⟨b0, 2, none⟩, _, ((putsH_tmp (i := 37) (by kernel_rfl) (by kernel_rfl)).trans ((show cdV (True ∧ ((((((gpower r 8) && (decide (0 ≤ s))) && (decide (s ≤ (8 - r)))) && (gpower b 16)) && (gpower m 1024)) && (gpower c 64)) = true) (fun vH _ => vH = .pointer (some ⟨b0, 2, none⟩)) (xsH 37) w' from hk 37 (by decide)).get hC)), run_loadVar_cell (naInt w') (((OW.out.step hR).blk (k := 0) rfl).cell 2), (Or.inl ⟨hC, rfl⟩)⟩
  case o2x39 =>
    refine held_guard free_wide 31 34 true True ((((((gpower r 8) && (decide (0 ≤ s))) && (decide (s ≤ (8 - r)))) && (gpower b 16)) && (gpower m 1024)) && (gpower c 64)) BelowR.refl rfl (by kernel_rfl) (by kernel_rfl) (by kernel_rfl) (fun xsH w' hk => Or.inl ⟨trivial, (show xsH 31 = .bool ((((((gpower r 8) && (decide (0 ≤ s))) && (decide (s ≤ (8 - r)))) && (gpower b 16)) && (gpower m 1024)) && (gpower c 64)) from hk 31 (by decide))⟩) (fun hC hG => ?_) (fun hN w' => Or.inr ⟨hN, rfl⟩)
    exact held_runG free_wide hG (by rfl) BelowR.refl fun xsH w' hk hR => ⟨.int .i64 ((r + s) * b), run_binO (vx := .int .i64 (r + s)) (vy := .int .i64 b) rfl ((putsH_tmp (i := 36) (by kernel_rfl) (by kernel_rfl)).trans ((show cdV (True ∧ ((((((gpower r 8) && (decide (0 ≤ s))) && (decide (s ≤ (8 - r)))) && (gpower b 16)) && (gpower m 1024)) && (gpower c 64)) = true) (fun vH _ => vH = .int .i64 (r + s)) (xsH 36) w' from hk 36 (by decide)).get hC)) ((putsH_tmp (i := 38) (by kernel_rfl) (by kernel_rfl)).trans ((show cdV (True ∧ ((((((gpower r 8) && (decide (0 ≤ s))) && (decide (s ≤ (8 - r)))) && (gpower b 16)) && (gpower m 1024)) && (gpower c 64)) = true) (fun vH _ => vH = .int .i64 b) (xsH 38) w' from hk 38 (by decide)).get hC)) (bin_mul_in (by (have h := gR_in hC.2; omega)) (by (have h := gR_in hC.2; omega))), (Or.inl ⟨hC, rfl⟩)⟩
  case o2x40 =>
    refine held_guard free_wide 31 34 true True ((((((gpower r 8) && (decide (0 ≤ s))) && (decide (s ≤ (8 - r)))) && (gpower b 16)) && (gpower m 1024)) && (gpower c 64)) BelowR.refl rfl (by kernel_rfl) (by kernel_rfl) (by kernel_rfl) (fun xsH w' hk => Or.inl ⟨trivial, (show xsH 31 = .bool ((((((gpower r 8) && (decide (0 ≤ s))) && (decide (s ≤ (8 - r)))) && (gpower b 16)) && (gpower m 1024)) && (gpower c 64)) from hk 31 (by decide))⟩) (fun hC hG => ?_) (fun hN w' => Or.inr ⟨hN, rfl⟩)
    exact held_runG free_wide hG (by rfl) BelowR.refl fun xsH w' hk hR => ⟨.pointer (some ⟨b0, 3, none⟩), run_fldO rfl ((putsH_old (by kernel_rfl)).trans rfl) (by kernel_rfl), (Or.inl ⟨hC, rfl⟩)⟩
  case o2x41 =>
    refine held_guard free_wide 31 34 true True ((((((gpower r 8) && (decide (0 ≤ s))) && (decide (s ≤ (8 - r)))) && (gpower b 16)) && (gpower m 1024)) && (gpower c 64)) BelowR.refl rfl (by kernel_rfl) (by kernel_rfl) (by kernel_rfl) (fun xsH w' hk => Or.inl ⟨trivial, (show xsH 31 = .bool ((((((gpower r 8) && (decide (0 ≤ s))) && (decide (s ≤ (8 - r)))) && (gpower b 16)) && (gpower m 1024)) && (gpower c 64)) from hk 31 (by decide))⟩) (fun hC hG => ?_) (fun hN w' => Or.inr ⟨hN, rfl⟩)
    exact held_loadG free_wide hG BelowR.refl 3 (.tmp 43) rfl fun xsH w' hk hR => ⟨⟨b0, 3, none⟩, _, ((putsH_tmp (i := 40) (by kernel_rfl) (by kernel_rfl)).trans ((show cdV (True ∧ ((((((gpower r 8) && (decide (0 ≤ s))) && (decide (s ≤ (8 - r)))) && (gpower b 16)) && (gpower m 1024)) && (gpower c 64)) = true) (fun vH _ => vH = .pointer (some ⟨b0, 3, none⟩)) (xsH 40) w' from hk 40 (by decide)).get hC)), run_loadVar_cell (naInt w') (((OW.out.step hR).blk (k := 0) rfl).cell 3), (Or.inl ⟨hC, rfl⟩)⟩
  case o2x42 =>
    refine held_guard free_wide 31 34 true True ((((((gpower r 8) && (decide (0 ≤ s))) && (decide (s ≤ (8 - r)))) && (gpower b 16)) && (gpower m 1024)) && (gpower c 64)) BelowR.refl rfl (by kernel_rfl) (by kernel_rfl) (by kernel_rfl) (fun xsH w' hk => Or.inl ⟨trivial, (show xsH 31 = .bool ((((((gpower r 8) && (decide (0 ≤ s))) && (decide (s ≤ (8 - r)))) && (gpower b 16)) && (gpower m 1024)) && (gpower c 64)) from hk 31 (by decide))⟩) (fun hC hG => ?_) (fun hN w' => Or.inr ⟨hN, rfl⟩)
    exact held_runG free_wide hG (by rfl) BelowR.refl fun xsH w' hk hR => ⟨.int .i64 (((r + s) * b) * m), run_binO (vx := .int .i64 ((r + s) * b)) (vy := .int .i64 m) rfl ((putsH_tmp (i := 39) (by kernel_rfl) (by kernel_rfl)).trans ((show cdV (True ∧ ((((((gpower r 8) && (decide (0 ≤ s))) && (decide (s ≤ (8 - r)))) && (gpower b 16)) && (gpower m 1024)) && (gpower c 64)) = true) (fun vH _ => vH = .int .i64 ((r + s) * b)) (xsH 39) w' from hk 39 (by decide)).get hC)) ((putsH_tmp (i := 41) (by kernel_rfl) (by kernel_rfl)).trans ((show cdV (True ∧ ((((((gpower r 8) && (decide (0 ≤ s))) && (decide (s ≤ (8 - r)))) && (gpower b 16)) && (gpower m 1024)) && (gpower c 64)) = true) (fun vH _ => vH = .int .i64 m) (xsH 41) w' from hk 41 (by decide)).get hC)) (bin_mul_in (by (have h := gR_in hC.2; omega)) (by (have h := gR_in hC.2; omega))), (Or.inl ⟨hC, rfl⟩)⟩
  case o2x43 =>
    refine held_guard free_wide 31 34 true True ((((((gpower r 8) && (decide (0 ≤ s))) && (decide (s ≤ (8 - r)))) && (gpower b 16)) && (gpower m 1024)) && (gpower c 64)) BelowR.refl rfl (by kernel_rfl) (by kernel_rfl) (by kernel_rfl) (fun xsH w' hk => Or.inl ⟨trivial, (show xsH 31 = .bool ((((((gpower r 8) && (decide (0 ≤ s))) && (decide (s ≤ (8 - r)))) && (gpower b 16)) && (gpower m 1024)) && (gpower c 64)) from hk 31 (by decide))⟩) (fun hC hG => ?_) (fun hN w' => Or.inr ⟨hN, rfl⟩)
    exact held_runG free_wide hG (by rfl) BelowR.refl fun xsH w' hk hR => ⟨.pointer (some ⟨b0, 4, none⟩), run_fldO rfl ((putsH_old (by kernel_rfl)).trans rfl) (by kernel_rfl), (Or.inl ⟨hC, rfl⟩)⟩
  case o2x44 =>
    refine held_guard free_wide 31 34 true True ((((((gpower r 8) && (decide (0 ≤ s))) && (decide (s ≤ (8 - r)))) && (gpower b 16)) && (gpower m 1024)) && (gpower c 64)) BelowR.refl rfl (by kernel_rfl) (by kernel_rfl) (by kernel_rfl) (fun xsH w' hk => Or.inl ⟨trivial, (show xsH 31 = .bool ((((((gpower r 8) && (decide (0 ≤ s))) && (decide (s ≤ (8 - r)))) && (gpower b 16)) && (gpower m 1024)) && (gpower c 64)) from hk 31 (by decide))⟩) (fun hC hG => ?_) (fun hN w' => Or.inr ⟨hN, rfl⟩)
    exact held_loadG free_wide hG BelowR.refl 3 (.tmp 46) rfl fun xsH w' hk hR => ⟨⟨b0, 4, none⟩, _, ((putsH_tmp (i := 43) (by kernel_rfl) (by kernel_rfl)).trans ((show cdV (True ∧ ((((((gpower r 8) && (decide (0 ≤ s))) && (decide (s ≤ (8 - r)))) && (gpower b 16)) && (gpower m 1024)) && (gpower c 64)) = true) (fun vH _ => vH = .pointer (some ⟨b0, 4, none⟩)) (xsH 43) w' from hk 43 (by decide)).get hC)), run_loadVar_cell (naInt w') (((OW.out.step hR).blk (k := 0) rfl).cell 4), (Or.inl ⟨hC, rfl⟩)⟩
  case o2x45 =>
    refine held_guard free_wide 31 34 true True ((((((gpower r 8) && (decide (0 ≤ s))) && (decide (s ≤ (8 - r)))) && (gpower b 16)) && (gpower m 1024)) && (gpower c 64)) BelowR.refl rfl (by kernel_rfl) (by kernel_rfl) (by kernel_rfl) (fun xsH w' hk => Or.inl ⟨trivial, (show xsH 31 = .bool ((((((gpower r 8) && (decide (0 ≤ s))) && (decide (s ≤ (8 - r)))) && (gpower b 16)) && (gpower m 1024)) && (gpower c 64)) from hk 31 (by decide))⟩) (fun hC hG => ?_) (fun hN w' => Or.inr ⟨hN, rfl⟩)
    exact held_runG free_wide hG (by rfl) BelowR.refl fun xsH w' hk hR => ⟨.int .i64 ((((r + s) * b) * m) * c), run_binO (vx := .int .i64 (((r + s) * b) * m)) (vy := .int .i64 c) rfl ((putsH_tmp (i := 42) (by kernel_rfl) (by kernel_rfl)).trans ((show cdV (True ∧ ((((((gpower r 8) && (decide (0 ≤ s))) && (decide (s ≤ (8 - r)))) && (gpower b 16)) && (gpower m 1024)) && (gpower c 64)) = true) (fun vH _ => vH = .int .i64 (((r + s) * b) * m)) (xsH 42) w' from hk 42 (by decide)).get hC)) ((putsH_tmp (i := 44) (by kernel_rfl) (by kernel_rfl)).trans ((show cdV (True ∧ ((((((gpower r 8) && (decide (0 ≤ s))) && (decide (s ≤ (8 - r)))) && (gpower b 16)) && (gpower m 1024)) && (gpower c 64)) = true) (fun vH _ => vH = .int .i64 c) (xsH 44) w' from hk 44 (by decide)).get hC)) (bin_mul_in (by (have h := gR_in hC.2; omega)) (by (have h := gR_in hC.2; omega))), (Or.inl ⟨hC, rfl⟩)⟩
  case o2x46 =>
    refine held_guard free_wide 31 34 true True ((((((gpower r 8) && (decide (0 ≤ s))) && (decide (s ≤ (8 - r)))) && (gpower b 16)) && (gpower m 1024)) && (gpower c 64)) BelowR.refl rfl (by kernel_rfl) (by kernel_rfl) (by kernel_rfl) (fun xsH w' hk => Or.inl ⟨trivial, (show xsH 31 = .bool ((((((gpower r 8) && (decide (0 ≤ s))) && (decide (s ≤ (8 - r)))) && (gpower b 16)) && (gpower m 1024)) && (gpower c 64)) from hk 31 (by decide))⟩) (fun hC hG => ?_) (fun hN w' => Or.inr ⟨hN, rfl⟩)
    exact held_runG free_wide hG (by rfl) BelowR.refl fun xsH w' hk hR => ⟨.bool (decide (((((r + s) * b) * m) * c) ≤ 4096)), run_binO rfl ((putsH_tmp (i := 45) (by kernel_rfl) (by kernel_rfl)).trans ((show cdV (True ∧ ((((((gpower r 8) && (decide (0 ≤ s))) && (decide (s ≤ (8 - r)))) && (gpower b 16)) && (gpower m 1024)) && (gpower c 64)) = true) (fun vH _ => vH = .int .i64 ((((r + s) * b) * m) * c)) (xsH 45) w' from hk 45 (by decide)).get hC)) rfl bin_leq, (Or.inl ⟨hC, rfl⟩)⟩
  case o2x47 =>
    exact held_run free_wide rfl (by rfl) BelowR.refl fun xsH w' hk hR => ⟨.bool (((((((gpower r 8) && (decide (0 ≤ s))) && (decide (s ≤ (8 - r)))) && (gpower b 16)) && (gpower m 1024)) && (gpower c 64)) && (decide (((((r + s) * b) * m) * c) ≤ 4096))), run_pickAnd rfl ((putsH_tmp (i := 31) (by kernel_rfl) (by kernel_rfl)).trans (show xsH 31 = .bool ((((((gpower r 8) && (decide (0 ≤ s))) && (decide (s ≤ (8 - r)))) && (gpower b 16)) && (gpower m 1024)) && (gpower c 64)) from hk 31 (by decide))) rfl (fun h => (putsH_tmp (i := 46) (by kernel_rfl) (by kernel_rfl)).trans ((show cdV (True ∧ ((((((gpower r 8) && (decide (0 ≤ s))) && (decide (s ≤ (8 - r)))) && (gpower b 16)) && (gpower m 1024)) && (gpower c 64)) = true) (fun vH _ => vH = .bool (decide (((((r + s) * b) * m) * c) ≤ 4096))) (xsH 46) w' from hk 46 (by decide)).get (And.intro trivial h))), rfl⟩
  case o2x48 =>
    exact held_move free_wide rfl BelowR.refl (.tmp 50) (.inr rfl) fun xsH w' hk _ => ((putsH_tmp (i := 47) (by kernel_rfl) (by kernel_rfl)).trans (show xsH 47 = .bool (((((((gpower r 8) && (decide (0 ≤ s))) && (decide (s ≤ (8 - r)))) && (gpower b 16)) && (gpower m 1024)) && (gpower c 64)) && (decide (((((r + s) * b) * m) * c) ≤ 4096))) from hk 47 (by decide)))
  case o2end =>
    intro xsH w' hv hR
    have h0 : xsH 0 = .pointer (some ⟨b0, 0, none⟩) := hv 0 (by omega)
    have h1 : xsH 1 = .int .i64 r := hv 1 (by omega)
    have h2 : xsH 2 = .bool (gpower r 8) := hv 2 (by omega)
    have h3 : xsH 3 = .bool (gpower r 8) := hv 3 (by omega)
    have h7 : xsH 7 = .bool ((gpower r 8) && (decide (0 ≤ s))) := hv 7 (by omega)
    have h8 : xsH 8 = .bool ((gpower r 8) && (decide (0 ≤ s))) := hv 8 (by omega)
    have h15 : xsH 15 = .bool (((gpower r 8) && (decide (0 ≤ s))) && (decide (s ≤ (8 - r)))) := hv 15 (by omega)
    have h16 : xsH 16 = .bool (((gpower r 8) && (decide (0 ≤ s))) && (decide (s ≤ (8 - r)))) := hv 16 (by omega)
    have h20 : xsH 20 = .bool ((((gpower r 8) && (decide (0 ≤ s))) && (decide (s ≤ (8 - r)))) && (gpower b 16)) := hv 20 (by omega)
    have h21 : xsH 21 = .bool ((((gpower r 8) && (decide (0 ≤ s))) && (decide (s ≤ (8 - r)))) && (gpower b 16)) := hv 21 (by omega)
    have h25 : xsH 25 = .bool (((((gpower r 8) && (decide (0 ≤ s))) && (decide (s ≤ (8 - r)))) && (gpower b 16)) && (gpower m 1024)) := hv 25 (by omega)
    have h26 : xsH 26 = .bool (((((gpower r 8) && (decide (0 ≤ s))) && (decide (s ≤ (8 - r)))) && (gpower b 16)) && (gpower m 1024)) := hv 26 (by omega)
    have h30 : xsH 30 = .bool ((((((gpower r 8) && (decide (0 ≤ s))) && (decide (s ≤ (8 - r)))) && (gpower b 16)) && (gpower m 1024)) && (gpower c 64)) := hv 30 (by omega)
    have h31 : xsH 31 = .bool ((((((gpower r 8) && (decide (0 ≤ s))) && (decide (s ≤ (8 - r)))) && (gpower b 16)) && (gpower m 1024)) && (gpower c 64)) := hv 31 (by omega)
    have h47 : xsH 47 = .bool (((((((gpower r 8) && (decide (0 ≤ s))) && (decide (s ≤ (8 - r)))) && (gpower b 16)) && (gpower m 1024)) && (gpower c 64)) && (decide (((((r + s) * b) * m) * c) ≤ 4096))) := hv 47 (by omega)
    have h48 : xsH 48 = .bool (((((((gpower r 8) && (decide (0 ≤ s))) && (decide (s ≤ (8 - r)))) && (gpower b 16)) && (gpower m 1024)) && (gpower c 64)) && (decide (((((r + s) * b) * m) * c) ≤ 4096))) := hv 48 (by omega)
    simp only [List.take_succ_cons, List.take_zero, List.drop_succ_cons, List.drop_zero, putsH, Act.put, List.setIfInBounds_toArray, List.set_cons_succ, List.set_cons_zero, h0, h1, h2, h3, h7, h8, h15, h16, h20, h21, h25, h26, h30, h31, h47, h48]
    have OW2 := Lib.hid (OW.out.step hR)
    clear hv hR OW OZ h0 h1 h2 h3 h7 h8 h15 h16 h20 h21 h25 h26 h30 h31 h47 h48
    have OW := OW2
    clear OW2
    obtain ⟨g3, OZ⟩ := own_size OW HB0
    gi_wp2
    refine leaves_own [] _ (Nat.le_of_eq HB0.out) (by simpa using OW.out) ?_
    intro W' hO
    exact ⟨.bool (((((((gpower r 8) && (decide (0 ≤ s))) && (decide (s ≤ (8 - r)))) && (gpower b 16)) && (gpower m 1024)) && (gpower c 64)) && (decide (((((r + s) * b) * m) * c) ≤ 4096))), by simp [results, Try.results72, go_sem], rfl, hO.done HB0⟩
def gholds (r s b m c p0 p1 p2 p3 : Int) : Bool := (((((gright r s b m c) && (gbelow p0 (r + s))) && (gbelow p1 b)) && (gbelow p2 m)) && (gbelow p3 c))
set_option maxRecDepth 100000 in
set_option maxHeartbeats 1000000 in
theorem gholds_any (r s b m c p0 p1 p2 p3 : Int) (w : World) : Calls Try.prog 62 #[.agg #[.int .i64 r, .int .i64 s, .int .i64 b, .int .i64 m, .int .i64 c], .agg #[.int .i64 p0, .int .i64 p1, .int .i64 p2, .int .i64 p3]] w fun e w' => e = .returned (.bool (gholds r s b m c p0 p1 p2 p3)) ∧ Below w.heap.size w w' := by
  obtain ⟨b0, hb0⟩ : ∃ b0, w.heap.size = b0 := ⟨_, rfl⟩
  have HB0 := Lib.hid hb0
  have OW := Lib.hid (Own.start b0 w)
  have OZ := Lib.hid (And.intro hb0 (Nat.le_refl b0))
  clear hb0
  refine (callsIn_wide (n := 6)).1 ?_
  refine callsIn_of_wp_marks Try.func62 rfl trivial ?_ rfl
  simp only [Try.ntmps62, List.size_toArray, List.length_cons, List.length_nil, Nat.reduceAdd, Nat.reduceSub, Array.replicate_succ, Array.replicate_zero, List.push_toArray, List.append_toArray, List.nil_append, List.cons_append]
  gi_upto_region 1 with (first | (refine own_boxV 2 27 (.tmp 0) rfl rfl rfl (.agg #[.int .i64 r, .int .i64 s, .int .i64 b, .int .i64 m, .int .i64 c]) rfl #[.int .i64 r, .int .i64 s, .int .i64 b, .int .i64 m, .int .i64 c] rfl OW OZ ?_; clear OW OZ; intro W g1 OW OZ) | (refine own_boxV 3 23 (.tmp 1) rfl rfl rfl (.agg #[.int .i64 p0, .int .i64 p1, .int .i64 p2, .int .i64 p3]) rfl #[.int .i64 p0, .int .i64 p1, .int .i64 p2, .int .i64 p3] rfl OW OZ ?_; clear OW OZ; intro W g2 OW OZ))
  refine wpIn_region_heldL 34 (atD [[], [0], [1], [2], [2, 3], [2], [2, 5], [2], [2, 7], [2, 6, 8], [2, 4, 9], [2, 10], [11], [12], [12, 13], [12], [12, 15], [12, 14, 16], [12, 17], [18], [19], [19, 20], [19], [19, 22], [19, 21, 23], [19, 24], [25], [26], [26, 27], [26], [26, 29], [26, 28, 30], [26, 31], [32]]) (atV [fun vH _ => vH = .agg #[.int .i64 r, .int .i64 s, .int .i64 b, .int .i64 m, .int .i64 c], fun vH _ => vH = .bool (gright r s b m c), fun vH _ => vH = .bool (gright r s b m c), cdV (True ∧ (gright r s b m c) = true) (fun vH _ => vH = .pointer (some ⟨g1, 0, none⟩)), cdV (True ∧ (gright r s b m c) = true) (fun vH _ => vH = .int .i64 p0), cdV (True ∧ (gright r s b m c) = true) (fun vH _ => vH = .pointer (some ⟨b0, 0, none⟩)), cdV (True ∧ (gright r s b m c) = true) (fun vH _ => vH = .int .i64 r), cdV (True ∧ (gright r s b m c) = true) (fun vH _ => vH = .pointer (some ⟨b0, 1, none⟩)), cdV (True ∧ (gright r s b m c) = true) (fun vH _ => vH = .int .i64 s), cdV (True ∧ (gright r s b m c) = true) (fun vH _ => vH = .int .i64 (r + s)), cdV (True ∧ (gright r s b m c) = true) (fun vH _ => vH = .bool (gbelow p0 (r + s))), fun vH _ => vH = .bool ((gright r s b m c) && (gbelow p0 (r + s))), fun vH _ => vH = .bool ((gright r s b m c) && (gbelow p0 (r + s))), cdV (True ∧ ((gright r s b m c) && (gbelow p0 (r + s))) = true) (fun vH _ => vH = .pointer (some ⟨g1, 1, none⟩)), cdV (True ∧ ((gright r s b m c) && (gbelow p0 (r + s))) = true) (fun vH _ => vH = .int .i64 p1), cdV (True ∧ ((gright r s b m c) && (gbelow p0 (r + s))) = true) (fun vH _ => vH = .pointer (some ⟨b0, 2, none⟩)), cdV (True ∧ ((gright r s b m c) && (gbelow p0 (r + s))) = true) (fun vH _ => vH = .int .i64 b), cdV (True ∧ ((gright r s b m c) && (gbelow p0 (r + s))) = true) (fun vH _ => vH = .bool (gbelow p1 b)), fun vH _ => vH = .bool (((gright r s b m c) && (gbelow p0 (r + s))) && (gbelow p1 b)), fun vH _ => vH = .bool (((gright r s b m c) && (gbelow p0 (r + s))) && (gbelow p1 b)), cdV (True ∧ (((gright r s b m c) && (gbelow p0 (r + s))) && (gbelow p1 b)) = true) (fun vH _ => vH = .pointer (some ⟨g1, 2, none⟩)), cdV (True ∧ (((gright r s b m c) && (gbelow p0 (r + s))) && (gbelow p1 b)) = true) (fun vH _ => vH = .int .i64 p2), cdV (True ∧ (((gright r s b m c) && (gbelow p0 (r + s))) && (gbelow p1 b)) = true) (fun vH _ => vH = .pointer (some ⟨b0, 3, none⟩)), cdV (True ∧ (((gright r s b m c) && (gbelow p0 (r + s))) && (gbelow p1 b)) = true) (fun vH _ => vH = .int .i64 m), cdV (True ∧ (((gright r s b m c) && (gbelow p0 (r + s))) && (gbelow p1 b)) = true) (fun vH _ => vH = .bool (gbelow p2 m)), fun vH _ => vH = .bool ((((gright r s b m c) && (gbelow p0 (r + s))) && (gbelow p1 b)) && (gbelow p2 m)), fun vH _ => vH = .bool ((((gright r s b m c) && (gbelow p0 (r + s))) && (gbelow p1 b)) && (gbelow p2 m)), cdV (True ∧ ((((gright r s b m c) && (gbelow p0 (r + s))) && (gbelow p1 b)) && (gbelow p2 m)) = true) (fun vH _ => vH = .pointer (some ⟨g1, 3, none⟩)), cdV (True ∧ ((((gright r s b m c) && (gbelow p0 (r + s))) && (gbelow p1 b)) && (gbelow p2 m)) = true) (fun vH _ => vH = .int .i64 p3), cdV (True ∧ ((((gright r s b m c) && (gbelow p0 (r + s))) && (gbelow p1 b)) && (gbelow p2 m)) = true) (fun vH _ => vH = .pointer (some ⟨b0, 4, none⟩)), cdV (True ∧ ((((gright r s b m c) && (gbelow p0 (r + s))) && (gbelow p1 b)) && (gbelow p2 m)) = true) (fun vH _ => vH = .int .i64 c), cdV (True ∧ ((((gright r s b m c) && (gbelow p0 (r + s))) && (gbelow p1 b)) && (gbelow p2 m)) = true) (fun vH _ => vH = .bool (gbelow p3 c)), fun vH _ => vH = .bool (((((gright r s b m c) && (gbelow p0 (r + s))) && (gbelow p1 b)) && (gbelow p2 m)) && (gbelow p3 c)), fun vH _ => vH = .bool (((((gright r s b m c) && (gbelow p0 (r + s))) && (gbelow p1 b)) && (gbelow p2 m)) && (gbelow p3 c))]) BelowR (by kernel_rfl) BelowR.trans (BelowR.refl _)
    (StV.atV (.const _ (.const _ (.const _ (.cons (fun v x y h _ => h) (.cons (fun v x y h _ => h) (.cons (fun v x y h _ => h) (.cons (fun v x y h _ => h) (.cons (fun v x y h _ => h) (.cons (fun v x y h _ => h) (.cons (fun v x y h _ => h) (.cons (fun v x y h _ => h) (.const _ (.const _ (.cons (fun v x y h _ => h) (.cons (fun v x y h _ => h) (.cons (fun v x y h _ => h) (.cons (fun v x y h _ => h) (.cons (fun v x y h _ => h) (.const _ (.const _ (.cons (fun v x y h _ => h) (.cons (fun v x y h _ => h) (.cons (fun v x y h _ => h) (.cons (fun v x y h _ => h) (.cons (fun v x y h _ => h) (.const _ (.const _ (.cons (fun v x y h _ => h) (.cons (fun v x y h _ => h) (.cons (fun v x y h _ => h) (.cons (fun v x y h _ => h) (.cons (fun v x y h _ => h) (.const _ (.const _ .nil)))))))))))))))))))))))))))))))))))
    ⟨?o3x0, ?o3x1, ?o3x2, ?o3x3, ?o3x4, ?o3x5, ?o3x6, ?o3x7, ?o3x8, ?o3x9, ?o3x10, ?o3x11, ?o3x12, ?o3x13, ?o3x14, ?o3x15, ?o3x16, ?o3x17, ?o3x18, ?o3x19, ?o3x20, ?o3x21, ?o3x22, ?o3x23, ?o3x24, ?o3x25, ?o3x26, ?o3x27, ?o3x28, ?o3x29, ?o3x30, ?o3x31, ?o3x32, ?o3x33, trivial⟩ ?o3end
  case o3x0 =>
    exact held_load free_wide rfl BelowR.refl 27 (.tmp 2) rfl fun xsH w' hk hR => ⟨⟨b0, 0, none⟩, _, ((putsH_old (by kernel_rfl)).trans rfl), run_loadVar_sub w' b0 0 _ _ _ _ ((OW.out.step hR).get (k := 0) rfl) rfl Try.underlying27 rfl (by kernel_rfl), rfl⟩
  case o3x1 =>
    refine held_call free_wide rfl 72 _ _ rfl (enters_of Try.func72 (by kernel_rfl) rfl) fun xsH w' hk hR => ?_
    refine ⟨#[.agg #[.int .i64 r, .int .i64 s, .int .i64 b, .int .i64 m, .int .i64 c]], mapE1 ((putsH_tmp (i := 0) (by kernel_rfl) (by kernel_rfl)).trans (show xsH 0 = .agg #[.int .i64 r, .int .i64 s, .int .i64 b, .int .i64 m, .int .i64 c] from hk 0 (by decide))), ?_⟩
    refine (callsIn_wide.2 (gright_any r s b m c _)).mono ?_
    rintro e w2 ⟨rfl, h2⟩
    exact ⟨_, rfl, rfl, h2⟩
  case o3x2 =>
    exact held_move free_wide rfl BelowR.refl (.tmp 6) (.inl rfl) fun xsH w' hk _ => ((putsH_tmp (i := 1) (by kernel_rfl) (by kernel_rfl)).trans (show xsH 1 = .bool (gright r s b m c) from hk 1 (by decide)))
  case o3x3 =>
    refine held_guard free_wide 2 7 true True (gright r s b m c) BelowR.refl rfl (by kernel_rfl) (by kernel_rfl) (by kernel_rfl) (fun xsH w' hk => Or.inl ⟨trivial, (show xsH 2 = .bool (gright r s b m c) from hk 2 (by decide))⟩) (fun hC hG => ?_) (fun hN w' => Or.inr ⟨hN, rfl⟩)
    exact held_runG free_wide hG (by rfl) BelowR.refl fun xsH w' hk hR => ⟨.pointer (some ⟨g1, 0, none⟩), run_fldO rfl ((putsH_old (by kernel_rfl)).trans rfl) (by kernel_rfl), (Or.inl ⟨hC, rfl⟩)⟩
  case o3x4 =>
    refine held_guard free_wide 2 7 true True (gright r s b m c) BelowR.refl rfl (by kernel_rfl) (by kernel_rfl) (by kernel_rfl) (fun xsH w' hk => Or.inl ⟨trivial, (show xsH 2 = .bool (gright r s b m c) from hk 2 (by decide))⟩) (fun hC hG => ?_) (fun hN w' => Or.inr ⟨hN, rfl⟩)
    exact held_loadG free_wide hG BelowR.refl 3 (.tmp 8) rfl fun xsH w' hk hR => ⟨⟨g1, 0, none⟩, _, ((putsH_tmp (i := 3) (by kernel_rfl) (by kernel_rfl)).trans ((show cdV (True ∧ (gright r s b m c) = true) (fun vH _ => vH = .pointer (some ⟨g1, 0, none⟩)) (xsH 3) w' from hk 3 (by decide)).get hC)), run_loadVar_cell (naInt w') (((OW.out.step hR).blk (k := 1) rfl).cell 0), (Or.inl ⟨hC, rfl⟩)⟩
  case o3x5 =>
    refine held_guard free_wide 2 7 true True (gright r s b m c) BelowR.refl rfl (by kernel_rfl) (by kernel_rfl) (by kernel_rfl) (fun xsH w' hk => Or.inl ⟨trivial, (show xsH 2 = .bool (gright r s b m c) from hk 2 (by decide))⟩) (fun hC hG => ?_) (fun hN w' => Or.inr ⟨hN, rfl⟩)
    exact held_runG free_wide hG (by rfl) BelowR.refl fun xsH w' hk hR => ⟨.pointer (some ⟨b0, 0, none⟩), run_fldO rfl ((putsH_old (by kernel_rfl)).trans rfl) (by kernel_rfl), (Or.inl ⟨hC, rfl⟩)⟩
  case o3x6 =>
    refine held_guard free_wide 2 7 true True (gright r s b m c) BelowR.refl rfl (by kernel_rfl) (by kernel_rfl) (by kernel_rfl) (fun xsH w' hk => Or.inl ⟨trivial, (show xsH 2 = .bool (gright r s b m c) from hk 2 (by decide))⟩) (fun hC hG => ?_) (fun hN w' => Or.inr ⟨hN, rfl⟩)
    exact held_loadG free_wide hG BelowR.refl 3 (.tmp 10) rfl fun xsH w' hk hR => ⟨⟨b0, 0, none⟩, _, ((putsH_tmp (i := 5) (by kernel_rfl) (by kernel_rfl)).trans ((show cdV (True ∧ (gright r s b m c) = true) (fun vH _ => vH = .pointer (some ⟨b0, 0, none⟩)) (xsH 5) w' from hk 5 (by decide)).get hC)), run_loadVar_cell (naInt w') (((OW.out.step hR).blk (k := 0) rfl).cell 0), (Or.inl ⟨hC, rfl⟩)⟩
  case o3x7 =>
    refine held_guard free_wide 2 7 true True (gright r s b m c) BelowR.refl rfl (by kernel_rfl) (by kernel_rfl) (by kernel_rfl) (fun xsH w' hk => Or.inl ⟨trivial, (show xsH 2 = .bool (gright r s b m c) from hk 2 (by decide))⟩) (fun hC hG => ?_) (fun hN w' => Or.inr ⟨hN, rfl⟩)
    exact held_runG free_wide hG (by rfl) BelowR.refl fun xsH w' hk hR => ⟨.pointer (some ⟨b0, 1, none⟩), run_fldO rfl ((putsH_old (by kernel_rfl)).trans rfl) (by kernel_rfl), (Or.inl ⟨hC, rfl⟩)⟩
  case o3x8 =>
    refine held_guard free_wide 2 7 true True (gright r s b m c) BelowR.refl rfl (by kernel_rfl) (by kernel_rfl) (by kernel_rfl) (fun xsH w' hk => Or.inl ⟨trivial, (show xsH 2 = .bool (gright r s b m c) from hk 2 (by decide))⟩) (fun hC hG => ?_) (fun hN w' => Or.inr ⟨hN, rfl⟩)
    exact held_loadG free_wide hG BelowR.refl 3 (.tmp 12) rfl fun xsH w' hk hR => ⟨⟨b0, 1, none⟩, _, ((putsH_tmp (i := 7) (by kernel_rfl) (by kernel_rfl)).trans ((show cdV (True ∧ (gright r s b m c) = true) (fun vH _ => vH = .pointer (some ⟨b0, 1, none⟩)) (xsH 7) w' from hk 7 (by decide)).get hC)), run_loadVar_cell (naInt w') (((OW.out.step hR).blk (k := 0) rfl).cell 1), (Or.inl ⟨hC, rfl⟩)⟩
  case o3x9 =>
    refine held_guard free_wide 2 7 true True (gright r s b m c) BelowR.refl rfl (by kernel_rfl) (by kernel_rfl) (by kernel_rfl) (fun xsH w' hk => Or.inl ⟨trivial, (show xsH 2 = .bool (gright r s b m c) from hk 2 (by decide))⟩) (fun hC hG => ?_) (fun hN w' => Or.inr ⟨hN, rfl⟩)
    exact held_runG free_wide hG (by rfl) BelowR.refl fun xsH w' hk hR => ⟨.int .i64 (r + s), run_binO (vx := .int .i64 r) (vy := .int .i64 s) rfl ((putsH_tmp (i := 6) (by kernel_rfl) (by kernel_rfl)).trans ((show cdV (True ∧ (gright r s b m c) = true) (fun vH _ => vH = .int .i64 r) (xsH 6) w' from hk 6 (by decide)).get hC)) ((putsH_tmp (i := 8) (by kernel_rfl) (by kernel_rfl)).trans ((show cdV (True ∧ (gright r s b m c) = true) (fun vH _ => vH = .int .i64 s) (xsH 8) w' from hk 8 (by decide)).get hC)) (bin_add_in (by (have h := hC.2; simp only [gright, Bool.and_eq_true, decide_eq_true_eq] at h; have := gpower_in h.1.1.1.1.1.1; omega)) (by (have h := hC.2; simp only [gright, Bool.and_eq_true, decide_eq_true_eq] at h; have := gpower_in h.1.1.1.1.1.1; omega))), (Or.inl ⟨hC, rfl⟩)⟩
  case o3x10 =>
    refine held_guard free_wide 2 7 true True (gright r s b m c) BelowR.refl rfl (by kernel_rfl) (by kernel_rfl) (by kernel_rfl) (fun xsH w' hk => Or.inl ⟨trivial, (show xsH 2 = .bool (gright r s b m c) from hk 2 (by decide))⟩) (fun hC hG => ?_) (fun hN w' => Or.inr ⟨hN, rfl⟩)
    refine held_callG free_wide hG 93 _ _ rfl (enters_of Try.func93 (by kernel_rfl) rfl) fun xsH w' hk hR => ?_
    refine ⟨#[.int .i64 p0, .int .i64 (r + s)], mapE2 ((putsH_tmp (i := 4) (by kernel_rfl) (by kernel_rfl)).trans ((show cdV (True ∧ (gright r s b m c) = true) (fun vH _ => vH = .int .i64 p0) (xsH 4) w' from hk 4 (by decide)).get hC)) ((putsH_tmp (i := 9) (by kernel_rfl) (by kernel_rfl)).trans ((show cdV (True ∧ (gright r s b m c) = true) (fun vH _ => vH = .int .i64 (r + s)) (xsH 9) w' from hk 9 (by decide)).get hC)), ?_⟩
    refine (callsIn_wide.2 (gbelow_any p0 (r + s) _)).mono ?_
    rintro e w2 ⟨rfl, h2⟩
    exact ⟨_, rfl, (Or.inl ⟨hC, rfl⟩), h2⟩
  case o3x11 =>
    exact held_run free_wide rfl (by rfl) BelowR.refl fun xsH w' hk hR => ⟨.bool ((gright r s b m c) && (gbelow p0 (r + s))), run_pickAnd rfl ((putsH_tmp (i := 2) (by kernel_rfl) (by kernel_rfl)).trans (show xsH 2 = .bool (gright r s b m c) from hk 2 (by decide))) rfl (fun h => (putsH_tmp (i := 10) (by kernel_rfl) (by kernel_rfl)).trans ((show cdV (True ∧ (gright r s b m c) = true) (fun vH _ => vH = .bool (gbelow p0 (r + s))) (xsH 10) w' from hk 10 (by decide)).get (And.intro trivial h))), rfl⟩
  case o3x12 =>
    exact held_move free_wide rfl BelowR.refl (.tmp 16) (.inl rfl) fun xsH w' hk _ => ((putsH_tmp (i := 11) (by kernel_rfl) (by kernel_rfl)).trans (show xsH 11 = .bool ((gright r s b m c) && (gbelow p0 (r + s))) from hk 11 (by decide)))
  case o3x13 =>
    refine held_guard free_wide 12 17 true True ((gright r s b m c) && (gbelow p0 (r + s))) BelowR.refl rfl (by kernel_rfl) (by kernel_rfl) (by kernel_rfl) (fun xsH w' hk => Or.inl ⟨trivial, (show xsH 12 = .bool ((gright r s b m c) && (gbelow p0 (r + s))) from hk 12 (by decide))⟩) (fun hC hG => ?_) (fun hN w' => Or.inr ⟨hN, rfl⟩)
    exact held_runG free_wide hG (by rfl) BelowR.refl fun xsH w' hk hR => ⟨.pointer (some ⟨g1, 1, none⟩), run_fldO rfl ((putsH_old (by kernel_rfl)).trans rfl) (by kernel_rfl), (Or.inl ⟨hC, rfl⟩)⟩
  case o3x14 =>
    refine held_guard free_wide 12 17 true True ((gright r s b m c) && (gbelow p0 (r + s))) BelowR.refl rfl (by kernel_rfl) (by kernel_rfl) (by kernel_rfl) (fun xsH w' hk => Or.inl ⟨trivial, (show xsH 12 = .bool ((gright r s b m c) && (gbelow p0 (r + s))) from hk 12 (by decide))⟩) (fun hC hG => ?_) (fun hN w' => Or.inr ⟨hN, rfl⟩)
    exact held_loadG free_wide hG BelowR.refl 3 (.tmp 18) rfl fun xsH w' hk hR => ⟨⟨g1, 1, none⟩, _, ((putsH_tmp (i := 13) (by kernel_rfl) (by kernel_rfl)).trans ((show cdV (True ∧ ((gright r s b m c) && (gbelow p0 (r + s))) = true) (fun vH _ => vH = .pointer (some ⟨g1, 1, none⟩)) (xsH 13) w' from hk 13 (by decide)).get hC)), run_loadVar_cell (naInt w') (((OW.out.step hR).blk (k := 1) rfl).cell 1), (Or.inl ⟨hC, rfl⟩)⟩
  case o3x15 =>
    refine held_guard free_wide 12 17 true True ((gright r s b m c) && (gbelow p0 (r + s))) BelowR.refl rfl (by kernel_rfl) (by kernel_rfl) (by kernel_rfl) (fun xsH w' hk => Or.inl ⟨trivial, (show xsH 12 = .bool ((gright r s b m c) && (gbelow p0 (r + s))) from hk 12 (by decide))⟩) (fun hC hG => ?_) (fun hN w' => Or.inr ⟨hN, rfl⟩)
    exact held_runG free_wide hG (by rfl) BelowR.refl fun xsH w' hk hR => ⟨.pointer (some ⟨b0, 2, none⟩), run_fldO rfl ((putsH_old (by kernel_rfl)).trans rfl) (by kernel_rfl), (Or.inl ⟨hC, rfl⟩)⟩
  case o3x16 =>
    refine held_guard free_wide 12 17 true True ((gright r s b m c) && (gbelow p0 (r + s))) BelowR.refl rfl (by kernel_rfl) (by kernel_rfl) (by kernel_rfl) (fun xsH w' hk => Or.inl ⟨trivial, (show xsH 12 = .bool ((gright r s b m c) && (gbelow p0 (r + s))) from hk 12 (by decide))⟩) (fun hC hG => ?_) (fun hN w' => Or.inr ⟨hN, rfl⟩)
    exact held_loadG free_wide hG BelowR.refl 3 (.tmp 20) rfl fun xsH w' hk hR => ⟨⟨b0, 2, none⟩, _, ((putsH_tmp (i := 15) (by kernel_rfl) (by kernel_rfl)).trans ((show cdV (True ∧ ((gright r s b m c) && (gbelow p0 (r + s))) = true) (fun vH _ => vH = .pointer (some ⟨b0, 2, none⟩)) (xsH 15) w' from hk 15 (by decide)).get hC)), run_loadVar_cell (naInt w') (((OW.out.step hR).blk (k := 0) rfl).cell 2), (Or.inl ⟨hC, rfl⟩)⟩
  case o3x17 =>
    refine held_guard free_wide 12 17 true True ((gright r s b m c) && (gbelow p0 (r + s))) BelowR.refl rfl (by kernel_rfl) (by kernel_rfl) (by kernel_rfl) (fun xsH w' hk => Or.inl ⟨trivial, (show xsH 12 = .bool ((gright r s b m c) && (gbelow p0 (r + s))) from hk 12 (by decide))⟩) (fun hC hG => ?_) (fun hN w' => Or.inr ⟨hN, rfl⟩)
    refine held_callG free_wide hG 93 _ _ rfl (enters_of Try.func93 (by kernel_rfl) rfl) fun xsH w' hk hR => ?_
    refine ⟨#[.int .i64 p1, .int .i64 b], mapE2 ((putsH_tmp (i := 14) (by kernel_rfl) (by kernel_rfl)).trans ((show cdV (True ∧ ((gright r s b m c) && (gbelow p0 (r + s))) = true) (fun vH _ => vH = .int .i64 p1) (xsH 14) w' from hk 14 (by decide)).get hC)) ((putsH_tmp (i := 16) (by kernel_rfl) (by kernel_rfl)).trans ((show cdV (True ∧ ((gright r s b m c) && (gbelow p0 (r + s))) = true) (fun vH _ => vH = .int .i64 b) (xsH 16) w' from hk 16 (by decide)).get hC)), ?_⟩
    refine (callsIn_wide.2 (gbelow_any p1 b _)).mono ?_
    rintro e w2 ⟨rfl, h2⟩
    exact ⟨_, rfl, (Or.inl ⟨hC, rfl⟩), h2⟩
  case o3x18 =>
    exact held_run free_wide rfl (by rfl) BelowR.refl fun xsH w' hk hR => ⟨.bool (((gright r s b m c) && (gbelow p0 (r + s))) && (gbelow p1 b)), run_pickAnd rfl ((putsH_tmp (i := 12) (by kernel_rfl) (by kernel_rfl)).trans (show xsH 12 = .bool ((gright r s b m c) && (gbelow p0 (r + s))) from hk 12 (by decide))) rfl (fun h => (putsH_tmp (i := 17) (by kernel_rfl) (by kernel_rfl)).trans ((show cdV (True ∧ ((gright r s b m c) && (gbelow p0 (r + s))) = true) (fun vH _ => vH = .bool (gbelow p1 b)) (xsH 17) w' from hk 17 (by decide)).get (And.intro trivial h))), rfl⟩
  case o3x19 =>
    exact held_move free_wide rfl BelowR.refl (.tmp 23) (.inl rfl) fun xsH w' hk _ => ((putsH_tmp (i := 18) (by kernel_rfl) (by kernel_rfl)).trans (show xsH 18 = .bool (((gright r s b m c) && (gbelow p0 (r + s))) && (gbelow p1 b)) from hk 18 (by decide)))
  case o3x20 =>
    refine held_guard free_wide 19 24 true True (((gright r s b m c) && (gbelow p0 (r + s))) && (gbelow p1 b)) BelowR.refl rfl (by kernel_rfl) (by kernel_rfl) (by kernel_rfl) (fun xsH w' hk => Or.inl ⟨trivial, (show xsH 19 = .bool (((gright r s b m c) && (gbelow p0 (r + s))) && (gbelow p1 b)) from hk 19 (by decide))⟩) (fun hC hG => ?_) (fun hN w' => Or.inr ⟨hN, rfl⟩)
    exact held_runG free_wide hG (by rfl) BelowR.refl fun xsH w' hk hR => ⟨.pointer (some ⟨g1, 2, none⟩), run_fldO rfl ((putsH_old (by kernel_rfl)).trans rfl) (by kernel_rfl), (Or.inl ⟨hC, rfl⟩)⟩
  case o3x21 =>
    refine held_guard free_wide 19 24 true True (((gright r s b m c) && (gbelow p0 (r + s))) && (gbelow p1 b)) BelowR.refl rfl (by kernel_rfl) (by kernel_rfl) (by kernel_rfl) (fun xsH w' hk => Or.inl ⟨trivial, (show xsH 19 = .bool (((gright r s b m c) && (gbelow p0 (r + s))) && (gbelow p1 b)) from hk 19 (by decide))⟩) (fun hC hG => ?_) (fun hN w' => Or.inr ⟨hN, rfl⟩)
    exact held_loadG free_wide hG BelowR.refl 3 (.tmp 25) rfl fun xsH w' hk hR => ⟨⟨g1, 2, none⟩, _, ((putsH_tmp (i := 20) (by kernel_rfl) (by kernel_rfl)).trans ((show cdV (True ∧ (((gright r s b m c) && (gbelow p0 (r + s))) && (gbelow p1 b)) = true) (fun vH _ => vH = .pointer (some ⟨g1, 2, none⟩)) (xsH 20) w' from hk 20 (by decide)).get hC)), run_loadVar_cell (naInt w') (((OW.out.step hR).blk (k := 1) rfl).cell 2), (Or.inl ⟨hC, rfl⟩)⟩
  case o3x22 =>
    refine held_guard free_wide 19 24 true True (((gright r s b m c) && (gbelow p0 (r + s))) && (gbelow p1 b)) BelowR.refl rfl (by kernel_rfl) (by kernel_rfl) (by kernel_rfl) (fun xsH w' hk => Or.inl ⟨trivial, (show xsH 19 = .bool (((gright r s b m c) && (gbelow p0 (r + s))) && (gbelow p1 b)) from hk 19 (by decide))⟩) (fun hC hG => ?_) (fun hN w' => Or.inr ⟨hN, rfl⟩)
    exact held_runG free_wide hG (by rfl) BelowR.refl fun xsH w' hk hR => ⟨.pointer (some ⟨b0, 3, none⟩), run_fldO rfl ((putsH_old (by kernel_rfl)).trans rfl) (by kernel_rfl), (Or.inl ⟨hC, rfl⟩)⟩
  case o3x23 =>
    refine held_guard free_wide 19 24 true True (((gright r s b m c) && (gbelow p0 (r + s))) && (gbelow p1 b)) BelowR.refl rfl (by kernel_rfl) (by kernel_rfl) (by kernel_rfl) (fun xsH w' hk => Or.inl ⟨trivial, (show xsH 19 = .bool (((gright r s b m c) && (gbelow p0 (r + s))) && (gbelow p1 b)) from hk 19 (by decide))⟩) (fun hC hG => ?_) (fun hN w' => Or.inr ⟨hN, rfl⟩)
    exact held_loadG free_wide hG BelowR.refl 3 (.tmp 27) rfl fun xsH w' hk hR => ⟨⟨b0, 3, none⟩, _, ((putsH_tmp (i := 22) (by kernel_rfl) (by kernel_rfl)).trans ((show cdV (True ∧ (((gright r s b m c) && (gbelow p0 (r + s))) && (gbelow p1 b)) = true) (fun vH _ => vH = .pointer (some ⟨b0, 3, none⟩)) (xsH 22) w' from hk 22 (by decide)).get hC)), run_loadVar_cell (naInt w') (((OW.out.step hR).blk (k := 0) rfl).cell 3), (Or.inl ⟨hC, rfl⟩)⟩
  case o3x24 =>
    refine held_guard free_wide 19 24 true True (((gright r s b m c) && (gbelow p0 (r + s))) && (gbelow p1 b)) BelowR.refl rfl (by kernel_rfl) (by kernel_rfl) (by kernel_rfl) (fun xsH w' hk => Or.inl ⟨trivial, (show xsH 19 = .bool (((gright r s b m c) && (gbelow p0 (r + s))) && (gbelow p1 b)) from hk 19 (by decide))⟩) (fun hC hG => ?_) (fun hN w' => Or.inr ⟨hN, rfl⟩)
    refine held_callG free_wide hG 93 _ _ rfl (enters_of Try.func93 (by kernel_rfl) rfl) fun xsH w' hk hR => ?_
    refine ⟨#[.int .i64 p2, .int .i64 m], mapE2 ((putsH_tmp (i := 21) (by kernel_rfl) (by kernel_rfl)).trans ((show cdV (True ∧ (((gright r s b m c) && (gbelow p0 (r + s))) && (gbelow p1 b)) = true) (fun vH _ => vH = .int .i64 p2) (xsH 21) w' from hk 21 (by decide)).get hC)) ((putsH_tmp (i := 23) (by kernel_rfl) (by kernel_rfl)).trans ((show cdV (True ∧ (((gright r s b m c) && (gbelow p0 (r + s))) && (gbelow p1 b)) = true) (fun vH _ => vH = .int .i64 m) (xsH 23) w' from hk 23 (by decide)).get hC)), ?_⟩
    refine (callsIn_wide.2 (gbelow_any p2 m _)).mono ?_
    rintro e w2 ⟨rfl, h2⟩
    exact ⟨_, rfl, (Or.inl ⟨hC, rfl⟩), h2⟩
  case o3x25 =>
    exact held_run free_wide rfl (by rfl) BelowR.refl fun xsH w' hk hR => ⟨.bool ((((gright r s b m c) && (gbelow p0 (r + s))) && (gbelow p1 b)) && (gbelow p2 m)), run_pickAnd rfl ((putsH_tmp (i := 19) (by kernel_rfl) (by kernel_rfl)).trans (show xsH 19 = .bool (((gright r s b m c) && (gbelow p0 (r + s))) && (gbelow p1 b)) from hk 19 (by decide))) rfl (fun h => (putsH_tmp (i := 24) (by kernel_rfl) (by kernel_rfl)).trans ((show cdV (True ∧ (((gright r s b m c) && (gbelow p0 (r + s))) && (gbelow p1 b)) = true) (fun vH _ => vH = .bool (gbelow p2 m)) (xsH 24) w' from hk 24 (by decide)).get (And.intro trivial h))), rfl⟩
  case o3x26 =>
    exact held_move free_wide rfl BelowR.refl (.tmp 30) (.inl rfl) fun xsH w' hk _ => ((putsH_tmp (i := 25) (by kernel_rfl) (by kernel_rfl)).trans (show xsH 25 = .bool ((((gright r s b m c) && (gbelow p0 (r + s))) && (gbelow p1 b)) && (gbelow p2 m)) from hk 25 (by decide)))
  case o3x27 =>
    refine held_guard free_wide 26 31 true True ((((gright r s b m c) && (gbelow p0 (r + s))) && (gbelow p1 b)) && (gbelow p2 m)) BelowR.refl rfl (by kernel_rfl) (by kernel_rfl) (by kernel_rfl) (fun xsH w' hk => Or.inl ⟨trivial, (show xsH 26 = .bool ((((gright r s b m c) && (gbelow p0 (r + s))) && (gbelow p1 b)) && (gbelow p2 m)) from hk 26 (by decide))⟩) (fun hC hG => ?_) (fun hN w' => Or.inr ⟨hN, rfl⟩)
    exact held_runG free_wide hG (by rfl) BelowR.refl fun xsH w' hk hR => ⟨.pointer (some ⟨g1, 3, none⟩), run_fldO rfl ((putsH_old (by kernel_rfl)).trans rfl) (by kernel_rfl), (Or.inl ⟨hC, rfl⟩)⟩
  case o3x28 =>
    refine held_guard free_wide 26 31 true True ((((gright r s b m c) && (gbelow p0 (r + s))) && (gbelow p1 b)) && (gbelow p2 m)) BelowR.refl rfl (by kernel_rfl) (by kernel_rfl) (by kernel_rfl) (fun xsH w' hk => Or.inl ⟨trivial, (show xsH 26 = .bool ((((gright r s b m c) && (gbelow p0 (r + s))) && (gbelow p1 b)) && (gbelow p2 m)) from hk 26 (by decide))⟩) (fun hC hG => ?_) (fun hN w' => Or.inr ⟨hN, rfl⟩)
    exact held_loadG free_wide hG BelowR.refl 3 (.tmp 32) rfl fun xsH w' hk hR => ⟨⟨g1, 3, none⟩, _, ((putsH_tmp (i := 27) (by kernel_rfl) (by kernel_rfl)).trans ((show cdV (True ∧ ((((gright r s b m c) && (gbelow p0 (r + s))) && (gbelow p1 b)) && (gbelow p2 m)) = true) (fun vH _ => vH = .pointer (some ⟨g1, 3, none⟩)) (xsH 27) w' from hk 27 (by decide)).get hC)), run_loadVar_cell (naInt w') (((OW.out.step hR).blk (k := 1) rfl).cell 3), (Or.inl ⟨hC, rfl⟩)⟩
  case o3x29 =>
    refine held_guard free_wide 26 31 true True ((((gright r s b m c) && (gbelow p0 (r + s))) && (gbelow p1 b)) && (gbelow p2 m)) BelowR.refl rfl (by kernel_rfl) (by kernel_rfl) (by kernel_rfl) (fun xsH w' hk => Or.inl ⟨trivial, (show xsH 26 = .bool ((((gright r s b m c) && (gbelow p0 (r + s))) && (gbelow p1 b)) && (gbelow p2 m)) from hk 26 (by decide))⟩) (fun hC hG => ?_) (fun hN w' => Or.inr ⟨hN, rfl⟩)
    exact held_runG free_wide hG (by rfl) BelowR.refl fun xsH w' hk hR => ⟨.pointer (some ⟨b0, 4, none⟩), run_fldO rfl ((putsH_old (by kernel_rfl)).trans rfl) (by kernel_rfl), (Or.inl ⟨hC, rfl⟩)⟩
  case o3x30 =>
    refine held_guard free_wide 26 31 true True ((((gright r s b m c) && (gbelow p0 (r + s))) && (gbelow p1 b)) && (gbelow p2 m)) BelowR.refl rfl (by kernel_rfl) (by kernel_rfl) (by kernel_rfl) (fun xsH w' hk => Or.inl ⟨trivial, (show xsH 26 = .bool ((((gright r s b m c) && (gbelow p0 (r + s))) && (gbelow p1 b)) && (gbelow p2 m)) from hk 26 (by decide))⟩) (fun hC hG => ?_) (fun hN w' => Or.inr ⟨hN, rfl⟩)
    exact held_loadG free_wide hG BelowR.refl 3 (.tmp 34) rfl fun xsH w' hk hR => ⟨⟨b0, 4, none⟩, _, ((putsH_tmp (i := 29) (by kernel_rfl) (by kernel_rfl)).trans ((show cdV (True ∧ ((((gright r s b m c) && (gbelow p0 (r + s))) && (gbelow p1 b)) && (gbelow p2 m)) = true) (fun vH _ => vH = .pointer (some ⟨b0, 4, none⟩)) (xsH 29) w' from hk 29 (by decide)).get hC)), run_loadVar_cell (naInt w') (((OW.out.step hR).blk (k := 0) rfl).cell 4), (Or.inl ⟨hC, rfl⟩)⟩
  case o3x31 =>
    refine held_guard free_wide 26 31 true True ((((gright r s b m c) && (gbelow p0 (r + s))) && (gbelow p1 b)) && (gbelow p2 m)) BelowR.refl rfl (by kernel_rfl) (by kernel_rfl) (by kernel_rfl) (fun xsH w' hk => Or.inl ⟨trivial, (show xsH 26 = .bool ((((gright r s b m c) && (gbelow p0 (r + s))) && (gbelow p1 b)) && (gbelow p2 m)) from hk 26 (by decide))⟩) (fun hC hG => ?_) (fun hN w' => Or.inr ⟨hN, rfl⟩)
    refine held_callG free_wide hG 93 _ _ rfl (enters_of Try.func93 (by kernel_rfl) rfl) fun xsH w' hk hR => ?_
    refine ⟨#[.int .i64 p3, .int .i64 c], mapE2 ((putsH_tmp (i := 28) (by kernel_rfl) (by kernel_rfl)).trans ((show cdV (True ∧ ((((gright r s b m c) && (gbelow p0 (r + s))) && (gbelow p1 b)) && (gbelow p2 m)) = true) (fun vH _ => vH = .int .i64 p3) (xsH 28) w' from hk 28 (by decide)).get hC)) ((putsH_tmp (i := 30) (by kernel_rfl) (by kernel_rfl)).trans ((show cdV (True ∧ ((((gright r s b m c) && (gbelow p0 (r + s))) && (gbelow p1 b)) && (gbelow p2 m)) = true) (fun vH _ => vH = .int .i64 c) (xsH 30) w' from hk 30 (by decide)).get hC)), ?_⟩
    refine (callsIn_wide.2 (gbelow_any p3 c _)).mono ?_
    rintro e w2 ⟨rfl, h2⟩
    exact ⟨_, rfl, (Or.inl ⟨hC, rfl⟩), h2⟩
  case o3x32 =>
    exact held_run free_wide rfl (by rfl) BelowR.refl fun xsH w' hk hR => ⟨.bool (((((gright r s b m c) && (gbelow p0 (r + s))) && (gbelow p1 b)) && (gbelow p2 m)) && (gbelow p3 c)), run_pickAnd rfl ((putsH_tmp (i := 26) (by kernel_rfl) (by kernel_rfl)).trans (show xsH 26 = .bool ((((gright r s b m c) && (gbelow p0 (r + s))) && (gbelow p1 b)) && (gbelow p2 m)) from hk 26 (by decide))) rfl (fun h => (putsH_tmp (i := 31) (by kernel_rfl) (by kernel_rfl)).trans ((show cdV (True ∧ ((((gright r s b m c) && (gbelow p0 (r + s))) && (gbelow p1 b)) && (gbelow p2 m)) = true) (fun vH _ => vH = .bool (gbelow p3 c)) (xsH 31) w' from hk 31 (by decide)).get (And.intro trivial h))), rfl⟩
  case o3x33 =>
    exact held_move free_wide rfl BelowR.refl (.tmp 37) (.inr rfl) fun xsH w' hk _ => ((putsH_tmp (i := 32) (by kernel_rfl) (by kernel_rfl)).trans (show xsH 32 = .bool (((((gright r s b m c) && (gbelow p0 (r + s))) && (gbelow p1 b)) && (gbelow p2 m)) && (gbelow p3 c)) from hk 32 (by decide)))
  case o3end =>
    intro xsH w' hv hR
    have h0 : xsH 0 = .agg #[.int .i64 r, .int .i64 s, .int .i64 b, .int .i64 m, .int .i64 c] := hv 0 (by omega)
    have h1 : xsH 1 = .bool (gright r s b m c) := hv 1 (by omega)
    have h2 : xsH 2 = .bool (gright r s b m c) := hv 2 (by omega)
    have h11 : xsH 11 = .bool ((gright r s b m c) && (gbelow p0 (r + s))) := hv 11 (by omega)
    have h12 : xsH 12 = .bool ((gright r s b m c) && (gbelow p0 (r + s))) := hv 12 (by omega)
    have h18 : xsH 18 = .bool (((gright r s b m c) && (gbelow p0 (r + s))) && (gbelow p1 b)) := hv 18 (by omega)
    have h19 : xsH 19 = .bool (((gright r s b m c) && (gbelow p0 (r + s))) && (gbelow p1 b)) := hv 19 (by omega)
    have h25 : xsH 25 = .bool ((((gright r s b m c) && (gbelow p0 (r + s))) && (gbelow p1 b)) && (gbelow p2 m)) := hv 25 (by omega)
    have h26 : xsH 26 = .bool ((((gright r s b m c) && (gbelow p0 (r + s))) && (gbelow p1 b)) && (gbelow p2 m)) := hv 26 (by omega)
    have h32 : xsH 32 = .bool (((((gright r s b m c) && (gbelow p0 (r + s))) && (gbelow p1 b)) && (gbelow p2 m)) && (gbelow p3 c)) := hv 32 (by omega)
    have h33 : xsH 33 = .bool (((((gright r s b m c) && (gbelow p0 (r + s))) && (gbelow p1 b)) && (gbelow p2 m)) && (gbelow p3 c)) := hv 33 (by omega)
    simp only [List.take_succ_cons, List.take_zero, List.drop_succ_cons, List.drop_zero, putsH, Act.put, List.setIfInBounds_toArray, List.set_cons_succ, List.set_cons_zero, h0, h1, h2, h11, h12, h18, h19, h25, h26, h32, h33]
    have OW2 := Lib.hid (OW.out.step hR)
    clear hv hR OW OZ h0 h1 h2 h11 h12 h18 h19 h25 h26 h32 h33
    have OW := OW2
    clear OW2
    obtain ⟨g4, OZ⟩ := own_size OW HB0
    gi_wp2
    refine leaves_own [] _ (Nat.le_of_eq HB0.out) (by simpa using OW.out) ?_
    intro W' hO
    exact ⟨.bool (((((gright r s b m c) && (gbelow p0 (r + s))) && (gbelow p1 b)) && (gbelow p2 m)) && (gbelow p3 c)), by simp [results, Try.results62, go_sem], rfl, hO.done HB0⟩
end Go.Proofs.Ytckhkagkpldoiaa
