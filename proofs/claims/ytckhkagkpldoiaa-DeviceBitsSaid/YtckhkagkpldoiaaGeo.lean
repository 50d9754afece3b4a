/- Geometries: whether they may be, and hold places: walks. -/
import Derived.Test.YtckhkagkpldoiaaOvX
import Derived.WalkKit
import Derived.Sort.CutIn
import Derived.IntWalk
namespace Go.Proofs.Ytckhkagkpldoiaa
open Go.RowKit Go.Shelf
attribute [local go_sem] Oper.semAt_some
set_option linter.unusedVariables false
set_option linter.unusedSimpArgs false


def gbelow (i n : Int) : Bool := ((decide (0 ≤ i)) && (decide (i < n)))
set_option maxRecDepth 100000 in
set_option maxHeartbeats 1000000 in
theorem gbelow_any (i n : Int) (w : World) : Calls Try.prog 93 #[.int .i64 i, .int .i64 n] w fun e w' => e = .returned (.bool (gbelow i n)) ∧ Below w.heap.size w w' := by
  obtain ⟨b0, hb0⟩ : ∃ b0, w.heap.size = b0 := ⟨_, rfl⟩
  have HB0 := Lib.hid hb0
  have OW := Lib.hid (Own.start b0 w)
  have OZ := Lib.hid (And.intro hb0 (Nat.le_refl b0))
  clear hb0
  refine (callsIn_wide (n := 6)).1 ?_
  refine callsIn_of_wp_marks Try.func93 rfl trivial ?_ rfl
  simp only [Try.ntmps93, List.size_toArray, List.length_cons, List.length_nil, Nat.reduceAdd, Nat.reduceSub, Array.replicate_succ, Array.replicate_zero, List.push_toArray, List.append_toArray, List.nil_append, List.cons_append]
  gi_upto_region 1 with fail
  obtain ⟨eo11, qeo11⟩ : ∃ e, (decide (0 ≤ i)) = e := ⟨_, rfl⟩
  obtain ⟨eo15, qeo15⟩ : ∃ e, (decide (i < n)) = e := ⟨_, rfl⟩
  obtain ⟨eo16, qeo16⟩ : ∃ e, (eo11 && eo15) = e := ⟨_, rfl⟩
  refine wpIn_region_heldL 8 (atD [[], [0], [1], [2], [2], [2, 3, 4], [2, 5], [6]]) (atV [fun vH _ => vH = .int .i64 i, fun vH _ => vH = .bool eo11, fun vH _ => vH = .bool eo11, cdV (True ∧ eo11 = true) (fun vH _ => vH = .int .i64 i), cdV (True ∧ eo11 = true) (fun vH _ => vH = .int .i64 n), cdV (True ∧ eo11 = true) (fun vH _ => vH = .bool eo15), fun vH _ => vH = .bool eo16, fun vH _ => vH = .bool eo16]) BelowR (by kernel_rfl) BelowR.trans (BelowR.refl _)
    (StV.atV (.const _ (.const _ (.const _ (.cons (fun v x y h _ => h) (.cons (fun v x y h _ => h) (.cons (fun v x y h _ => h) (.const _ (.const _ .nil)))))))))
    ⟨?o1x0, ?o1x1, ?o1x2, ?o1x3, ?o1x4, ?o1x5, ?o1x6, ?o1x7, trivial⟩ ?_
  case o1x0 =>
    exact held_move free_wide rfl BelowR.refl (.tmp 0) (.inl rfl) fun xs w' k _ => (pO (by kernel_rfl) rfl)
  case o1x1 =>
    exact held_run free_wide rfl (by rfl) BelowR.refl fun xs w' k hR => ⟨_, run_binO rfl (pT 0 (by kernel_rfl) (by kernel_rfl) (k 0 (by decide))) rfl bin_geq, (congrArg Value.bool qeo11)⟩
  case o1x2 =>
    exact held_move free_wide rfl BelowR.refl (.tmp 6) (.inl rfl) fun xs w' k _ => (pT 1 (by kernel_rfl) (by kernel_rfl) (k 1 (by decide)))
  case o1x3 =>
    refine held_guard free_wide 2 7 true True eo11 BelowR.refl rfl (by kernel_rfl) (by kernel_rfl) (by kernel_rfl) (fun xs w' k => .inl ⟨trivial, k 2 (by decide)⟩) (fun hC hG => ?_) (fun hN w' => .inr ⟨hN, rfl⟩)
    exact held_moveG free_wide hG BelowR.refl (.tmp 0) (.inl rfl) fun xs w' k _ => .inl ⟨hC, (pO (by kernel_rfl) rfl)⟩
  case o1x4 =>
    refine held_guard free_wide 2 7 true True eo11 BelowR.refl rfl (by kernel_rfl) (by kernel_rfl) (by kernel_rfl) (fun xs w' k => .inl ⟨trivial, k 2 (by decide)⟩) (fun hC hG => ?_) (fun hN w' => .inr ⟨hN, rfl⟩)
    exact held_moveG free_wide hG BelowR.refl (.tmp 1) (.inl rfl) fun xs w' k _ => .inl ⟨hC, (pO (by kernel_rfl) rfl)⟩
  case o1x5 =>
    refine held_guard free_wide 2 7 true True eo11 BelowR.refl rfl (by kernel_rfl) (by kernel_rfl) (by kernel_rfl) (fun xs w' k => .inl ⟨trivial, k 2 (by decide)⟩) (fun hC hG => ?_) (fun hN w' => .inr ⟨hN, rfl⟩)
    exact held_runG free_wide hG (by rfl) BelowR.refl fun xs w' k hR => ⟨_, run_binO rfl (pT 3 (by kernel_rfl) (by kernel_rfl) (cdAt (k 3 (by decide)) rfl hC)) (pT 4 (by kernel_rfl) (by kernel_rfl) (cdAt (k 4 (by decide)) rfl hC)) bin_lss, (.inl ⟨hC, congrArg Value.bool qeo15⟩)⟩
  case o1x6 =>
    exact held_run free_wide rfl (by rfl) BelowR.refl fun xs w' k hR => ⟨_, run_pickAnd rfl (pT 2 (by kernel_rfl) (by kernel_rfl) (k 2 (by decide))) rfl (fun h => pT 5 (by kernel_rfl) (by kernel_rfl) (cdAt (k 5 (by decide)) rfl (And.intro trivial h))), (congrArg Value.bool qeo16)⟩
  case o1x7 =>
    exact held_move free_wide rfl BelowR.refl (.tmp 11) (.inr rfl) fun xs w' k _ => (pT 6 (by kernel_rfl) (by kernel_rfl) (k 6 (by decide)))
  intro xs w' hv hR
  subst qeo16 qeo15 qeo11
  have h0 : xs 0 = _ := hv 0 (by omega)
  have h1 : xs 1 = _ := hv 1 (by omega)
  have h2 : xs 2 = _ := hv 2 (by omega)
  have h6 : xs 6 = _ := hv 6 (by omega)
  have h7 : xs 7 = _ := hv 7 (by omega)
  simp only [List.take_succ_cons, List.take_zero, List.drop_succ_cons, List.drop_zero, putsH, Act.put, List.setIfInBounds_toArray, List.set_cons_succ, List.set_cons_zero, h0, h1, h2, h6, h7]
  have OW2 := Lib.hid (OW.out.step hR)
  clear hv hR OW OZ h0 h1 h2 h6 h7
  have OW := OW2
  clear OW2
  obtain ⟨g2, OZ⟩ := own_size OW HB0
  gi_wp2
  refine leaves_own [] _ (Nat.le_of_eq HB0.out) (by simpa using OW.out) ?_
  intro W' hO
  exact ⟨.bool ((decide (0 ≤ i)) && (decide (i < n))), by simp [results, Try.results93, go_sem], rfl, hO.done HB0⟩
def gpower (n most : Int) : Bool := (((decide (1 ≤ n)) && (decide (n ≤ most))) && ((bits .and .i64 n (n - 1)) == 0))
set_option maxRecDepth 100000 in
set_option maxHeartbeats 1000000 in
theorem gpower_any (n most : Int) (hm : most ≤ 1024) (w : World) : Calls Try.prog 96 #[.int .i64 n, .int .i64 most] w fun e w' => e = .returned (.bool (gpower n most)) ∧ Below w.heap.size w w' := by
  obtain ⟨b0, hb0⟩ : ∃ b0, w.heap.size = b0 := ⟨_, rfl⟩
  have HB0 := Lib.hid hb0
  have OW := Lib.hid (Own.start b0 w)
  have OZ := Lib.hid (And.intro hb0 (Nat.le_refl b0))
  clear hb0
  refine (callsIn_wide (n := 6)).1 ?_
  refine callsIn_of_wp_marks Try.func96 rfl trivial ?_ rfl
  simp only [Try.ntmps96, List.size_toArray, List.length_cons, List.length_nil, Nat.reduceAdd, Nat.reduceSub, Array.replicate_succ, Array.replicate_zero, List.push_toArray, List.append_toArray, List.nil_append, List.cons_append]
  gi_upto_region 1 with fail
  obtain ⟨eo11, qeo11⟩ : ∃ e, (decide (1 ≤ n)) = e := ⟨_, rfl⟩
  obtain ⟨eo15, qeo15⟩ : ∃ e, (decide (n ≤ most)) = e := ⟨_, rfl⟩
  obtain ⟨eo16, qeo16⟩ : ∃ e, (eo11 && eo15) = e := ⟨_, rfl⟩
  obtain ⟨eo112, qeo112⟩ : ∃ e, ((bits .and .i64 n (n - 1)) == 0) = e := ⟨_, rfl⟩
  obtain ⟨eo113, qeo113⟩ : ∃ e, (eo16 && eo112) = e := ⟨_, rfl⟩
  refine wpIn_region_heldL 15 (atD [[], [0], [1], [2], [2], [2, 3, 4], [2, 5], [6], [7], [7], [7, 9], [7, 8, 10], [7, 11], [7, 12], [13]]) (atV [fun vH _ => vH = .int .i64 n, fun vH _ => vH = .bool eo11, fun vH _ => vH = .bool eo11, cdV (True ∧ eo11 = true) (fun vH _ => vH = .int .i64 n), cdV (True ∧ eo11 = true) (fun vH _ => vH = .int .i64 most), cdV (True ∧ eo11 = true) (fun vH _ => vH = .bool eo15), fun vH _ => vH = .bool eo16, fun vH _ => vH = .bool eo16, cdV (True ∧ eo16 = true) (fun vH _ => vH = .int .i64 n), cdV (True ∧ eo16 = true) (fun vH _ => vH = .int .i64 n), cdV (True ∧ eo16 = true) (fun vH _ => vH = .int .i64 (n - 1)), cdV (True ∧ eo16 = true) (fun vH _ => vH = .int .i64 (bits .and .i64 n (n - 1))), cdV (True ∧ eo16 = true) (fun vH _ => vH = .bool eo112), fun vH _ => vH = .bool eo113, fun vH _ => vH = .bool eo113]) BelowR (by kernel_rfl) BelowR.trans (BelowR.refl _)
    (StV.atV (.const _ (.const _ (.const _ (.cons (fun v x y h _ => h) (.cons (fun v x y h _ => h) (.cons (fun v x y h _ => h) (.const _ (.const _ (.cons (fun v x y h _ => h) (.cons (fun v x y h _ => h) (.cons (fun v x y h _ => h) (.cons (fun v x y h _ => h) (.cons (fun v x y h _ => h) (.const _ (.const _ .nil))))))))))))))))
    ⟨?o1x0, ?o1x1, ?o1x2, ?o1x3, ?o1x4, ?o1x5, ?o1x6, ?o1x7, ?o1x8, ?o1x9, ?o1x10, ?o1x11, ?o1x12, ?o1x13, ?o1x14, trivial⟩ ?_
  case o1x0 =>
    exact held_move free_wide rfl BelowR.refl (.tmp 0) (.inl rfl) fun xs w' k _ => (pO (by kernel_rfl) rfl)
  case o1x1 =>
    exact held_run free_wide rfl (by rfl) BelowR.refl fun xs w' k hR => ⟨_, run_binO rfl (pT 0 (by kernel_rfl) (by kernel_rfl) (k 0 (by decide))) rfl bin_geq, (congrArg Value.bool qeo11)⟩
  case o1x2 =>
    exact held_move free_wide rfl BelowR.refl (.tmp 6) (.inl rfl) fun xs w' k _ => (pT 1 (by kernel_rfl) (by kernel_rfl) (k 1 (by decide)))
  case o1x3 =>
    refine held_guard free_wide 2 7 true True eo11 BelowR.refl rfl (by kernel_rfl) (by kernel_rfl) (by kernel_rfl) (fun xs w' k => .inl ⟨trivial, k 2 (by decide)⟩) (fun hC hG => ?_) (fun hN w' => .inr ⟨hN, rfl⟩)
    exact held_moveG free_wide hG BelowR.refl (.tmp 0) (.inl rfl) fun xs w' k _ => .inl ⟨hC, (pO (by kernel_rfl) rfl)⟩
  case o1x4 =>
    refine held_guard free_wide 2 7 true True eo11 BelowR.refl rfl (by kernel_rfl) (by kernel_rfl) (by kernel_rfl) (fun xs w' k => .inl ⟨trivial, k 2 (by decide)⟩) (fun hC hG => ?_) (fun hN w' => .inr ⟨hN, rfl⟩)
    exact held_moveG free_wide hG BelowR.refl (.tmp 1) (.inl rfl) fun xs w' k _ => .inl ⟨hC, (pO (by kernel_rfl) rfl)⟩
  case o1x5 =>
    refine held_guard free_wide 2 7 true True eo11 BelowR.refl rfl (by kernel_rfl) (by kernel_rfl) (by kernel_rfl) (fun xs w' k => .inl ⟨trivial, k 2 (by decide)⟩) (fun hC hG => ?_) (fun hN w' => .inr ⟨hN, rfl⟩)
    exact held_runG free_wide hG (by rfl) BelowR.refl fun xs w' k hR => ⟨_, run_binO rfl (pT 3 (by kernel_rfl) (by kernel_rfl) (cdAt (k 3 (by decide)) rfl hC)) (pT 4 (by kernel_rfl) (by kernel_rfl) (cdAt (k 4 (by decide)) rfl hC)) bin_leq, (.inl ⟨hC, congrArg Value.bool qeo15⟩)⟩
  case o1x6 =>
    exact held_run free_wide rfl (by rfl) BelowR.refl fun xs w' k hR => ⟨_, run_pickAnd rfl (pT 2 (by kernel_rfl) (by kernel_rfl) (k 2 (by decide))) rfl (fun h => pT 5 (by kernel_rfl) (by kernel_rfl) (cdAt (k 5 (by decide)) rfl (And.intro trivial h))), (congrArg Value.bool qeo16)⟩
  case o1x7 =>
    exact held_move free_wide rfl BelowR.refl (.tmp 11) (.inl rfl) fun xs w' k _ => (pT 6 (by kernel_rfl) (by kernel_rfl) (k 6 (by decide)))
  case o1x8 =>
    refine held_guard free_wide 7 12 true True eo16 BelowR.refl rfl (by kernel_rfl) (by kernel_rfl) (by kernel_rfl) (fun xs w' k => .inl ⟨trivial, k 7 (by decide)⟩) (fun hC hG => ?_) (fun hN w' => .inr ⟨hN, rfl⟩)
    exact held_moveG free_wide hG BelowR.refl (.tmp 0) (.inl rfl) fun xs w' k _ => .inl ⟨hC, (pO (by kernel_rfl) rfl)⟩
  case o1x9 =>
    refine held_guard free_wide 7 12 true True eo16 BelowR.refl rfl (by kernel_rfl) (by kernel_rfl) (by kernel_rfl) (fun xs w' k => .inl ⟨trivial, k 7 (by decide)⟩) (fun hC hG => ?_) (fun hN w' => .inr ⟨hN, rfl⟩)
    exact held_moveG free_wide hG BelowR.refl (.tmp 0) (.inl rfl) fun xs w' k _ => .inl ⟨hC, (pO (by kernel_rfl) rfl)⟩
  case o1x10 =>
    refine held_guard free_wide 7 12 true True eo16 BelowR.refl rfl (by kernel_rfl) (by kernel_rfl) (by kernel_rfl) (fun xs w' k => .inl ⟨trivial, k 7 (by decide)⟩) (fun hC hG => ?_) (fun hN w' => .inr ⟨hN, rfl⟩)
    exact held_runG free_wide hG (by rfl) BelowR.refl fun xs w' k hR => ⟨_, run_binO rfl (pT 9 (by kernel_rfl) (by kernel_rfl) (cdAt (k 9 (by decide)) rfl hC)) rfl (bin_sub_in (by subst qeo16 qeo15 qeo11; have := hC.2; simp at this; omega) (by subst qeo16 qeo15 qeo11; have := hC.2; simp at this; omega)), (.inl ⟨hC, rfl⟩)⟩
  case o1x11 =>
    refine held_guard free_wide 7 12 true True eo16 BelowR.refl rfl (by kernel_rfl) (by kernel_rfl) (by kernel_rfl) (fun xs w' k => .inl ⟨trivial, k 7 (by decide)⟩) (fun hC hG => ?_) (fun hN w' => .inr ⟨hN, rfl⟩)
    exact held_runG free_wide hG (by rfl) BelowR.refl fun xs w' k hR => ⟨_, run_binO rfl (pT 8 (by kernel_rfl) (by kernel_rfl) (cdAt (k 8 (by decide)) rfl hC)) (pT 10 (by kernel_rfl) (by kernel_rfl) (cdAt (k 10 (by decide)) rfl hC)) (bin_bits (.inl rfl)), (.inl ⟨hC, rfl⟩)⟩
  case o1x12 =>
    refine held_guard free_wide 7 12 true True eo16 BelowR.refl rfl (by kernel_rfl) (by kernel_rfl) (by kernel_rfl) (fun xs w' k => .inl ⟨trivial, k 7 (by decide)⟩) (fun hC hG => ?_) (fun hN w' => .inr ⟨hN, rfl⟩)
    exact held_runG free_wide hG (by rfl) BelowR.refl fun xs w' k hR => ⟨_, run_binO rfl (pT 11 (by kernel_rfl) (by kernel_rfl) (cdAt (k 11 (by decide)) rfl hC)) rfl bin_eql, (.inl ⟨hC, congrArg Value.bool qeo112⟩)⟩
  case o1x13 =>
    exact held_run free_wide rfl (by rfl) BelowR.refl fun xs w' k hR => ⟨_, run_pickAnd rfl (pT 7 (by kernel_rfl) (by kernel_rfl) (k 7 (by decide))) rfl (fun h => pT 12 (by kernel_rfl) (by kernel_rfl) (cdAt (k 12 (by decide)) rfl (And.intro trivial h))), (congrArg Value.bool qeo113)⟩
  case o1x14 =>
    exact held_move free_wide rfl BelowR.refl (.tmp 18) (.inr rfl) fun xs w' k _ => (pT 13 (by kernel_rfl) (by kernel_rfl) (k 13 (by decide)))
  intro xs w' hv hR
  subst qeo113 qeo112 qeo16 qeo15 qeo11
  have h0 : xs 0 = _ := hv 0 (by omega)
  have h1 : xs 1 = _ := hv 1 (by omega)
  have h2 : xs 2 = _ := hv 2 (by omega)
  have h6 : xs 6 = _ := hv 6 (by omega)
  have h7 : xs 7 = _ := hv 7 (by omega)
  have h13 : xs 13 = _ := hv 13 (by omega)
  have h14 : xs 14 = _ := hv 14 (by omega)
  simp only [List.take_succ_cons, List.take_zero, List.drop_succ_cons, List.drop_zero, putsH, Act.put, List.setIfInBounds_toArray, List.set_cons_succ, List.set_cons_zero, h0, h1, h2, h6, h7, h13, h14]
  have OW2 := Lib.hid (OW.out.step hR)
  clear hv hR OW OZ h0 h1 h2 h6 h7 h13 h14
  have OW := OW2
  clear OW2
  obtain ⟨g2, OZ⟩ := own_size OW HB0
  gi_wp2
  refine leaves_own [] _ (Nat.le_of_eq HB0.out) (by simpa using OW.out) ?_
  intro W' hO
  exact ⟨.bool (((decide (1 ≤ n)) && (decide (n ≤ most))) && ((bits .and .i64 n (n - 1)) == 0)), by simp [results, Try.results96, go_sem], rfl, hO.done HB0⟩
theorem gpower_in {n m : Int} (h : gpower n m = true) : 1 ≤ n ∧ n ≤ m := by
  simp [gpower] at h
  exact h.1
/-- The products of a geometry's sides are small. -/
theorem prods {r s b m c : Int} (h0 : 0 ≤ r + s ∧ r + s ≤ 8) (h1 : 1 ≤ b ∧ b ≤ 16) (h2 : 1 ≤ m ∧ m ≤ 1024) (h3 : 1 ≤ c ∧ c ≤ 64) :
    (0 ≤ (r + s) * b ∧ (r + s) * b ≤ 128) ∧ (0 ≤ (r + s) * b * m ∧ (r + s) * b * m ≤ 131072) ∧ (0 ≤ (r + s) * b * m * c ∧ (r + s) * b * m * c ≤ 8388608) := by
  have a0 : 0 ≤ (r + s) * b := Int.mul_nonneg h0.1 (by omega)
  have a1 : (r + s) * b ≤ 8 * 16 := Int.mul_le_mul h0.2 h1.2 (by omega) (by omega)
  have b0 : 0 ≤ (r + s) * b * m := Int.mul_nonneg a0 (by omega)
  have b1 : (r + s) * b * m ≤ 128 * 1024 := Int.mul_le_mul (by omega) h2.2 (by omega) (by omega)
  have c0 : 0 ≤ (r + s) * b * m * c := Int.mul_nonneg b0 (by omega)
  have c1 : (r + s) * b * m * c ≤ 131072 * 64 := Int.mul_le_mul (by omega) h3.2 (by omega) (by omega)
  omega
theorem gR_in {r s b m c : Int} (h : ((((((gpower r 8) && (decide (0 ≤ s))) && (decide (s ≤ (8 - r)))) && (gpower b 16)) && (gpower m 1024)) && (gpower c 64)) = true) :
    (0 ≤ r + s ∧ r + s ≤ 8) ∧ (0 ≤ (r + s) * b ∧ (r + s) * b ≤ 128) ∧ (0 ≤ (r + s) * b * m ∧ (r + s) * b * m ≤ 131072) ∧ (0 ≤ (r + s) * b * m * c ∧ (r + s) * b * m * c ≤ 8388608) := by
  simp only [Bool.and_eq_true, decide_eq_true_eq] at h
  obtain ⟨⟨⟨⟨⟨h0, h1⟩, h2⟩, h3⟩, h4⟩, h5⟩ := h
  have := gpower_in h0
  have e : 0 ≤ r + s ∧ r + s ≤ 8 := by omega
  exact And.intro e (prods e (gpower_in h3) (gpower_in h4) (gpower_in h5))
def gright (r s b m c : Int) : Bool := (((((((gpower r 8) && (decide (0 ≤ s))) && (decide (s ≤ (8 - r)))) && (gpower b 16)) && (gpower m 1024)) && (gpower c 64)) && (decide (((((r + s) * b) * m) * c) ≤ 4096)))
set_option maxRecDepth 100000 in
set_option maxHeartbeats 1000000 in
theorem gright_any (r s b m c : Int) (w : World) : Calls Try.prog 72 #[.agg #[.int .i64 r, .int .i64 s, .int .i64 b, .int .i64 m, .int .i64 c]] w fun e w' => e = .returned (.bool (gright r s b m c)) ∧ Below w.heap.size w w' := by
  obtain ⟨b0, hb0⟩ : ∃ b0, w.heap.size = b0 := ⟨_, rfl⟩
  have HB0 := Lib.hid hb0
  have OW := Lib.hid (Own.start b0 w)
  have OZ := Lib.hid (And.intro hb0 (Nat.le_refl b0))
  clear hb0
  refine (callsIn_wide (n := 6)).1 ?_
  refine callsIn_of_wp_marks Try.func72 rfl trivial ?_ rfl
  simp only [Try.ntmps72, List.size_toArray, List.length_cons, List.length_nil, Nat.reduceAdd, Nat.reduceSub, Array.replicate_succ, Array.replicate_zero, List.push_toArray, List.append_toArray, List.nil_append, List.cons_append]
  gi_upto_region 1 with (first | (refine own_boxV 1 27 (.tmp 0) rfl rfl rfl (.agg #[.int .i64 r, .int .i64 s, .int .i64 b, .int .i64 m, .int .i64 c]) rfl #[.int .i64 r, .int .i64 s, .int .i64 b, .int .i64 m, .int .i64 c] rfl OW OZ ?_; clear OW OZ; intro W g1 OW OZ))
  obtain ⟨eo26, qeo26⟩ : ∃ e, (decide (0 ≤ s)) = e := ⟨_, rfl⟩
  obtain ⟨eo27, qeo27⟩ : ∃ e, ((gpower r 8) && eo26) = e := ⟨_, rfl⟩
  obtain ⟨eo214, qeo214⟩ : ∃ e, (decide (s ≤ (8 - r))) = e := ⟨_, rfl⟩
  obtain ⟨eo215, qeo215⟩ : ∃ e, (eo27 && eo214) = e := ⟨_, rfl⟩
  obtain ⟨eo220, qeo220⟩ : ∃ e, (eo215 && (gpower b 16)) = e := ⟨_, rfl⟩
  obtain ⟨eo225, qeo225⟩ : ∃ e, (eo220 && (gpower m 1024)) = e := ⟨_, rfl⟩
  obtain ⟨eo230, qeo230⟩ : ∃ e, (eo225 && (gpower c 64)) = e := ⟨_, rfl⟩
  obtain ⟨eo246, qeo246⟩ : ∃ e, (decide (((((r + s) * b) * m) * c) ≤ 4096)) = e := ⟨_, rfl⟩
  obtain ⟨eo247, qeo247⟩ : ∃ e, (eo230 && eo246) = e := ⟨_, rfl⟩
  refine wpIn_region_heldL 49 (atD [[], [0], [1], [2], [3], [3, 4], [3, 5], [3, 6], [7], [8], [8, 9], [8], [8, 11], [8, 12], [8, 10, 13], [8, 14], [15], [16], [16, 17], [16, 18], [16, 19], [20], [21], [21, 22], [21, 23], [21, 24], [25], [26], [26, 27], [26, 28], [26, 29], [30], [31], [31, 32], [31], [31, 34], [31, 33, 35], [31], [31, 37], [31, 36, 38], [31], [31, 40], [31, 39, 41], [31], [31, 43], [31, 42, 44], [31, 45], [31, 46], [47]]) (atV [fun vH _ => vH = .pointer (some ⟨b0, 0, none⟩), fun vH _ => vH = .int .i64 r, fun vH _ => vH = .bool (gpower r 8), fun vH _ => vH = .bool (gpower r 8), cdV (True ∧ (gpower r 8) = true) (fun vH _ => vH = .pointer (some ⟨b0, 1, none⟩)), cdV (True ∧ (gpower r 8) = true) (fun vH _ => vH = .int .i64 s), cdV (True ∧ (gpower r 8) = true) (fun vH _ => vH = .bool eo26), fun vH _ => vH = .bool eo27, fun vH _ => vH = .bool eo27, cdV (True ∧ eo27 = true) (fun vH _ => vH = .pointer (some ⟨b0, 1, none⟩)), cdV (True ∧ eo27 = true) (fun vH _ => vH = .int .i64 s), cdV (True ∧ eo27 = true) (fun vH _ => vH = .pointer (some ⟨b0, 0, none⟩)), cdV (True ∧ eo27 = true) (fun vH _ => vH = .int .i64 r), cdV (True ∧ eo27 = true) (fun vH _ => vH = .int .i64 (8 - r)), cdV (True ∧ eo27 = true) (fun vH _ => vH = .bool eo214), fun vH _ => vH = .bool eo215, fun vH _ => vH = .bool eo215, cdV (True ∧ eo215 = true) (fun vH _ => vH = .pointer (some ⟨b0, 2, none⟩)), cdV (True ∧ eo215 = true) (fun vH _ => vH = .int .i64 b), cdV (True ∧ eo215 = true) (fun vH _ => vH = .bool (gpower b 16)), fun vH _ => vH = .bool eo220, fun vH _ => vH = .bool eo220, cdV (True ∧ eo220 = true) (fun vH _ => vH = .pointer (some ⟨b0, 3, none⟩)), cdV (True ∧ eo220 = true) (fun vH _ => vH = .int .i64 m), cdV (True ∧ eo220 = true) (fun vH _ => vH = .bool (gpower m 1024)), fun vH _ => vH = .bool eo225, fun vH _ => vH = .bool eo225, cdV (True ∧ eo225 = true) (fun vH _ => vH = .pointer (some ⟨b0, 4, none⟩)), cdV (True ∧ eo225 = true) (fun vH _ => vH = .int .i64 c), cdV (True ∧ eo225 = true) (fun vH _ => vH = .bool (gpower c 64)), fun vH _ => vH = .bool eo230, fun vH _ => vH = .bool eo230, cdV (True ∧ eo230 = true) (fun vH _ => vH = .pointer (some ⟨b0, 0, none⟩)), cdV (True ∧ eo230 = true) (fun vH _ => vH = .int .i64 r), cdV (True ∧ eo230 = true) (fun vH _ => vH = .pointer (some ⟨b0, 1, none⟩)), cdV (True ∧ eo230 = true) (fun vH _ => vH = .int .i64 s), cdV (True ∧ eo230 = true) (fun vH _ => vH = .int .i64 (r + s)), cdV (True ∧ eo230 = true) (fun vH _ => vH = .pointer (some ⟨b0, 2, none⟩)), cdV (True ∧ eo230 = true) (fun vH _ => vH = .int .i64 b), cdV (True ∧ eo230 = true) (fun vH _ => vH = .int .i64 ((r + s) * b)), cdV (True ∧ eo230 = true) (fun vH _ => vH = .pointer (some ⟨b0, 3, none⟩)), cdV (True ∧ eo230 = true) (fun vH _ => vH = .int .i64 m), cdV (True ∧ eo230 = true) (fun vH _ => vH = .int .i64 (((r + s) * b) * m)), cdV (True ∧ eo230 = true) (fun vH _ => vH = .pointer (some ⟨b0, 4, none⟩)), cdV (True ∧ eo230 = true) (fun vH _ => vH = .int .i64 c), cdV (True ∧ eo230 = true) (fun vH _ => vH = .int .i64 ((((r + s) * b) * m) * c)), cdV (True ∧ eo230 = true) (fun vH _ => vH = .bool eo246), fun vH _ => vH = .bool eo247, fun vH _ => vH = .bool eo247]) BelowR (by kernel_rfl) BelowR.trans (BelowR.refl _)
    (StV.atV (.const _ (.const _ (.const _ (.const _ (.cons (fun v x y h _ => h) (.cons (fun v x y h _ => h) (.cons (fun v x y h _ => h) (.const _ (.const _ (.cons (fun v x y h _ => h) (.cons (fun v x y h _ => h) (.cons (fun v x y h _ => h) (.cons (fun v x y h _ => h) (.cons (fun v x y h _ => h) (.cons (fun v x y h _ => h) (.const _ (.const _ (.cons (fun v x y h _ => h) (.cons (fun v x y h _ => h) (.cons (fun v x y h _ => h) (.const _ (.const _ (.cons (fun v x y h _ => h) (.cons (fun v x y h _ => h) (.cons (fun v x y h _ => h) (.const _ (.const _ (.cons (fun v x y h _ => h) (.cons (fun v x y h _ => h) (.cons (fun v x y h _ => h) (.const _ (.const _ (.cons (fun v x y h _ => h) (.cons (fun v x y h _ => h) (.cons (fun v x y h _ => h) (.cons (fun v x y h _ => h) (.cons (fun v x y h _ => h) (.cons (fun v x y h _ => h) (.cons (fun v x y h _ => h) (.cons (fun v x y h _ => h) (.cons (fun v x y h _ => h) (.cons (fun v x y h _ => h) (.cons (fun v x y h _ => h) (.cons (fun v x y h _ => h) (.cons (fun v x y h _ => h) (.cons (fun v x y h _ => h) (.cons (fun v x y h _ => h) (.const _ (.const _ .nil))))))))))))))))))))))))))))))))))))))))))))))))))
    ⟨?o2x0, ?o2x1, ?o2x2, ?o2x3, ?o2x4, ?o2x5, ?o2x6, ?o2x7, ?o2x8, ?o2x9, ?o2x10, ?o2x11, ?o2x12, ?o2x13, ?o2x14, ?o2x15, ?o2x16, ?o2x17, ?o2x18, ?o2x19, ?o2x20, ?o2x21, ?o2x22, ?o2x23, ?o2x24, ?o2x25, ?o2x26, ?o2x27, ?o2x28, ?o2x29, ?o2x30, ?o2x31, ?o2x32, ?o2x33, ?o2x34, ?o2x35, ?o2x36, ?o2x37, ?o2x38, ?o2x39, ?o2x40, ?o2x41, ?o2x42, ?o2x43, ?o2x44, ?o2x45, ?o2x46, ?o2x47, ?o2x48, trivial⟩ ?_
  case o2x0 =>
    exact held_run free_wide rfl (by rfl) BelowR.refl fun xs w' k hR => ⟨_, run_fldO rfl (pO (by kernel_rfl) rfl) (by kernel_rfl), rfl⟩
  case o2x1 =>
    exact held_load free_wide rfl BelowR.refl 3 (.tmp 3) rfl fun xs w' k hR => ⟨_, _, (pT 0 (by kernel_rfl) (by kernel_rfl) (k 0 (by decide))), ldC OW hR 0 rfl rfl naInt, rfl⟩
  case o2x2 =>
    refine held_call free_wide rfl 96 _ _ rfl (enters_of Try.func96 (by kernel_rfl) rfl) fun xs w' k hR => ⟨_, mapE2 (pT 1 (by kernel_rfl) (by kernel_rfl) (k 1 (by decide))) rfl, ?_⟩
    refine (callsIn_wide.2 (gpower_any r 8 (by decide) _)).mono ?_
    rintro e w2 ⟨rfl, h2⟩
    exact ⟨_, rfl, rfl, h2⟩
  case o2x3 =>
    exact held_move free_wide rfl BelowR.refl (.tmp 5) (.inl rfl) fun xs w' k _ => (pT 2 (by kernel_rfl) (by kernel_rfl) (k 2 (by decide)))
  case o2x4 =>
    refine held_guard free_wide 3 6 true True (gpower r 8) BelowR.refl rfl (by kernel_rfl) (by kernel_rfl) (by kernel_rfl) (fun xs w' k => .inl ⟨trivial, k 3 (by decide)⟩) (fun hC hG => ?_) (fun hN w' => .inr ⟨hN, rfl⟩)
    exact held_runG free_wide hG (by rfl) BelowR.refl fun xs w' k hR => ⟨_, run_fldO rfl (pO (by kernel_rfl) rfl) (by kernel_rfl), (.inl ⟨hC, rfl⟩)⟩
  case o2x5 =>
    refine held_guard free_wide 3 6 true True (gpower r 8) BelowR.refl rfl (by kernel_rfl) (by kernel_rfl) (by kernel_rfl) (fun xs w' k => .inl ⟨trivial, k 3 (by decide)⟩) (fun hC hG => ?_) (fun hN w' => .inr ⟨hN, rfl⟩)
    exact held_loadG free_wide hG BelowR.refl 3 (.tmp 7) rfl fun xs w' k hR => ⟨_, _, (pT 4 (by kernel_rfl) (by kernel_rfl) (cdAt (k 4 (by decide)) rfl hC)), ldC OW hR 0 rfl rfl naInt, (.inl ⟨hC, rfl⟩)⟩
  case o2x6 =>
    refine held_guard free_wide 3 6 true True (gpower r 8) BelowR.refl rfl (by kernel_rfl) (by kernel_rfl) (by kernel_rfl) (fun xs w' k => .inl ⟨trivial, k 3 (by decide)⟩) (fun hC hG => ?_) (fun hN w' => .inr ⟨hN, rfl⟩)
    exact held_runG free_wide hG (by rfl) BelowR.refl fun xs w' k hR => ⟨_, run_binO rfl (pT 5 (by kernel_rfl) (by kernel_rfl) (cdAt (k 5 (by decide)) rfl hC)) rfl bin_geq, (.inl ⟨hC, congrArg Value.bool qeo26⟩)⟩
  case o2x7 =>
    exact held_run free_wide rfl (by rfl) BelowR.refl fun xs w' k hR => ⟨_, run_pickAnd rfl (pT 3 (by kernel_rfl) (by kernel_rfl) (k 3 (by decide))) rfl (fun h => pT 6 (by kernel_rfl) (by kernel_rfl) (cdAt (k 6 (by decide)) rfl (And.intro trivial h))), (congrArg Value.bool qeo27)⟩
  case o2x8 =>
    exact held_move free_wide rfl BelowR.refl (.tmp 10) (.inl rfl) fun xs w' k _ => (pT 7 (by kernel_rfl) (by kernel_rfl) (k 7 (by decide)))
  case o2x9 =>
    refine held_guard free_wide 8 11 true True eo27 BelowR.refl rfl (by kernel_rfl) (by kernel_rfl) (by kernel_rfl) (fun xs w' k => .inl ⟨trivial, k 8 (by decide)⟩) (fun hC hG => ?_) (fun hN w' => .inr ⟨hN, rfl⟩)
    exact held_runG free_wide hG (by rfl) BelowR.refl fun xs w' k hR => ⟨_, run_fldO rfl (pO (by kernel_rfl) rfl) (by kernel_rfl), (.inl ⟨hC, rfl⟩)⟩
  case o2x10 =>
    refine held_guard free_wide 8 11 true True eo27 BelowR.refl rfl (by kernel_rfl) (by kernel_rfl) (by kernel_rfl) (fun xs w' k => .inl ⟨trivial, k 8 (by decide)⟩) (fun hC hG => ?_) (fun hN w' => .inr ⟨hN, rfl⟩)
    exact held_loadG free_wide hG BelowR.refl 3 (.tmp 12) rfl fun xs w' k hR => ⟨_, _, (pT 9 (by kernel_rfl) (by kernel_rfl) (cdAt (k 9 (by decide)) rfl hC)), ldC OW hR 0 rfl rfl naInt, (.inl ⟨hC, rfl⟩)⟩
  case o2x11 =>
    refine held_guard free_wide 8 11 true True eo27 BelowR.refl rfl (by kernel_rfl) (by kernel_rfl) (by kernel_rfl) (fun xs w' k => .inl ⟨trivial, k 8 (by decide)⟩) (fun hC hG => ?_) (fun hN w' => .inr ⟨hN, rfl⟩)
    exact held_runG free_wide hG (by rfl) BelowR.refl fun xs w' k hR => ⟨_, run_fldO rfl (pO (by kernel_rfl) rfl) (by kernel_rfl), (.inl ⟨hC, rfl⟩)⟩
  case o2x12 =>
    refine held_guard free_wide 8 11 true True eo27 BelowR.refl rfl (by kernel_rfl) (by kernel_rfl) (by kernel_rfl) (fun xs w' k => .inl ⟨trivial, k 8 (by decide)⟩) (fun hC hG => ?_) (fun hN w' => .inr ⟨hN, rfl⟩)
    exact held_loadG free_wide hG BelowR.refl 3 (.tmp 14) rfl fun xs w' k hR => ⟨_, _, (pT 11 (by kernel_rfl) (by kernel_rfl) (cdAt (k 11 (by decide)) rfl hC)), ldC OW hR 0 rfl rfl naInt, (.inl ⟨hC, rfl⟩)⟩
  case o2x13 =>
    refine held_guard free_wide 8 11 true True eo27 BelowR.refl rfl (by kernel_rfl) (by kernel_rfl) (by kernel_rfl) (fun xs w' k => .inl ⟨trivial, k 8 (by decide)⟩) (fun hC hG => ?_) (fun hN w' => .inr ⟨hN, rfl⟩)
    exact held_runG free_wide hG (by rfl) BelowR.refl fun xs w' k hR => ⟨_, run_binO rfl rfl (pT 12 (by kernel_rfl) (by kernel_rfl) (cdAt (k 12 (by decide)) rfl hC)) (bin_sub_in (by subst qeo27 qeo26; have h := hC.2; simp only [Bool.and_eq_true] at h; have := gpower_in h.1; omega) (by subst qeo27 qeo26; have h := hC.2; simp only [Bool.and_eq_true] at h; have := gpower_in h.1; omega)), (.inl ⟨hC, rfl⟩)⟩
  case o2x14 =>
    refine held_guard free_wide 8 11 true True eo27 BelowR.refl rfl (by kernel_rfl) (by kernel_rfl) (by kernel_rfl) (fun xs w' k => .inl ⟨trivial, k 8 (by decide)⟩) (fun hC hG => ?_) (fun hN w' => .inr ⟨hN, rfl⟩)
    exact held_runG free_wide hG (by rfl) BelowR.refl fun xs w' k hR => ⟨_, run_binO rfl (pT 10 (by kernel_rfl) (by kernel_rfl) (cdAt (k 10 (by decide)) rfl hC)) (pT 13 (by kernel_rfl) (by kernel_rfl) (cdAt (k 13 (by decide)) rfl hC)) bin_leq, (.inl ⟨hC, congrArg Value.bool qeo214⟩)⟩
  case o2x15 =>
    exact held_run free_wide rfl (by rfl) BelowR.refl fun xs w' k hR => ⟨_, run_pickAnd rfl (pT 8 (by kernel_rfl) (by kernel_rfl) (k 8 (by decide))) rfl (fun h => pT 14 (by kernel_rfl) (by kernel_rfl) (cdAt (k 14 (by decide)) rfl (And.intro trivial h))), (congrArg Value.bool qeo215)⟩
  case o2x16 =>
    exact held_move free_wide rfl BelowR.refl (.tmp 18) (.inl rfl) fun xs w' k _ => (pT 15 (by kernel_rfl) (by kernel_rfl) (k 15 (by decide)))
  case o2x17 =>
    refine held_guard free_wide 16 19 true True eo215 BelowR.refl rfl (by kernel_rfl) (by kernel_rfl) (by kernel_rfl) (fun xs w' k => .inl ⟨trivial, k 16 (by decide)⟩) (fun hC hG => ?_) (fun hN w' => .inr ⟨hN, rfl⟩)
    exact held_runG free_wide hG (by rfl) BelowR.refl fun xs w' k hR => ⟨_, run_fldO rfl (pO (by kernel_rfl) rfl) (by kernel_rfl), (.inl ⟨hC, rfl⟩)⟩
  case o2x18 =>
    refine held_guard free_wide 16 19 true True eo215 BelowR.refl rfl (by kernel_rfl) (by kernel_rfl) (by kernel_rfl) (fun xs w' k => .inl ⟨trivial, k 16 (by decide)⟩) (fun hC hG => ?_) (fun hN w' => .inr ⟨hN, rfl⟩)
    exact held_loadG free_wide hG BelowR.refl 3 (.tmp 20) rfl fun xs w' k hR => ⟨_, _, (pT 17 (by kernel_rfl) (by kernel_rfl) (cdAt (k 17 (by decide)) rfl hC)), ldC OW hR 0 rfl rfl naInt, (.inl ⟨hC, rfl⟩)⟩
  case o2x19 =>
    refine held_guard free_wide 16 19 true True eo215 BelowR.refl rfl (by kernel_rfl) (by kernel_rfl) (by kernel_rfl) (fun xs w' k => .inl ⟨trivial, k 16 (by decide)⟩) (fun hC hG => ?_) (fun hN w' => .inr ⟨hN, rfl⟩)
    refine held_callG free_wide hG 96 _ _ rfl (enters_of Try.func96 (by kernel_rfl) rfl) fun xs w' k hR => ⟨_, mapE2 (pT 18 (by kernel_rfl) (by kernel_rfl) (cdAt (k 18 (by decide)) rfl hC)) rfl, ?_⟩
    refine (callsIn_wide.2 (gpower_any b 16 (by decide) _)).mono ?_
    rintro e w2 ⟨rfl, h2⟩
    exact ⟨_, rfl, (.inl ⟨hC, rfl⟩), h2⟩
  case o2x20 =>
    exact held_run free_wide rfl (by rfl) BelowR.refl fun xs w' k hR => ⟨_, run_pickAnd rfl (pT 16 (by kernel_rfl) (by kernel_rfl) (k 16 (by decide))) rfl (fun h => pT 19 (by kernel_rfl) (by kernel_rfl) (cdAt (k 19 (by decide)) rfl (And.intro trivial h))), (congrArg Value.bool qeo220)⟩
  case o2x21 =>
    exact held_move free_wide rfl BelowR.refl (.tmp 23) (.inl rfl) fun xs w' k _ => (pT 20 (by kernel_rfl) (by kernel_rfl) (k 20 (by decide)))
  case o2x22 =>
    refine held_guard free_wide 21 24 true True eo220 BelowR.refl rfl (by kernel_rfl) (by kernel_rfl) (by kernel_rfl) (fun xs w' k => .inl ⟨trivial, k 21 (by decide)⟩) (fun hC hG => ?_) (fun hN w' => .inr ⟨hN, rfl⟩)
    exact held_runG free_wide hG (by rfl) BelowR.refl fun xs w' k hR => ⟨_, run_fldO rfl (pO (by kernel_rfl) rfl) (by kernel_rfl), (.inl ⟨hC, rfl⟩)⟩
  case o2x23 =>
    refine held_guard free_wide 21 24 true True eo220 BelowR.refl rfl (by kernel_rfl) (by kernel_rfl) (by kernel_rfl) (fun xs w' k => .inl ⟨trivial, k 21 (by decide)⟩) (fun hC hG => ?_) (fun hN w' => .inr ⟨hN, rfl⟩)
    exact held_loadG free_wide hG BelowR.refl 3 (.tmp 25) rfl fun xs w' k hR => ⟨_, _, (pT 22 (by kernel_rfl) (by kernel_rfl) (cdAt (k 22 (by decide)) rfl hC)), ldC OW hR 0 rfl rfl naInt, (.inl ⟨hC, rfl⟩)⟩
  case o2x24 =>
    refine held_guard free_wide 21 24 true True eo220 BelowR.refl rfl (by kernel_rfl) (by kernel_rfl) (by kernel_rfl) (fun xs w' k => .inl ⟨trivial, k 21 (by decide)⟩) (fun hC hG => ?_) (fun hN w' => .inr ⟨hN, rfl⟩)
    refine held_callG free_wide hG 96 _ _ rfl (enters_of Try.func96 (by kernel_rfl) rfl) fun xs w' k hR => ⟨_, mapE2 (pT 23 (by kernel_rfl) (by kernel_rfl) (cdAt (k 23 (by decide)) rfl hC)) rfl, ?_⟩
    refine (callsIn_wide.2 (gpower_any m 1024 (by decide) _)).mono ?_
    rintro e w2 ⟨rfl, h2⟩
    exact ⟨_, rfl, (.inl ⟨hC, rfl⟩), h2⟩
  case o2x25 =>
    exact held_run free_wide rfl (by rfl) BelowR.refl fun xs w' k hR => ⟨_, run_pickAnd rfl (pT 21 (by kernel_rfl) (by kernel_rfl) (k 21 (by decide))) rfl (fun h => pT 24 (by kernel_rfl) (by kernel_rfl) (cdAt (k 24 (by decide)) rfl (And.intro trivial h))), (congrArg Value.bool qeo225)⟩
  case o2x26 =>
    exact held_move free_wide rfl BelowR.refl (.tmp 28) (.inl rfl) fun xs w' k _ => (pT 25 (by kernel_rfl) (by kernel_rfl) (k 25 (by decide)))
  case o2x27 =>
    refine held_guard free_wide 26 29 true True eo225 BelowR.refl rfl (by kernel_rfl) (by kernel_rfl) (by kernel_rfl) (fun xs w' k => .inl ⟨trivial, k 26 (by decide)⟩) (fun hC hG => ?_) (fun hN w' => .inr ⟨hN, rfl⟩)
    exact held_runG free_wide hG (by rfl) BelowR.refl fun xs w' k hR => ⟨_, run_fldO rfl (pO (by kernel_rfl) rfl) (by kernel_rfl), (.inl ⟨hC, rfl⟩)⟩
  case o2x28 =>
    refine held_guard free_wide 26 29 true True eo225 BelowR.refl rfl (by kernel_rfl) (by kernel_rfl) (by kernel_rfl) (fun xs w' k => .inl ⟨trivial, k 26 (by decide)⟩) (fun hC hG => ?_) (fun hN w' => .inr ⟨hN, rfl⟩)
    exact held_loadG free_wide hG BelowR.refl 3 (.tmp 30) rfl fun xs w' k hR => ⟨_, _, (pT 27 (by kernel_rfl) (by kernel_rfl) (cdAt (k 27 (by decide)) rfl hC)), ldC OW hR 0 rfl rfl naInt, (.inl ⟨hC, rfl⟩)⟩
  case o2x29 =>
    refine held_guard free_wide 26 29 true True eo225 BelowR.refl rfl (by kernel_rfl) (by kernel_rfl) (by kernel_rfl) (fun xs w' k => .inl ⟨trivial, k 26 (by decide)⟩) (fun hC hG => ?_) (fun hN w' => .inr ⟨hN, rfl⟩)
    refine held_callG free_wide hG 96 _ _ rfl (enters_of Try.func96 (by kernel_rfl) rfl) fun xs w' k hR => ⟨_, mapE2 (pT 28 (by kernel_rfl) (by kernel_rfl) (cdAt (k 28 (by decide)) rfl hC)) rfl, ?_⟩
    refine (callsIn_wide.2 (gpower_any c 64 (by decide) _)).mono ?_
    rintro e w2 ⟨rfl, h2⟩
    exact ⟨_, rfl, (.inl ⟨hC, rfl⟩), h2⟩
  case o2x30 =>
    exact held_run free_wide rfl (by rfl) BelowR.refl fun xs w' k hR => ⟨_, run_pickAnd rfl (pT 26 (by kernel_rfl) (by kernel_rfl) (k 26 (by decide))) rfl (fun h => pT 29 (by kernel_rfl) (by kernel_rfl) (cdAt (k 29 (by decide)) rfl (And.intro trivial h))), (congrArg Value.bool qeo230)⟩
  case o2x31 =>
    exact held_move free_wide rfl BelowR.refl (.tmp 33) (.inl rfl) fun xs w' k _ => (pT 30 (by kernel_rfl) (by kernel_rfl) (k 30 (by decide)))
  case o2x32 =>
    refine held_guard free_wide 31 34 true True eo230 BelowR.refl rfl (by kernel_rfl) (by kernel_rfl) (by kernel_rfl) (fun xs w' k => .inl ⟨trivial, k 31 (by decide)⟩) (fun hC hG => ?_) (fun hN w' => .inr ⟨hN, rfl⟩)
    exact held_runG free_wide hG (by rfl) BelowR.refl fun xs w' k hR => ⟨_, run_fldO rfl (pO (by kernel_rfl) rfl) (by kernel_rfl), (.inl ⟨hC, rfl⟩)⟩
  case o2x33 =>
    refine held_guard free_wide 31 34 true True eo230 BelowR.refl rfl (by kernel_rfl) (by kernel_rfl) (by kernel_rfl) (fun xs w' k => .inl ⟨trivial, k 31 (by decide)⟩) (fun hC hG => ?_) (fun hN w' => .inr ⟨hN, rfl⟩)
    exact held_loadG free_wide hG BelowR.refl 3 (.tmp 35) rfl fun xs w' k hR => ⟨_, _, (pT 32 (by kernel_rfl) (by kernel_rfl) (cdAt (k 32 (by decide)) rfl hC)), ldC OW hR 0 rfl rfl naInt, (.inl ⟨hC, rfl⟩)⟩
  case o2x34 =>
    refine held_guard free_wide 31 34 true True eo230 BelowR.refl rfl (by kernel_rfl) (by kernel_rfl) (by kernel_rfl) (fun xs w' k => .inl ⟨trivial, k 31 (by decide)⟩) (fun hC hG => ?_) (fun hN w' => .inr ⟨hN, rfl⟩)
    exact held_runG free_wide hG (by rfl) BelowR.refl fun xs w' k hR => ⟨_, run_fldO rfl (pO (by kernel_rfl) rfl) (by kernel_rfl), (.inl ⟨hC, rfl⟩)⟩
  case o2x35 =>
    refine held_guard free_wide 31 34 true True eo230 BelowR.refl rfl (by kernel_rfl) (by kernel_rfl) (by kernel_rfl) (fun xs w' k => .inl ⟨trivial, k 31 (by decide)⟩) (fun hC hG => ?_) (fun hN w' => .inr ⟨hN, rfl⟩)
    exact held_loadG free_wide hG BelowR.refl 3 (.tmp 37) rfl fun xs w' k hR => ⟨_, _, (pT 34 (by kernel_rfl) (by kernel_rfl) (cdAt (k 34 (by decide)) rfl hC)), ldC OW hR 0 rfl rfl naInt, (.inl ⟨hC, rfl⟩)⟩
  case o2x36 =>
    refine held_guard free_wide 31 34 true True eo230 BelowR.refl rfl (by kernel_rfl) (by kernel_rfl) (by kernel_rfl) (fun xs w' k => .inl ⟨trivial, k 31 (by decide)⟩) (fun hC hG => ?_) (fun hN w' => .inr ⟨hN, rfl⟩)
    exact held_runG free_wide hG (by rfl) BelowR.refl fun xs w' k hR => ⟨_, run_binO rfl (pT 33 (by kernel_rfl) (by kernel_rfl) (cdAt (k 33 (by decide)) rfl hC)) (pT 35 (by kernel_rfl) (by kernel_rfl) (cdAt (k 35 (by decide)) rfl hC)) (bin_add_in (by subst qeo230 qeo225 qeo220 qeo215 qeo214 qeo27 qeo26; (have h := gR_in hC.2; omega)) (by subst qeo230 qeo225 qeo220 qeo215 qeo214 qeo27 qeo26; (have h := gR_in hC.2; omega))), (.inl ⟨hC, rfl⟩)⟩
  case o2x37 =>
    refine held_guard free_wide 31 34 true True eo230 BelowR.refl rfl (by kernel_rfl) (by kernel_rfl) (by kernel_rfl) (fun xs w' k => .inl ⟨trivial, k 31 (by decide)⟩) (fun hC hG => ?_) (fun hN w' => .inr ⟨hN, rfl⟩)
    exact held_runG free_wide hG (by rfl) BelowR.refl fun xs w' k hR => ⟨_, run_fldO rfl (pO (by kernel_rfl) rfl) (by kernel_rfl), (.inl ⟨hC, rfl⟩)⟩
  case o2x38 =>
    refine held_guard free_wide 31 34 true True eo230 BelowR.refl rfl (by kernel_rfl) (by kernel_rfl) (by kernel_rfl) (fun xs w' k => .inl ⟨trivial, k 31 (by decide)⟩) (fun hC hG => ?_) (fun hN w' => .inr ⟨hN, rfl⟩)
    exact held_loadG free_wide hG BelowR.refl 3 (.tmp 40) rfl fun xs w' k hR => ⟨_, _, (pT 37 (by kernel_rfl) (by kernel_rfl) (cdAt (k 37 (by decide)) rfl hC)), ldC OW hR 0 rfl rfl naInt, (.inl ⟨hC, rfl⟩)⟩
  case o2x39 =>
    refine held_guard free_wide 31 34 true True eo230 BelowR.refl rfl (by kernel_rfl) (by kernel_rfl) (by kernel_rfl) (fun xs w' k => .inl ⟨trivial, k 31 (by decide)⟩) (fun hC hG => ?_) (fun hN w' => .inr ⟨hN, rfl⟩)
    exact held_runG free_wide hG (by rfl) BelowR.refl fun xs w' k hR => ⟨_, run_binO rfl (pT 36 (by kernel_rfl) (by kernel_rfl) (cdAt (k 36 (by decide)) rfl hC)) (pT 38 (by kernel_rfl) (by kernel_rfl) (cdAt (k 38 (by decide)) rfl hC)) (bin_mul_in (by subst qeo230 qeo225 qeo220 qeo215 qeo214 qeo27 qeo26; (have h := gR_in hC.2; omega)) (by subst qeo230 qeo225 qeo220 qeo215 qeo214 qeo27 qeo26; (have h := gR_in hC.2; omega))), (.inl ⟨hC, rfl⟩)⟩
  case o2x40 =>
    refine held_guard free_wide 31 34 true True eo230 BelowR.refl rfl (by kernel_rfl) (by kernel_rfl) (by kernel_rfl) (fun xs w' k => .inl ⟨trivial, k 31 (by decide)⟩) (fun hC hG => ?_) (fun hN w' => .inr ⟨hN, rfl⟩)
    exact held_runG free_wide hG (by rfl) BelowR.refl fun xs w' k hR => ⟨_, run_fldO rfl (pO (by kernel_rfl) rfl) (by kernel_rfl), (.inl ⟨hC, rfl⟩)⟩
  case o2x41 =>
    refine held_guard free_wide 31 34 true True eo230 BelowR.refl rfl (by kernel_rfl) (by kernel_rfl) (by kernel_rfl) (fun xs w' k => .inl ⟨trivial, k 31 (by decide)⟩) (fun hC hG => ?_) (fun hN w' => .inr ⟨hN, rfl⟩)
    exact held_loadG free_wide hG BelowR.refl 3 (.tmp 43) rfl fun xs w' k hR => ⟨_, _, (pT 40 (by kernel_rfl) (by kernel_rfl) (cdAt (k 40 (by decide)) rfl hC)), ldC OW hR 0 rfl rfl naInt, (.inl ⟨hC, rfl⟩)⟩
  case o2x42 =>
    refine held_guard free_wide 31 34 true True eo230 BelowR.refl rfl (by kernel_rfl) (by kernel_rfl) (by kernel_rfl) (fun xs w' k => .inl ⟨trivial, k 31 (by decide)⟩) (fun hC hG => ?_) (fun hN w' => .inr ⟨hN, rfl⟩)
    exact held_runG free_wide hG (by rfl) BelowR.refl fun xs w' k hR => ⟨_, run_binO rfl (pT 39 (by kernel_rfl) (by kernel_rfl) (cdAt (k 39 (by decide)) rfl hC)) (pT 41 (by kernel_rfl) (by kernel_rfl) (cdAt (k 41 (by decide)) rfl hC)) (bin_mul_in (by subst qeo230 qeo225 qeo220 qeo215 qeo214 qeo27 qeo26; (have h := gR_in hC.2; omega)) (by subst qeo230 qeo225 qeo220 qeo215 qeo214 qeo27 qeo26; (have h := gR_in hC.2; omega))), (.inl ⟨hC, rfl⟩)⟩
  case o2x43 =>
    refine held_guard free_wide 31 34 true True eo230 BelowR.refl rfl (by kernel_rfl) (by kernel_rfl) (by kernel_rfl) (fun xs w' k => .inl ⟨trivial, k 31 (by decide)⟩) (fun hC hG => ?_) (fun hN w' => .inr ⟨hN, rfl⟩)
    exact held_runG free_wide hG (by rfl) BelowR.refl fun xs w' k hR => ⟨_, run_fldO rfl (pO (by kernel_rfl) rfl) (by kernel_rfl), (.inl ⟨hC, rfl⟩)⟩
  case o2x44 =>
    refine held_guard free_wide 31 34 true True eo230 BelowR.refl rfl (by kernel_rfl) (by kernel_rfl) (by kernel_rfl) (fun xs w' k => .inl ⟨trivial, k 31 (by decide)⟩) (fun hC hG => ?_) (fun hN w' => .inr ⟨hN, rfl⟩)
    exact held_loadG free_wide hG BelowR.refl 3 (.tmp 46) rfl fun xs w' k hR => ⟨_, _, (pT 43 (by kernel_rfl) (by kernel_rfl) (cdAt (k 43 (by decide)) rfl hC)), ldC OW hR 0 rfl rfl naInt, (.inl ⟨hC, rfl⟩)⟩
  case o2x45 =>
    refine held_guard free_wide 31 34 true True eo230 BelowR.refl rfl (by kernel_rfl) (by kernel_rfl) (by kernel_rfl) (fun xs w' k => .inl ⟨trivial, k 31 (by decide)⟩) (fun hC hG => ?_) (fun hN w' => .inr ⟨hN, rfl⟩)
    exact held_runG free_wide hG (by rfl) BelowR.refl fun xs w' k hR => ⟨_, run_binO rfl (pT 42 (by kernel_rfl) (by kernel_rfl) (cdAt (k 42 (by decide)) rfl hC)) (pT 44 (by kernel_rfl) (by kernel_rfl) (cdAt (k 44 (by decide)) rfl hC)) (bin_mul_in (by subst qeo230 qeo225 qeo220 qeo215 qeo214 qeo27 qeo26; (have h := gR_in hC.2; omega)) (by subst qeo230 qeo225 qeo220 qeo215 qeo214 qeo27 qeo26; (have h := gR_in hC.2; omega))), (.inl ⟨hC, rfl⟩)⟩
  case o2x46 =>
    refine held_guard free_wide 31 34 true True eo230 BelowR.refl rfl (by kernel_rfl) (by kernel_rfl) (by kernel_rfl) (fun xs w' k => .inl ⟨trivial, k 31 (by decide)⟩) (fun hC hG => ?_) (fun hN w' => .inr ⟨hN, rfl⟩)
    exact held_runG free_wide hG (by rfl) BelowR.refl fun xs w' k hR => ⟨_, run_binO rfl (pT 45 (by kernel_rfl) (by kernel_rfl) (cdAt (k 45 (by decide)) rfl hC)) rfl bin_leq, (.inl ⟨hC, congrArg Value.bool qeo246⟩)⟩
  case o2x47 =>
    exact held_run free_wide rfl (by rfl) BelowR.refl fun xs w' k hR => ⟨_, run_pickAnd rfl (pT 31 (by kernel_rfl) (by kernel_rfl) (k 31 (by decide))) rfl (fun h => pT 46 (by kernel_rfl) (by kernel_rfl) (cdAt (k 46 (by decide)) rfl (And.intro trivial h))), (congrArg Value.bool qeo247)⟩
  case o2x48 =>
    exact held_move free_wide rfl BelowR.refl (.tmp 50) (.inr rfl) fun xs w' k _ => (pT 47 (by kernel_rfl) (by kernel_rfl) (k 47 (by decide)))
  intro xs w' hv hR
  subst qeo247 qeo246 qeo230 qeo225 qeo220 qeo215 qeo214 qeo27 qeo26
  have h0 : xs 0 = _ := hv 0 (by omega)
  have h1 : xs 1 = _ := hv 1 (by omega)
  have h2 : xs 2 = _ := hv 2 (by omega)
  have h3 : xs 3 = _ := hv 3 (by omega)
  have h7 : xs 7 = _ := hv 7 (by omega)
  have h8 : xs 8 = _ := hv 8 (by omega)
  have h15 : xs 15 = _ := hv 15 (by omega)
  have h16 : xs 16 = _ := hv 16 (by omega)
  have h20 : xs 20 = _ := hv 20 (by omega)
  have h21 : xs 21 = _ := hv 21 (by omega)
  have h25 : xs 25 = _ := hv 25 (by omega)
  have h26 : xs 26 = _ := hv 26 (by omega)
  have h30 : xs 30 = _ := hv 30 (by omega)
  have h31 : xs 31 = _ := hv 31 (by omega)
  have h47 : xs 47 = _ := hv 47 (by omega)
  have h48 : xs 48 = _ := hv 48 (by omega)
  simp only [List.take_succ_cons, List.take_zero, List.drop_succ_cons, List.drop_zero, putsH, Act.put, List.setIfInBounds_toArray, List.set_cons_succ, List.set_cons_zero, h0, h1, h2, h3, h7, h8, h15, h16, h20, h21, h25, h26, h30, h31, h47, h48]
  have OW2 := Lib.hid (OW.out.step hR)
  clear hv hR OW OZ h0 h1 h2 h3 h7 h8 h15 h16 h20 h21 h25 h26 h30 h31 h47 h48
  have OW := OW2
  clear OW2
  obtain ⟨g3, OZ⟩ := own_size OW HB0
  gi_wp2
  refine leaves_own [] _ (Nat.le_of_eq HB0.out) (by simpa using OW.out) ?_
  intro W' hO
  exact ⟨.bool (((((((gpower r 8) && (decide (0 ≤ s))) && (decide (s ≤ (8 - r)))) && (gpower b 16)) && (gpower m 1024)) && (gpower c 64)) && (decide (((((r + s) * b) * m) * c) ≤ 4096))), by simp [results, Try.results72, go_sem], rfl, hO.done HB0⟩
def gholds (r s b m c p0 p1 p2 p3 : Int) : Bool := (((((gright r s b m c) && (gbelow p0 (r + s))) && (gbelow p1 b)) && (gbelow p2 m)) && (gbelow p3 c))
set_option maxRecDepth 100000 in
set_option maxHeartbeats 1000000 in
theorem gholds_any (r s b m c p0 p1 p2 p3 : Int) (w : World) : Calls Try.prog 62 #[.agg #[.int .i64 r, .int .i64 s, .int .i64 b, .int .i64 m, .int .i64 c], .agg #[.int .i64 p0, .int .i64 p1, .int .i64 p2, .int .i64 p3]] w fun e w' => e = .returned (.bool (gholds r s b m c p0 p1 p2 p3)) ∧ Below w.heap.size w w' := by
  obtain ⟨b0, hb0⟩ : ∃ b0, w.heap.size = b0 := ⟨_, rfl⟩
  have HB0 := Lib.hid hb0
  have OW := Lib.hid (Own.start b0 w)
  have OZ := Lib.hid (And.intro hb0 (Nat.le_refl b0))
  clear hb0
  refine (callsIn_wide (n := 6)).1 ?_
  refine callsIn_of_wp_marks Try.func62 rfl trivial ?_ rfl
  simp only [Try.ntmps62, List.size_toArray, List.length_cons, List.length_nil, Nat.reduceAdd, Nat.reduceSub, Array.replicate_succ, Array.replicate_zero, List.push_toArray, List.append_toArray, List.nil_append, List.cons_append]
  gi_upto_region 1 with (first | (refine own_boxV 2 27 (.tmp 0) rfl rfl rfl (.agg #[.int .i64 r, .int .i64 s, .int .i64 b, .int .i64 m, .int .i64 c]) rfl #[.int .i64 r, .int .i64 s, .int .i64 b, .int .i64 m, .int .i64 c] rfl OW OZ ?_; clear OW OZ; intro W g1 OW OZ) | (refine own_boxV 3 23 (.tmp 1) rfl rfl rfl (.agg #[.int .i64 p0, .int .i64 p1, .int .i64 p2, .int .i64 p3]) rfl #[.int .i64 p0, .int .i64 p1, .int .i64 p2, .int .i64 p3] rfl OW OZ ?_; clear OW OZ; intro W g2 OW OZ))
  obtain ⟨eo31, qeo31⟩ : ∃ e, (gright r s b m c) = e := ⟨_, rfl⟩
  obtain ⟨eo310, qeo310⟩ : ∃ e, (gbelow p0 (r + s)) = e := ⟨_, rfl⟩
  obtain ⟨eo311, qeo311⟩ : ∃ e, (eo31 && eo310) = e := ⟨_, rfl⟩
  obtain ⟨eo318, qeo318⟩ : ∃ e, (eo311 && (gbelow p1 b)) = e := ⟨_, rfl⟩
  obtain ⟨eo325, qeo325⟩ : ∃ e, (eo318 && (gbelow p2 m)) = e := ⟨_, rfl⟩
  obtain ⟨eo332, qeo332⟩ : ∃ e, (eo325 && (gbelow p3 c)) = e := ⟨_, rfl⟩
  refine wpIn_region_heldL 34 (atD [[], [0], [1], [2], [2, 3], [2], [2, 5], [2], [2, 7], [2, 6, 8], [2, 4, 9], [2, 10], [11], [12], [12, 13], [12], [12, 15], [12, 14, 16], [12, 17], [18], [19], [19, 20], [19], [19, 22], [19, 21, 23], [19, 24], [25], [26], [26, 27], [26], [26, 29], [26, 28, 30], [26, 31], [32]]) (atV [fun vH _ => vH = .agg #[.int .i64 r, .int .i64 s, .int .i64 b, .int .i64 m, .int .i64 c], fun vH _ => vH = .bool eo31, fun vH _ => vH = .bool eo31, cdV (True ∧ eo31 = true) (fun vH _ => vH = .pointer (some ⟨g1, 0, none⟩)), cdV (True ∧ eo31 = true) (fun vH _ => vH = .int .i64 p0), cdV (True ∧ eo31 = true) (fun vH _ => vH = .pointer (some ⟨b0, 0, none⟩)), cdV (True ∧ eo31 = true) (fun vH _ => vH = .int .i64 r), cdV (True ∧ eo31 = true) (fun vH _ => vH = .pointer (some ⟨b0, 1, none⟩)), cdV (True ∧ eo31 = true) (fun vH _ => vH = .int .i64 s), cdV (True ∧ eo31 = true) (fun vH _ => vH = .int .i64 (r + s)), cdV (True ∧ eo31 = true) (fun vH _ => vH = .bool eo310), fun vH _ => vH = .bool eo311, fun vH _ => vH = .bool eo311, cdV (True ∧ eo311 = true) (fun vH _ => vH = .pointer (some ⟨g1, 1, none⟩)), cdV (True ∧ eo311 = true) (fun vH _ => vH = .int .i64 p1), cdV (True ∧ eo311 = true) (fun vH _ => vH = .pointer (some ⟨b0, 2, none⟩)), cdV (True ∧ eo311 = true) (fun vH _ => vH = .int .i64 b), cdV (True ∧ eo311 = true) (fun vH _ => vH = .bool (gbelow p1 b)), fun vH _ => vH = .bool eo318, fun vH _ => vH = .bool eo318, cdV (True ∧ eo318 = true) (fun vH _ => vH = .pointer (some ⟨g1, 2, none⟩)), cdV (True ∧ eo318 = true) (fun vH _ => vH = .int .i64 p2), cdV (True ∧ eo318 = true) (fun vH _ => vH = .pointer (some ⟨b0, 3, none⟩)), cdV (True ∧ eo318 = true) (fun vH _ => vH = .int .i64 m), cdV (True ∧ eo318 = true) (fun vH _ => vH = .bool (gbelow p2 m)), fun vH _ => vH = .bool eo325, fun vH _ => vH = .bool eo325, cdV (True ∧ eo325 = true) (fun vH _ => vH = .pointer (some ⟨g1, 3, none⟩)), cdV (True ∧ eo325 = true) (fun vH _ => vH = .int .i64 p3), cdV (True ∧ eo325 = true) (fun vH _ => vH = .pointer (some ⟨b0, 4, none⟩)), cdV (True ∧ eo325 = true) (fun vH _ => vH = .int .i64 c), cdV (True ∧ eo325 = true) (fun vH _ => vH = .bool (gbelow p3 c)), fun vH _ => vH = .bool eo332, fun vH _ => vH = .bool eo332]) BelowR (by kernel_rfl) BelowR.trans (BelowR.refl _)
    (StV.atV (.const _ (.const _ (.const _ (.cons (fun v x y h _ => h) (.cons (fun v x y h _ => h) (.cons (fun v x y h _ => h) (.cons (fun v x y h _ => h) (.cons (fun v x y h _ => h) (.cons (fun v x y h _ => h) (.cons (fun v x y h _ => h) (.cons (fun v x y h _ => h) (.const _ (.const _ (.cons (fun v x y h _ => h) (.cons (fun v x y h _ => h) (.cons (fun v x y h _ => h) (.cons (fun v x y h _ => h) (.cons (fun v x y h _ => h) (.const _ (.const _ (.cons (fun v x y h _ => h) (.cons (fun v x y h _ => h) (.cons (fun v x y h _ => h) (.cons (fun v x y h _ => h) (.cons (fun v x y h _ => h) (.const _ (.const _ (.cons (fun v x y h _ => h) (.cons (fun v x y h _ => h) (.cons (fun v x y h _ => h) (.cons (fun v x y h _ => h) (.cons (fun v x y h _ => h) (.const _ (.const _ .nil)))))))))))))))))))))))))))))))))))
    ⟨?o3x0, ?o3x1, ?o3x2, ?o3x3, ?o3x4, ?o3x5, ?o3x6, ?o3x7, ?o3x8, ?o3x9, ?o3x10, ?o3x11, ?o3x12, ?o3x13, ?o3x14, ?o3x15, ?o3x16, ?o3x17, ?o3x18, ?o3x19, ?o3x20, ?o3x21, ?o3x22, ?o3x23, ?o3x24, ?o3x25, ?o3x26, ?o3x27, ?o3x28, ?o3x29, ?o3x30, ?o3x31, ?o3x32, ?o3x33, trivial⟩ ?_
  case o3x0 =>
    exact held_load free_wide rfl BelowR.refl 27 (.tmp 2) rfl fun xs w' k hR => ⟨_, _, (pO (by kernel_rfl) rfl), ldS OW hR 0 rfl 5 rfl Try.underlying27 rfl rfl (by kernel_rfl), rfl⟩
  case o3x1 =>
    refine held_call free_wide rfl 72 _ _ rfl (enters_of Try.func72 (by kernel_rfl) rfl) fun xs w' k hR => ⟨_, mapE1 (pT 0 (by kernel_rfl) (by kernel_rfl) (k 0 (by decide))), ?_⟩
    refine (callsIn_wide.2 (gright_any r s b m c _)).mono ?_
    rintro e w2 ⟨rfl, h2⟩
    exact ⟨_, rfl, (congrArg Value.bool qeo31), h2⟩
  case o3x2 =>
    exact held_move free_wide rfl BelowR.refl (.tmp 6) (.inl rfl) fun xs w' k _ => (pT 1 (by kernel_rfl) (by kernel_rfl) (k 1 (by decide)))
  case o3x3 =>
    refine held_guard free_wide 2 7 true True eo31 BelowR.refl rfl (by kernel_rfl) (by kernel_rfl) (by kernel_rfl) (fun xs w' k => .inl ⟨trivial, k 2 (by decide)⟩) (fun hC hG => ?_) (fun hN w' => .inr ⟨hN, rfl⟩)
    exact held_runG free_wide hG (by rfl) BelowR.refl fun xs w' k hR => ⟨_, run_fldO rfl (pO (by kernel_rfl) rfl) (by kernel_rfl), (.inl ⟨hC, rfl⟩)⟩
  case o3x4 =>
    refine held_guard free_wide 2 7 true True eo31 BelowR.refl rfl (by kernel_rfl) (by kernel_rfl) (by kernel_rfl) (fun xs w' k => .inl ⟨trivial, k 2 (by decide)⟩) (fun hC hG => ?_) (fun hN w' => .inr ⟨hN, rfl⟩)
    exact held_loadG free_wide hG BelowR.refl 3 (.tmp 8) rfl fun xs w' k hR => ⟨_, _, (pT 3 (by kernel_rfl) (by kernel_rfl) (cdAt (k 3 (by decide)) rfl hC)), ldC OW hR 1 rfl rfl naInt, (.inl ⟨hC, rfl⟩)⟩
  case o3x5 =>
    refine held_guard free_wide 2 7 true True eo31 BelowR.refl rfl (by kernel_rfl) (by kernel_rfl) (by kernel_rfl) (fun xs w' k => .inl ⟨trivial, k 2 (by decide)⟩) (fun hC hG => ?_) (fun hN w' => .inr ⟨hN, rfl⟩)
    exact held_runG free_wide hG (by rfl) BelowR.refl fun xs w' k hR => ⟨_, run_fldO rfl (pO (by kernel_rfl) rfl) (by kernel_rfl), (.inl ⟨hC, rfl⟩)⟩
  case o3x6 =>
    refine held_guard free_wide 2 7 true True eo31 BelowR.refl rfl (by kernel_rfl) (by kernel_rfl) (by kernel_rfl) (fun xs w' k => .inl ⟨trivial, k 2 (by decide)⟩) (fun hC hG => ?_) (fun hN w' => .inr ⟨hN, rfl⟩)
    exact held_loadG free_wide hG BelowR.refl 3 (.tmp 10) rfl fun xs w' k hR => ⟨_, _, (pT 5 (by kernel_rfl) (by kernel_rfl) (cdAt (k 5 (by decide)) rfl hC)), ldC OW hR 0 rfl rfl naInt, (.inl ⟨hC, rfl⟩)⟩
  case o3x7 =>
    refine held_guard free_wide 2 7 true True eo31 BelowR.refl rfl (by kernel_rfl) (by kernel_rfl) (by kernel_rfl) (fun xs w' k => .inl ⟨trivial, k 2 (by decide)⟩) (fun hC hG => ?_) (fun hN w' => .inr ⟨hN, rfl⟩)
    exact held_runG free_wide hG (by rfl) BelowR.refl fun xs w' k hR => ⟨_, run_fldO rfl (pO (by kernel_rfl) rfl) (by kernel_rfl), (.inl ⟨hC, rfl⟩)⟩
  case o3x8 =>
    refine held_guard free_wide 2 7 true True eo31 BelowR.refl rfl (by kernel_rfl) (by kernel_rfl) (by kernel_rfl) (fun xs w' k => .inl ⟨trivial, k 2 (by decide)⟩) (fun hC hG => ?_) (fun hN w' => .inr ⟨hN, rfl⟩)
    exact held_loadG free_wide hG BelowR.refl 3 (.tmp 12) rfl fun xs w' k hR => ⟨_, _, (pT 7 (by kernel_rfl) (by kernel_rfl) (cdAt (k 7 (by decide)) rfl hC)), ldC OW hR 0 rfl rfl naInt, (.inl ⟨hC, rfl⟩)⟩
  case o3x9 =>
    refine held_guard free_wide 2 7 true True eo31 BelowR.refl rfl (by kernel_rfl) (by kernel_rfl) (by kernel_rfl) (fun xs w' k => .inl ⟨trivial, k 2 (by decide)⟩) (fun hC hG => ?_) (fun hN w' => .inr ⟨hN, rfl⟩)
    exact held_runG free_wide hG (by rfl) BelowR.refl fun xs w' k hR => ⟨_, run_binO rfl (pT 6 (by kernel_rfl) (by kernel_rfl) (cdAt (k 6 (by decide)) rfl hC)) (pT 8 (by kernel_rfl) (by kernel_rfl) (cdAt (k 8 (by decide)) rfl hC)) (bin_add_in (by subst qeo31; (have h := hC.2; simp only [gright, Bool.and_eq_true, decide_eq_true_eq] at h; have := gpower_in h.1.1.1.1.1.1; omega)) (by subst qeo31; (have h := hC.2; simp only [gright, Bool.and_eq_true, decide_eq_true_eq] at h; have := gpower_in h.1.1.1.1.1.1; omega))), (.inl ⟨hC, rfl⟩)⟩
  case o3x10 =>
    refine held_guard free_wide 2 7 true True eo31 BelowR.refl rfl (by kernel_rfl) (by kernel_rfl) (by kernel_rfl) (fun xs w' k => .inl ⟨trivial, k 2 (by decide)⟩) (fun hC hG => ?_) (fun hN w' => .inr ⟨hN, rfl⟩)
    refine held_callG free_wide hG 93 _ _ rfl (enters_of Try.func93 (by kernel_rfl) rfl) fun xs w' k hR => ⟨_, mapE2 (pT 4 (by kernel_rfl) (by kernel_rfl) (cdAt (k 4 (by decide)) rfl hC)) (pT 9 (by kernel_rfl) (by kernel_rfl) (cdAt (k 9 (by decide)) rfl hC)), ?_⟩
    refine (callsIn_wide.2 (gbelow_any p0 (r + s) _)).mono ?_
    rintro e w2 ⟨rfl, h2⟩
    exact ⟨_, rfl, (.inl ⟨hC, congrArg Value.bool qeo310⟩), h2⟩
  case o3x11 =>
    exact held_run free_wide rfl (by rfl) BelowR.refl fun xs w' k hR => ⟨_, run_pickAnd rfl (pT 2 (by kernel_rfl) (by kernel_rfl) (k 2 (by decide))) rfl (fun h => pT 10 (by kernel_rfl) (by kernel_rfl) (cdAt (k 10 (by decide)) rfl (And.intro trivial h))), (congrArg Value.bool qeo311)⟩
  case o3x12 =>
    exact held_move free_wide rfl BelowR.refl (.tmp 16) (.inl rfl) fun xs w' k _ => (pT 11 (by kernel_rfl) (by kernel_rfl) (k 11 (by decide)))
  case o3x13 =>
    refine held_guard free_wide 12 17 true True eo311 BelowR.refl rfl (by kernel_rfl) (by kernel_rfl) (by kernel_rfl) (fun xs w' k => .inl ⟨trivial, k 12 (by decide)⟩) (fun hC hG => ?_) (fun hN w' => .inr ⟨hN, rfl⟩)
    exact held_runG free_wide hG (by rfl) BelowR.refl fun xs w' k hR => ⟨_, run_fldO rfl (pO (by kernel_rfl) rfl) (by kernel_rfl), (.inl ⟨hC, rfl⟩)⟩
  case o3x14 =>
    refine held_guard free_wide 12 17 true True eo311 BelowR.refl rfl (by kernel_rfl) (by kernel_rfl) (by kernel_rfl) (fun xs w' k => .inl ⟨trivial, k 12 (by decide)⟩) (fun hC hG => ?_) (fun hN w' => .inr ⟨hN, rfl⟩)
    exact held_loadG free_wide hG BelowR.refl 3 (.tmp 18) rfl fun xs w' k hR => ⟨_, _, (pT 13 (by kernel_rfl) (by kernel_rfl) (cdAt (k 13 (by decide)) rfl hC)), ldC OW hR 1 rfl rfl naInt, (.inl ⟨hC, rfl⟩)⟩
  case o3x15 =>
    refine held_guard free_wide 12 17 true True eo311 BelowR.refl rfl (by kernel_rfl) (by kernel_rfl) (by kernel_rfl) (fun xs w' k => .inl ⟨trivial, k 12 (by decide)⟩) (fun hC hG => ?_) (fun hN w' => .inr ⟨hN, rfl⟩)
    exact held_runG free_wide hG (by rfl) BelowR.refl fun xs w' k hR => ⟨_, run_fldO rfl (pO (by kernel_rfl) rfl) (by kernel_rfl), (.inl ⟨hC, rfl⟩)⟩
  case o3x16 =>
    refine held_guard free_wide 12 17 true True eo311 BelowR.refl rfl (by kernel_rfl) (by kernel_rfl) (by kernel_rfl) (fun xs w' k => .inl ⟨trivial, k 12 (by decide)⟩) (fun hC hG => ?_) (fun hN w' => .inr ⟨hN, rfl⟩)
    exact held_loadG free_wide hG BelowR.refl 3 (.tmp 20) rfl fun xs w' k hR => ⟨_, _, (pT 15 (by kernel_rfl) (by kernel_rfl) (cdAt (k 15 (by decide)) rfl hC)), ldC OW hR 0 rfl rfl naInt, (.inl ⟨hC, rfl⟩)⟩
  case o3x17 =>
    refine held_guard free_wide 12 17 true True eo311 BelowR.refl rfl (by kernel_rfl) (by kernel_rfl) (by kernel_rfl) (fun xs w' k => .inl ⟨trivial, k 12 (by decide)⟩) (fun hC hG => ?_) (fun hN w' => .inr ⟨hN, rfl⟩)
    refine held_callG free_wide hG 93 _ _ rfl (enters_of Try.func93 (by kernel_rfl) rfl) fun xs w' k hR => ⟨_, mapE2 (pT 14 (by kernel_rfl) (by kernel_rfl) (cdAt (k 14 (by decide)) rfl hC)) (pT 16 (by kernel_rfl) (by kernel_rfl) (cdAt (k 16 (by decide)) rfl hC)), ?_⟩
    refine (callsIn_wide.2 (gbelow_any p1 b _)).mono ?_
    rintro e w2 ⟨rfl, h2⟩
    exact ⟨_, rfl, (.inl ⟨hC, rfl⟩), h2⟩
  case o3x18 =>
    exact held_run free_wide rfl (by rfl) BelowR.refl fun xs w' k hR => ⟨_, run_pickAnd rfl (pT 12 (by kernel_rfl) (by kernel_rfl) (k 12 (by decide))) rfl (fun h => pT 17 (by kernel_rfl) (by kernel_rfl) (cdAt (k 17 (by decide)) rfl (And.intro trivial h))), (congrArg Value.bool qeo318)⟩
  case o3x19 =>
    exact held_move free_wide rfl BelowR.refl (.tmp 23) (.inl rfl) fun xs w' k _ => (pT 18 (by kernel_rfl) (by kernel_rfl) (k 18 (by decide)))
  case o3x20 =>
    refine held_guard free_wide 19 24 true True eo318 BelowR.refl rfl (by kernel_rfl) (by kernel_rfl) (by kernel_rfl) (fun xs w' k => .inl ⟨trivial, k 19 (by decide)⟩) (fun hC hG => ?_) (fun hN w' => .inr ⟨hN, rfl⟩)
    exact held_runG free_wide hG (by rfl) BelowR.refl fun xs w' k hR => ⟨_, run_fldO rfl (pO (by kernel_rfl) rfl) (by kernel_rfl), (.inl ⟨hC, rfl⟩)⟩
  case o3x21 =>
    refine held_guard free_wide 19 24 true True eo318 BelowR.refl rfl (by kernel_rfl) (by kernel_rfl) (by kernel_rfl) (fun xs w' k => .inl ⟨trivial, k 19 (by decide)⟩) (fun hC hG => ?_) (fun hN w' => .inr ⟨hN, rfl⟩)
    exact held_loadG free_wide hG BelowR.refl 3 (.tmp 25) rfl fun xs w' k hR => ⟨_, _, (pT 20 (by kernel_rfl) (by kernel_rfl) (cdAt (k 20 (by decide)) rfl hC)), ldC OW hR 1 rfl rfl naInt, (.inl ⟨hC, rfl⟩)⟩
  case o3x22 =>
    refine held_guard free_wide 19 24 true True eo318 BelowR.refl rfl (by kernel_rfl) (by kernel_rfl) (by kernel_rfl) (fun xs w' k => .inl ⟨trivial, k 19 (by decide)⟩) (fun hC hG => ?_) (fun hN w' => .inr ⟨hN, rfl⟩)
    exact held_runG free_wide hG (by rfl) BelowR.refl fun xs w' k hR => ⟨_, run_fldO rfl (pO (by kernel_rfl) rfl) (by kernel_rfl), (.inl ⟨hC, rfl⟩)⟩
  case o3x23 =>
    refine held_guard free_wide 19 24 true True eo318 BelowR.refl rfl (by kernel_rfl) (by kernel_rfl) (by kernel_rfl) (fun xs w' k => .inl ⟨trivial, k 19 (by decide)⟩) (fun hC hG => ?_) (fun hN w' => .inr ⟨hN, rfl⟩)
    exact held_loadG free_wide hG BelowR.refl 3 (.tmp 27) rfl fun xs w' k hR => ⟨_, _, (pT 22 (by kernel_rfl) (by kernel_rfl) (cdAt (k 22 (by decide)) rfl hC)), ldC OW hR 0 rfl rfl naInt, (.inl ⟨hC, rfl⟩)⟩
  case o3x24 =>
    refine held_guard free_wide 19 24 true True eo318 BelowR.refl rfl (by kernel_rfl) (by kernel_rfl) (by kernel_rfl) (fun xs w' k => .inl ⟨trivial, k 19 (by decide)⟩) (fun hC hG => ?_) (fun hN w' => .inr ⟨hN, rfl⟩)
    refine held_callG free_wide hG 93 _ _ rfl (enters_of Try.func93 (by kernel_rfl) rfl) fun xs w' k hR => ⟨_, mapE2 (pT 21 (by kernel_rfl) (by kernel_rfl) (cdAt (k 21 (by decide)) rfl hC)) (pT 23 (by kernel_rfl) (by kernel_rfl) (cdAt (k 23 (by decide)) rfl hC)), ?_⟩
    refine (callsIn_wide.2 (gbelow_any p2 m _)).mono ?_
    rintro e w2 ⟨rfl, h2⟩
    exact ⟨_, rfl, (.inl ⟨hC, rfl⟩), h2⟩
  case o3x25 =>
    exact held_run free_wide rfl (by rfl) BelowR.refl fun xs w' k hR => ⟨_, run_pickAnd rfl (pT 19 (by kernel_rfl) (by kernel_rfl) (k 19 (by decide))) rfl (fun h => pT 24 (by kernel_rfl) (by kernel_rfl) (cdAt (k 24 (by decide)) rfl (And.intro trivial h))), (congrArg Value.bool qeo325)⟩
  case o3x26 =>
    exact held_move free_wide rfl BelowR.refl (.tmp 30) (.inl rfl) fun xs w' k _ => (pT 25 (by kernel_rfl) (by kernel_rfl) (k 25 (by decide)))
  case o3x27 =>
    refine held_guard free_wide 26 31 true True eo325 BelowR.refl rfl (by kernel_rfl) (by kernel_rfl) (by kernel_rfl) (fun xs w' k => .inl ⟨trivial, k 26 (by decide)⟩) (fun hC hG => ?_) (fun hN w' => .inr ⟨hN, rfl⟩)
    exact held_runG free_wide hG (by rfl) BelowR.refl fun xs w' k hR => ⟨_, run_fldO rfl (pO (by kernel_rfl) rfl) (by kernel_rfl), (.inl ⟨hC, rfl⟩)⟩
  case o3x28 =>
    refine held_guard free_wide 26 31 true True eo325 BelowR.refl rfl (by kernel_rfl) (by kernel_rfl) (by kernel_rfl) (fun xs w' k => .inl ⟨trivial, k 26 (by decide)⟩) (fun hC hG => ?_) (fun hN w' => .inr ⟨hN, rfl⟩)
    exact held_loadG free_wide hG BelowR.refl 3 (.tmp 32) rfl fun xs w' k hR => ⟨_, _, (pT 27 (by kernel_rfl) (by kernel_rfl) (cdAt (k 27 (by decide)) rfl hC)), ldC OW hR 1 rfl rfl naInt, (.inl ⟨hC, rfl⟩)⟩
  case o3x29 =>
    refine held_guard free_wide 26 31 true True eo325 BelowR.refl rfl (by kernel_rfl) (by kernel_rfl) (by kernel_rfl) (fun xs w' k => .inl ⟨trivial, k 26 (by decide)⟩) (fun hC hG => ?_) (fun hN w' => .inr ⟨hN, rfl⟩)
    exact held_runG free_wide hG (by rfl) BelowR.refl fun xs w' k hR => ⟨_, run_fldO rfl (pO (by kernel_rfl) rfl) (by kernel_rfl), (.inl ⟨hC, rfl⟩)⟩
  case o3x30 =>
    refine held_guard free_wide 26 31 true True eo325 BelowR.refl rfl (by kernel_rfl) (by kernel_rfl) (by kernel_rfl) (fun xs w' k => .inl ⟨trivial, k 26 (by decide)⟩) (fun hC hG => ?_) (fun hN w' => .inr ⟨hN, rfl⟩)
    exact held_loadG free_wide hG BelowR.refl 3 (.tmp 34) rfl fun xs w' k hR => ⟨_, _, (pT 29 (by kernel_rfl) (by kernel_rfl) (cdAt (k 29 (by decide)) rfl hC)), ldC OW hR 0 rfl rfl naInt, (.inl ⟨hC, rfl⟩)⟩
  case o3x31 =>
    refine held_guard free_wide 26 31 true True eo325 BelowR.refl rfl (by kernel_rfl) (by kernel_rfl) (by kernel_rfl) (fun xs w' k => .inl ⟨trivial, k 26 (by decide)⟩) (fun hC hG => ?_) (fun hN w' => .inr ⟨hN, rfl⟩)
    refine held_callG free_wide hG 93 _ _ rfl (enters_of Try.func93 (by kernel_rfl) rfl) fun xs w' k hR => ⟨_, mapE2 (pT 28 (by kernel_rfl) (by kernel_rfl) (cdAt (k 28 (by decide)) rfl hC)) (pT 30 (by kernel_rfl) (by kernel_rfl) (cdAt (k 30 (by decide)) rfl hC)), ?_⟩
    refine (callsIn_wide.2 (gbelow_any p3 c _)).mono ?_
    rintro e w2 ⟨rfl, h2⟩
    exact ⟨_, rfl, (.inl ⟨hC, rfl⟩), h2⟩
  case o3x32 =>
    exact held_run free_wide rfl (by rfl) BelowR.refl fun xs w' k hR => ⟨_, run_pickAnd rfl (pT 26 (by kernel_rfl) (by kernel_rfl) (k 26 (by decide))) rfl (fun h => pT 31 (by kernel_rfl) (by kernel_rfl) (cdAt (k 31 (by decide)) rfl (And.intro trivial h))), (congrArg Value.bool qeo332)⟩
  case o3x33 =>
    exact held_move free_wide rfl BelowR.refl (.tmp 37) (.inr rfl) fun xs w' k _ => (pT 32 (by kernel_rfl) (by kernel_rfl) (k 32 (by decide)))
  intro xs w' hv hR
  subst qeo332 qeo325 qeo318 qeo311 qeo310 qeo31
  have h0 : xs 0 = _ := hv 0 (by omega)
  have h1 : xs 1 = _ := hv 1 (by omega)
  have h2 : xs 2 = _ := hv 2 (by omega)
  have h11 : xs 11 = _ := hv 11 (by omega)
  have h12 : xs 12 = _ := hv 12 (by omega)
  have h18 : xs 18 = _ := hv 18 (by omega)
  have h19 : xs 19 = _ := hv 19 (by omega)
  have h25 : xs 25 = _ := hv 25 (by omega)
  have h26 : xs 26 = _ := hv 26 (by omega)
  have h32 : xs 32 = _ := hv 32 (by omega)
  have h33 : xs 33 = _ := hv 33 (by omega)
  simp only [List.take_succ_cons, List.take_zero, List.drop_succ_cons, List.drop_zero, putsH, Act.put, List.setIfInBounds_toArray, List.set_cons_succ, List.set_cons_zero, h0, h1, h2, h11, h12, h18, h19, h25, h26, h32, h33]
  have OW2 := Lib.hid (OW.out.step hR)
  clear hv hR OW OZ h0 h1 h2 h11 h12 h18 h19 h25 h26 h32 h33
  have OW := OW2
  clear OW2
  obtain ⟨g4, OZ⟩ := own_size OW HB0
  gi_wp2
  refine leaves_own [] _ (Nat.le_of_eq HB0.out) (by simpa using OW.out) ?_
  intro W' hO
  exact ⟨.bool (((((gright r s b m c) && (gbelow p0 (r + s))) && (gbelow p1 b)) && (gbelow p2 m)) && (gbelow p3 c)), by simp [results, Try.results62, go_sem], rfl, hO.done HB0⟩
end Go.Proofs.Ytckhkagkpldoiaa
