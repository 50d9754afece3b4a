/- The document's geometries and faults: walks. -/
import Derived.Test.YtckhkagkpldoiaaFlt2
import Derived.WalkKit
import Derived.Sort.CutIn
import Derived.IntWalk
namespace Go.Proofs.Ytckhkagkpldoiaa
open Go.RowKit Go.Shelf
attribute [local go_sem] Oper.semAt_some
set_option linter.unusedVariables false
set_option linter.unusedSimpArgs false


/-- A number is a power of 2 up to another one. -/
def rpow (n most : Int) : Bool := (List.range 11).any fun k => n == (2 : Int) ^ k && decide ((2 : Int) ^ k ≤ most)
theorem rpow_in {n m : Int} (h : rpow n m = true) : 1 ≤ n ∧ n ≤ m := by
  simp only [rpow, List.any_eq_true, Bool.and_eq_true, beq_iff_eq, decide_eq_true_eq] at h
  obtain ⟨k, _, h1, h2⟩ := h
  have : 0 < (2 : Int) ^ k := Int.pow_pos (by decide)
  omega
theorem rpow_yes {n m : Int} {k : Nat} (hm : m ≤ 1024) (h : n = (2 ^ k : Nat)) (hk : ((2 ^ k : Nat) : Int) ≤ m) : rpow n m = true := by
  have h1 : 2 ^ k ≤ 1024 := by omega
  have h2 : k < 11 := by
    rcases Nat.lt_or_ge k 11 with h | h
    · exact h
    · have := Nat.pow_le_pow_right (n := 2) (by decide) h
      omega
  simp only [rpow, List.any_eq_true, Bool.and_eq_true, beq_iff_eq, decide_eq_true_eq]
  have e : ((2 ^ k : Nat) : Int) = (2 : Int) ^ k := by push_cast; rfl
  exact ⟨k, List.mem_range.2 h2, by omega, by omega⟩
theorem rpow_no {n m : Int} {k : Nat} (hj : ∀ j, j < k → n ≠ (2 ^ j : Nat)) (hk : ¬ ((2 ^ k : Nat) : Int) ≤ m) : rpow n m = false := by
  rw [Bool.eq_false_iff]
  intro h
  simp only [rpow, List.any_eq_true, Bool.and_eq_true, beq_iff_eq, decide_eq_true_eq] at h
  obtain ⟨j, _, h1, h2⟩ := h
  have e : ((2 ^ j : Nat) : Int) = (2 : Int) ^ j := by push_cast; rfl
  rcases Nat.lt_or_ge j k with h | h
  · exact hj j h (by omega)
  · have := Nat.pow_le_pow_right (n := 2) (by decide) h
    omega
set_option maxRecDepth 100000 in
theorem rpow_any (n most : Int) (hm : most ≤ 1024) (w : World) : Calls Try.prog 78 #[.int .i64 n, .int .i64 most] w fun e w' => e = .returned (.bool (rpow n most)) ∧ Below w.heap.size w w' := by
  have HY := Lib.hid (fun k => rpow_yes (n := n) (m := most) (k := k) hm)
  have HN := Lib.hid (fun k => rpow_no (n := n) (m := most) (k := k))
  obtain ⟨R, hR⟩ : ∃ R, rpow n most = R := ⟨_, rfl⟩
  have HR := Lib.hid hR
  rw [hR]
  clear hR
  obtain ⟨b0, hb0⟩ : ∃ b0, w.heap.size = b0 := ⟨_, rfl⟩
  have HB0 := Lib.hid hb0
  have OW := Lib.hid (Own.start b0 w)
  have OZ := Lib.hid (And.intro hb0 (Nat.le_refl b0))
  clear hb0
  refine (callsIn_wide (n := 6)).1 ?_
  refine callsIn_of_wp_marks Try.func78 rfl trivial ?_ rfl
  simp only [Try.ntmps78, List.size_toArray, List.length_cons, List.length_nil, Nat.reduceAdd, Nat.reduceSub, Array.replicate_succ, Array.replicate_zero, List.push_toArray, List.append_toArray, List.nil_append, List.cons_append]
  gi_wp2
  gi_loop [5] (fun p => ∃ k : Nat, p = .int .i64 ((2 ^ k : Nat) : Int) ∧ 2 ^ k ≤ 2048 ∧ ∀ j, j < k → n ≠ (2 ^ j : Nat)) (fun p => 2049 - (intOf p).toNat)
  case atStart => exact ⟨0, rfl, by decide, fun j hj => absurd hj (Nat.not_lt_zero j)⟩
  case round =>
    obtain ⟨k, rfl, hk, hj⟩ := hrel
    have HJ := Lib.hid hj
    have HP := Lib.hid (Nat.pow_succ 2 k)
    have hp0 : 0 < 2 ^ k := Nat.two_pow_pos k
    have HY1 := Lib.hid (HY.out k)
    have HN1 := Lib.hid (HN.out k hj)
    clear hj
    obtain ⟨q, hq⟩ : ∃ q, 2 ^ k = q := ⟨_, rfl⟩
    rw [hq] at HP HY1 HN1 hk hp0
    have HQ := Lib.hid hq
    rw [hq]
    clear hq
    by_cases hl : (q : Int) ≤ most
    · by_cases he : n = (q : Int)
      · obtain rfl : R = true := by rw [← HR.out]; exact HY1.out he hl
        gi_wp2
        refine leaves_own [] _ (Nat.le_of_eq HB0.out) (by simpa using OW.out) ?_
        intro W' hO
        exact ⟨.bool true, by simp [results, Try.results78, go_sem], rfl, hO.done HB0⟩
      · gi_wp2
        go_round
        case rel => exact ⟨k + 1, by rw [HP.out]; go_num, by rw [HP.out]; omega, fun j hj => by
          rcases Nat.lt_or_ge j k with h | h
          · exact HJ.out j h
          · obtain rfl : j = k := by omega
            rw [HQ.out]; exact he⟩
        case measure => simp only [intOf]; omega
    · obtain rfl : R = false := by rw [← HR.out]; exact HN1.out (by omega)
      gi_wp2
      refine leaves_own [] _ (Nat.le_of_eq HB0.out) (by simpa using OW.out) ?_
      intro W' hO
      exact ⟨.bool false, by simp [results, Try.results78, go_sem], rfl, hO.done HB0⟩
theorem rR_in {r s b m c : Int} (h : ((((((!(rpow r 8)) || (!(rpow b 16))) || (!(rpow m 1024))) || (!(rpow c 64))) || (decide (s < 0))) || (decide ((8 - r) < s))) = false) :
    (0 ≤ r + s ∧ r + s ≤ 8) ∧ (0 ≤ (r + s) * b ∧ (r + s) * b ≤ 128) ∧ (0 ≤ (r + s) * b * m ∧ (r + s) * b * m ≤ 131072) ∧ (0 ≤ (r + s) * b * m * c ∧ (r + s) * b * m * c ≤ 8388608) := by
  simp only [Bool.or_eq_false_iff, Bool.not_eq_false', decide_eq_false_iff_not] at h
  obtain ⟨⟨⟨⟨⟨h0, h1⟩, h2⟩, h3⟩, h4⟩, h5⟩ := h
  have := rpow_in h0
  have e : 0 ≤ r + s ∧ r + s ≤ 8 := by omega
  exact And.intro e (prods e (rpow_in h1) (rpow_in h2) (rpow_in h3))
def rright (r s b m c : Int) : Bool := (bif (((((!(rpow r 8)) || (!(rpow b 16))) || (!(rpow m 1024))) || (!(rpow c 64))) || (decide (s < 0))) || (decide ((8 - r) < s)) then false else (decide (((((r + s) * b) * m) * c) ≤ 4096)))
set_option maxRecDepth 100000 in
set_option maxHeartbeats 1000000 in
theorem rright_any (r s b m c : Int) (w : World) : Calls Try.prog 40 #[.agg #[.int .i64 r, .int .i64 s, .int .i64 b, .int .i64 m, .int .i64 c]] w fun e w' => e = .returned (.bool (rright r s b m c)) ∧ Below w.heap.size w w' := by
  obtain ⟨b0, hb0⟩ : ∃ b0, w.heap.size = b0 := ⟨_, rfl⟩
  have HB0 := Lib.hid hb0
  have OW := Lib.hid (Own.start b0 w)
  have OZ := Lib.hid (And.intro hb0 (Nat.le_refl b0))
  clear hb0
  refine (callsIn_wide (n := 6)).1 ?_
  refine callsIn_of_wp_marks Try.func40 rfl trivial ?_ rfl
  simp only [Try.ntmps40, List.size_toArray, List.length_cons, List.length_nil, Nat.reduceAdd, Nat.reduceSub, Array.replicate_succ, Array.replicate_zero, List.push_toArray, List.append_toArray, List.nil_append, List.cons_append]
  gi_upto_region 1 with (first | (refine own_boxV 1 35 (.tmp 0) rfl rfl rfl (.agg #[.int .i64 r, .int .i64 s, .int .i64 b, .int .i64 m, .int .i64 c]) rfl #[.int .i64 r, .int .i64 s, .int .i64 b, .int .i64 m, .int .i64 c] rfl OW OZ ?_; clear OW OZ; intro W g1 OW OZ))
  obtain ⟨eo29, qeo29⟩ : ∃ e, ((!(rpow r 8)) || (!(rpow b 16))) = e := ⟨_, rfl⟩
  obtain ⟨eo214, qeo214⟩ : ∃ e, (!(rpow m 1024)) = e := ⟨_, rfl⟩
  obtain ⟨eo215, qeo215⟩ : ∃ e, (eo29 || eo214) = e := ⟨_, rfl⟩
  obtain ⟨eo221, qeo221⟩ : ∃ e, (eo215 || (!(rpow c 64))) = e := ⟨_, rfl⟩
  obtain ⟨eo225, qeo225⟩ : ∃ e, (decide (s < 0)) = e := ⟨_, rfl⟩
  obtain ⟨eo226, qeo226⟩ : ∃ e, (eo221 || eo225) = e := ⟨_, rfl⟩
  obtain ⟨eo233, qeo233⟩ : ∃ e, (decide ((8 - r) < s)) = e := ⟨_, rfl⟩
  obtain ⟨eo234, qeo234⟩ : ∃ e, (eo226 || eo233) = e := ⟨_, rfl⟩
  refine wpIn_region_heldL 35 (atD [[], [0], [1], [2], [3], [4], [4, 5], [4, 6], [4, 7], [4, 8], [9], [10], [10, 11], [10, 12], [10, 13], [10, 14], [15], [16], [16, 17], [16, 18], [16, 19], [16, 20], [21], [22], [22, 23], [22, 24], [22, 25], [26], [27], [27, 28], [27], [27, 30], [27, 31], [27, 29, 32], [27, 33]]) (atV [fun vH _ => vH = .pointer (some ⟨b0, 0, none⟩), fun vH _ => vH = .int .i64 r, fun vH _ => vH = .bool (rpow r 8), fun vH _ => vH = .bool (!(rpow r 8)), fun vH _ => vH = .bool (!(rpow r 8)), cdV (True ∧ (!(rpow r 8)) = false) (fun vH _ => vH = .pointer (some ⟨b0, 2, none⟩)), cdV (True ∧ (!(rpow r 8)) = false) (fun vH _ => vH = .int .i64 b), cdV (True ∧ (!(rpow r 8)) = false) (fun vH _ => vH = .bool (rpow b 16)), cdV (True ∧ (!(rpow r 8)) = false) (fun vH _ => vH = .bool (!(rpow b 16))), fun vH _ => vH = .bool eo29, fun vH _ => vH = .bool eo29, cdV (True ∧ eo29 = false) (fun vH _ => vH = .pointer (some ⟨b0, 3, none⟩)), cdV (True ∧ eo29 = false) (fun vH _ => vH = .int .i64 m), cdV (True ∧ eo29 = false) (fun vH _ => vH = .bool (rpow m 1024)), cdV (True ∧ eo29 = false) (fun vH _ => vH = .bool eo214), fun vH _ => vH = .bool eo215, fun vH _ => vH = .bool eo215, cdV (True ∧ eo215 = false) (fun vH _ => vH = .pointer (some ⟨b0, 4, none⟩)), cdV (True ∧ eo215 = false) (fun vH _ => vH = .int .i64 c), cdV (True ∧ eo215 = false) (fun vH _ => vH = .bool (rpow c 64)), cdV (True ∧ eo215 = false) (fun vH _ => vH = .bool (!(rpow c 64))), fun vH _ => vH = .bool eo221, fun vH _ => vH = .bool eo221, cdV (True ∧ eo221 = false) (fun vH _ => vH = .pointer (some ⟨b0, 1, none⟩)), cdV (True ∧ eo221 = false) (fun vH _ => vH = .int .i64 s), cdV (True ∧ eo221 = false) (fun vH _ => vH = .bool eo225), fun vH _ => vH = .bool eo226, fun vH _ => vH = .bool eo226, cdV (True ∧ eo226 = false) (fun vH _ => vH = .pointer (some ⟨b0, 1, none⟩)), cdV (True ∧ eo226 = false) (fun vH _ => vH = .int .i64 s), cdV (True ∧ eo226 = false) (fun vH _ => vH = .pointer (some ⟨b0, 0, none⟩)), cdV (True ∧ eo226 = false) (fun vH _ => vH = .int .i64 r), cdV (True ∧ eo226 = false) (fun vH _ => vH = .int .i64 (8 - r)), cdV (True ∧ eo226 = false) (fun vH _ => vH = .bool eo233), fun vH _ => vH = .bool eo234]) BelowR (by kernel_rfl) BelowR.trans (BelowR.refl _)
    (StV.atV (.const _ (.const _ (.const _ (.const _ (.const _ (.cons (fun v x y h _ => h) (.cons (fun v x y h _ => h) (.cons (fun v x y h _ => h) (.cons (fun v x y h _ => h) (.const _ (.const _ (.cons (fun v x y h _ => h) (.cons (fun v x y h _ => h) (.cons (fun v x y h _ => h) (.cons (fun v x y h _ => h) (.const _ (.const _ (.cons (fun v x y h _ => h) (.cons (fun v x y h _ => h) (.cons (fun v x y h _ => h) (.cons (fun v x y h _ => h) (.const _ (.const _ (.cons (fun v x y h _ => h) (.cons (fun v x y h _ => h) (.cons (fun v x y h _ => h) (.const _ (.const _ (.cons (fun v x y h _ => h) (.cons (fun v x y h _ => h) (.cons (fun v x y h _ => h) (.cons (fun v x y h _ => h) (.cons (fun v x y h _ => h) (.cons (fun v x y h _ => h) (.const _ .nil))))))))))))))))))))))))))))))))))))
    ⟨?o2x0, ?o2x1, ?o2x2, ?o2x3, ?o2x4, ?o2x5, ?o2x6, ?o2x7, ?o2x8, ?o2x9, ?o2x10, ?o2x11, ?o2x12, ?o2x13, ?o2x14, ?o2x15, ?o2x16, ?o2x17, ?o2x18, ?o2x19, ?o2x20, ?o2x21, ?o2x22, ?o2x23, ?o2x24, ?o2x25, ?o2x26, ?o2x27, ?o2x28, ?o2x29, ?o2x30, ?o2x31, ?o2x32, ?o2x33, ?o2x34, trivial⟩ ?_
  case o2x0 =>
    exact held_run free_wide rfl (by rfl) BelowR.refl fun xH w' kH hR => ⟨_, run_fldO rfl (pO (by kernel_rfl) rfl) (by kernel_rfl), rfl⟩
  case o2x1 =>
    exact held_load free_wide rfl BelowR.refl 3 (.tmp 3) rfl fun xH w' kH hR => ⟨_, _, (pT 0 (by kernel_rfl) (by kernel_rfl) (kH 0 (by decide))), ldC OW hR 0 rfl rfl naInt, rfl⟩
  case o2x2 =>
    refine held_call free_wide rfl 78 _ _ rfl (enters_of Try.func78 (by kernel_rfl) rfl) fun xH w' kH hR => ⟨_, mapE2 (pT 1 (by kernel_rfl) (by kernel_rfl) (kH 1 (by decide))) rfl, ?_⟩
    refine (callsIn_wide.2 (rpow_any r 8 (by decide) _)).mono ?_
    rintro e w2 ⟨rfl, h2⟩
    exact ⟨_, rfl, rfl, h2⟩
  case o2x3 =>
    exact held_run free_wide rfl (by rfl) BelowR.refl fun xH w' kH hR => ⟨_, run_unO rfl (pT 2 (by kernel_rfl) (by kernel_rfl) (kH 2 (by decide))) rfl, rfl⟩
  case o2x4 =>
    exact held_move free_wide rfl BelowR.refl (.tmp 6) (.inl rfl) fun xH w' kH _ => (pT 3 (by kernel_rfl) (by kernel_rfl) (kH 3 (by decide)))
  case o2x5 =>
    refine held_guard free_wide 4 7 false True (!(rpow r 8)) BelowR.refl rfl (by kernel_rfl) (by kernel_rfl) (by kernel_rfl) (fun xH w' kH => .inl ⟨trivial, kH 4 (by decide)⟩) (fun hC hG => ?_) (fun hN w' => .inr ⟨hN, rfl⟩)
    exact held_runG free_wide hG (by rfl) BelowR.refl fun xH w' kH hR => ⟨_, run_fldO rfl (pO (by kernel_rfl) rfl) (by kernel_rfl), (.inl ⟨hC, rfl⟩)⟩
  case o2x6 =>
    refine held_guard free_wide 4 7 false True (!(rpow r 8)) BelowR.refl rfl (by kernel_rfl) (by kernel_rfl) (by kernel_rfl) (fun xH w' kH => .inl ⟨trivial, kH 4 (by decide)⟩) (fun hC hG => ?_) (fun hN w' => .inr ⟨hN, rfl⟩)
    exact held_loadG free_wide hG BelowR.refl 3 (.tmp 8) rfl fun xH w' kH hR => ⟨_, _, (pT 5 (by kernel_rfl) (by kernel_rfl) (cdAt (kH 5 (by decide)) rfl hC)), ldC OW hR 0 rfl rfl naInt, (.inl ⟨hC, rfl⟩)⟩
  case o2x7 =>
    refine held_guard free_wide 4 7 false True (!(rpow r 8)) BelowR.refl rfl (by kernel_rfl) (by kernel_rfl) (by kernel_rfl) (fun xH w' kH => .inl ⟨trivial, kH 4 (by decide)⟩) (fun hC hG => ?_) (fun hN w' => .inr ⟨hN, rfl⟩)
    refine held_callG free_wide hG 78 _ _ rfl (enters_of Try.func78 (by kernel_rfl) rfl) fun xH w' kH hR => ⟨_, mapE2 (pT 6 (by kernel_rfl) (by kernel_rfl) (cdAt (kH 6 (by decide)) rfl hC)) rfl, ?_⟩
    refine (callsIn_wide.2 (rpow_any b 16 (by decide) _)).mono ?_
    rintro e w2 ⟨rfl, h2⟩
    exact ⟨_, rfl, (.inl ⟨hC, rfl⟩), h2⟩
  case o2x8 =>
    refine held_guard free_wide 4 7 false True (!(rpow r 8)) BelowR.refl rfl (by kernel_rfl) (by kernel_rfl) (by kernel_rfl) (fun xH w' kH => .inl ⟨trivial, kH 4 (by decide)⟩) (fun hC hG => ?_) (fun hN w' => .inr ⟨hN, rfl⟩)
    exact held_runG free_wide hG (by rfl) BelowR.refl fun xH w' kH hR => ⟨_, run_unO rfl (pT 7 (by kernel_rfl) (by kernel_rfl) (cdAt (kH 7 (by decide)) rfl hC)) rfl, (.inl ⟨hC, rfl⟩)⟩
  case o2x9 =>
    exact held_run free_wide rfl (by rfl) BelowR.refl fun xH w' kH hR => ⟨_, run_pickOr rfl (pT 4 (by kernel_rfl) (by kernel_rfl) (kH 4 (by decide))) rfl (fun h => pT 8 (by kernel_rfl) (by kernel_rfl) (cdAt (kH 8 (by decide)) rfl (And.intro trivial h))), (congrArg Value.bool qeo29)⟩
  case o2x10 =>
    exact held_move free_wide rfl BelowR.refl (.tmp 12) (.inl rfl) fun xH w' kH _ => (pT 9 (by kernel_rfl) (by kernel_rfl) (kH 9 (by decide)))
  case o2x11 =>
    refine held_guard free_wide 10 13 false True eo29 BelowR.refl rfl (by kernel_rfl) (by kernel_rfl) (by kernel_rfl) (fun xH w' kH => .inl ⟨trivial, kH 10 (by decide)⟩) (fun hC hG => ?_) (fun hN w' => .inr ⟨hN, rfl⟩)
    exact held_runG free_wide hG (by rfl) BelowR.refl fun xH w' kH hR => ⟨_, run_fldO rfl (pO (by kernel_rfl) rfl) (by kernel_rfl), (.inl ⟨hC, rfl⟩)⟩
  case o2x12 =>
    refine held_guard free_wide 10 13 false True eo29 BelowR.refl rfl (by kernel_rfl) (by kernel_rfl) (by kernel_rfl) (fun xH w' kH => .inl ⟨trivial, kH 10 (by decide)⟩) (fun hC hG => ?_) (fun hN w' => .inr ⟨hN, rfl⟩)
    exact held_loadG free_wide hG BelowR.refl 3 (.tmp 14) rfl fun xH w' kH hR => ⟨_, _, (pT 11 (by kernel_rfl) (by kernel_rfl) (cdAt (kH 11 (by decide)) rfl hC)), ldC OW hR 0 rfl rfl naInt, (.inl ⟨hC, rfl⟩)⟩
  case o2x13 =>
    refine held_guard free_wide 10 13 false True eo29 BelowR.refl rfl (by kernel_rfl) (by kernel_rfl) (by kernel_rfl) (fun xH w' kH => .inl ⟨trivial, kH 10 (by decide)⟩) (fun hC hG => ?_) (fun hN w' => .inr ⟨hN, rfl⟩)
    refine held_callG free_wide hG 78 _ _ rfl (enters_of Try.func78 (by kernel_rfl) rfl) fun xH w' kH hR => ⟨_, mapE2 (pT 12 (by kernel_rfl) (by kernel_rfl) (cdAt (kH 12 (by decide)) rfl hC)) rfl, ?_⟩
    refine (callsIn_wide.2 (rpow_any m 1024 (by decide) _)).mono ?_
    rintro e w2 ⟨rfl, h2⟩
    exact ⟨_, rfl, (.inl ⟨hC, rfl⟩), h2⟩
  case o2x14 =>
    refine held_guard free_wide 10 13 false True eo29 BelowR.refl rfl (by kernel_rfl) (by kernel_rfl) (by kernel_rfl) (fun xH w' kH => .inl ⟨trivial, kH 10 (by decide)⟩) (fun hC hG => ?_) (fun hN w' => .inr ⟨hN, rfl⟩)
    exact held_runG free_wide hG (by rfl) BelowR.refl fun xH w' kH hR => ⟨_, run_unO rfl (pT 13 (by kernel_rfl) (by kernel_rfl) (cdAt (kH 13 (by decide)) rfl hC)) rfl, (.inl ⟨hC, congrArg Value.bool qeo214⟩)⟩
  case o2x15 =>
    exact held_run free_wide rfl (by rfl) BelowR.refl fun xH w' kH hR => ⟨_, run_pickOr rfl (pT 10 (by kernel_rfl) (by kernel_rfl) (kH 10 (by decide))) rfl (fun h => pT 14 (by kernel_rfl) (by kernel_rfl) (cdAt (kH 14 (by decide)) rfl (And.intro trivial h))), (congrArg Value.bool qeo215)⟩
  case o2x16 =>
    exact held_move free_wide rfl BelowR.refl (.tmp 18) (.inl rfl) fun xH w' kH _ => (pT 15 (by kernel_rfl) (by kernel_rfl) (kH 15 (by decide)))
  case o2x17 =>
    refine held_guard free_wide 16 19 false True eo215 BelowR.refl rfl (by kernel_rfl) (by kernel_rfl) (by kernel_rfl) (fun xH w' kH => .inl ⟨trivial, kH 16 (by decide)⟩) (fun hC hG => ?_) (fun hN w' => .inr ⟨hN, rfl⟩)
    exact held_runG free_wide hG (by rfl) BelowR.refl fun xH w' kH hR => ⟨_, run_fldO rfl (pO (by kernel_rfl) rfl) (by kernel_rfl), (.inl ⟨hC, rfl⟩)⟩
  case o2x18 =>
    refine held_guard free_wide 16 19 false True eo215 BelowR.refl rfl (by kernel_rfl) (by kernel_rfl) (by kernel_rfl) (fun xH w' kH => .inl ⟨trivial, kH 16 (by decide)⟩) (fun hC hG => ?_) (fun hN w' => .inr ⟨hN, rfl⟩)
    exact held_loadG free_wide hG BelowR.refl 3 (.tmp 20) rfl fun xH w' kH hR => ⟨_, _, (pT 17 (by kernel_rfl) (by kernel_rfl) (cdAt (kH 17 (by decide)) rfl hC)), ldC OW hR 0 rfl rfl naInt, (.inl ⟨hC, rfl⟩)⟩
  case o2x19 =>
    refine held_guard free_wide 16 19 false True eo215 BelowR.refl rfl (by kernel_rfl) (by kernel_rfl) (by kernel_rfl) (fun xH w' kH => .inl ⟨trivial, kH 16 (by decide)⟩) (fun hC hG => ?_) (fun hN w' => .inr ⟨hN, rfl⟩)
    refine held_callG free_wide hG 78 _ _ rfl (enters_of Try.func78 (by kernel_rfl) rfl) fun xH w' kH hR => ⟨_, mapE2 (pT 18 (by kernel_rfl) (by kernel_rfl) (cdAt (kH 18 (by decide)) rfl hC)) rfl, ?_⟩
    refine (callsIn_wide.2 (rpow_any c 64 (by decide) _)).mono ?_
    rintro e w2 ⟨rfl, h2⟩
    exact ⟨_, rfl, (.inl ⟨hC, rfl⟩), h2⟩
  case o2x20 =>
    refine held_guard free_wide 16 19 false True eo215 BelowR.refl rfl (by kernel_rfl) (by kernel_rfl) (by kernel_rfl) (fun xH w' kH => .inl ⟨trivial, kH 16 (by decide)⟩) (fun hC hG => ?_) (fun hN w' => .inr ⟨hN, rfl⟩)
    exact held_runG free_wide hG (by rfl) BelowR.refl fun xH w' kH hR => ⟨_, run_unO rfl (pT 19 (by kernel_rfl) (by kernel_rfl) (cdAt (kH 19 (by decide)) rfl hC)) rfl, (.inl ⟨hC, rfl⟩)⟩
  case o2x21 =>
    exact held_run free_wide rfl (by rfl) BelowR.refl fun xH w' kH hR => ⟨_, run_pickOr rfl (pT 16 (by kernel_rfl) (by kernel_rfl) (kH 16 (by decide))) rfl (fun h => pT 20 (by kernel_rfl) (by kernel_rfl) (cdAt (kH 20 (by decide)) rfl (And.intro trivial h))), (congrArg Value.bool qeo221)⟩
  case o2x22 =>
    exact held_move free_wide rfl BelowR.refl (.tmp 24) (.inl rfl) fun xH w' kH _ => (pT 21 (by kernel_rfl) (by kernel_rfl) (kH 21 (by decide)))
  case o2x23 =>
    refine held_guard free_wide 22 25 false True eo221 BelowR.refl rfl (by kernel_rfl) (by kernel_rfl) (by kernel_rfl) (fun xH w' kH => .inl ⟨trivial, kH 22 (by decide)⟩) (fun hC hG => ?_) (fun hN w' => .inr ⟨hN, rfl⟩)
    exact held_runG free_wide hG (by rfl) BelowR.refl fun xH w' kH hR => ⟨_, run_fldO rfl (pO (by kernel_rfl) rfl) (by kernel_rfl), (.inl ⟨hC, rfl⟩)⟩
  case o2x24 =>
    refine held_guard free_wide 22 25 false True eo221 BelowR.refl rfl (by kernel_rfl) (by kernel_rfl) (by kernel_rfl) (fun xH w' kH => .inl ⟨trivial, kH 22 (by decide)⟩) (fun hC hG => ?_) (fun hN w' => .inr ⟨hN, rfl⟩)
    exact held_loadG free_wide hG BelowR.refl 3 (.tmp 26) rfl fun xH w' kH hR => ⟨_, _, (pT 23 (by kernel_rfl) (by kernel_rfl) (cdAt (kH 23 (by decide)) rfl hC)), ldC OW hR 0 rfl rfl naInt, (.inl ⟨hC, rfl⟩)⟩
  case o2x25 =>
    refine held_guard free_wide 22 25 false True eo221 BelowR.refl rfl (by kernel_rfl) (by kernel_rfl) (by kernel_rfl) (fun xH w' kH => .inl ⟨trivial, kH 22 (by decide)⟩) (fun hC hG => ?_) (fun hN w' => .inr ⟨hN, rfl⟩)
    exact held_runG free_wide hG (by rfl) BelowR.refl fun xH w' kH hR => ⟨_, run_binO rfl (pT 24 (by kernel_rfl) (by kernel_rfl) (cdAt (kH 24 (by decide)) rfl hC)) rfl bin_lss, (.inl ⟨hC, congrArg Value.bool qeo225⟩)⟩
  case o2x26 =>
    exact held_run free_wide rfl (by rfl) BelowR.refl fun xH w' kH hR => ⟨_, run_pickOr rfl (pT 22 (by kernel_rfl) (by kernel_rfl) (kH 22 (by decide))) rfl (fun h => pT 25 (by kernel_rfl) (by kernel_rfl) (cdAt (kH 25 (by decide)) rfl (And.intro trivial h))), (congrArg Value.bool qeo226)⟩
  case o2x27 =>
    exact held_move free_wide rfl BelowR.refl (.tmp 29) (.inl rfl) fun xH w' kH _ => (pT 26 (by kernel_rfl) (by kernel_rfl) (kH 26 (by decide)))
  case o2x28 =>
    refine held_guard free_wide 27 30 false True eo226 BelowR.refl rfl (by kernel_rfl) (by kernel_rfl) (by kernel_rfl) (fun xH w' kH => .inl ⟨trivial, kH 27 (by decide)⟩) (fun hC hG => ?_) (fun hN w' => .inr ⟨hN, rfl⟩)
    exact held_runG free_wide hG (by rfl) BelowR.refl fun xH w' kH hR => ⟨_, run_fldO rfl (pO (by kernel_rfl) rfl) (by kernel_rfl), (.inl ⟨hC, rfl⟩)⟩
  case o2x29 =>
    refine held_guard free_wide 27 30 false True eo226 BelowR.refl rfl (by kernel_rfl) (by kernel_rfl) (by kernel_rfl) (fun xH w' kH => .inl ⟨trivial, kH 27 (by decide)⟩) (fun hC hG => ?_) (fun hN w' => .inr ⟨hN, rfl⟩)
    exact held_loadG free_wide hG BelowR.refl 3 (.tmp 31) rfl fun xH w' kH hR => ⟨_, _, (pT 28 (by kernel_rfl) (by kernel_rfl) (cdAt (kH 28 (by decide)) rfl hC)), ldC OW hR 0 rfl rfl naInt, (.inl ⟨hC, rfl⟩)⟩
  case o2x30 =>
    refine held_guard free_wide 27 30 false True eo226 BelowR.refl rfl (by kernel_rfl) (by kernel_rfl) (by kernel_rfl) (fun xH w' kH => .inl ⟨trivial, kH 27 (by decide)⟩) (fun hC hG => ?_) (fun hN w' => .inr ⟨hN, rfl⟩)
    exact held_runG free_wide hG (by rfl) BelowR.refl fun xH w' kH hR => ⟨_, run_fldO rfl (pO (by kernel_rfl) rfl) (by kernel_rfl), (.inl ⟨hC, rfl⟩)⟩
  case o2x31 =>
    refine held_guard free_wide 27 30 false True eo226 BelowR.refl rfl (by kernel_rfl) (by kernel_rfl) (by kernel_rfl) (fun xH w' kH => .inl ⟨trivial, kH 27 (by decide)⟩) (fun hC hG => ?_) (fun hN w' => .inr ⟨hN, rfl⟩)
    exact held_loadG free_wide hG BelowR.refl 3 (.tmp 33) rfl fun xH w' kH hR => ⟨_, _, (pT 30 (by kernel_rfl) (by kernel_rfl) (cdAt (kH 30 (by decide)) rfl hC)), ldC OW hR 0 rfl rfl naInt, (.inl ⟨hC, rfl⟩)⟩
  case o2x32 =>
    refine held_guard free_wide 27 30 false True eo226 BelowR.refl rfl (by kernel_rfl) (by kernel_rfl) (by kernel_rfl) (fun xH w' kH => .inl ⟨trivial, kH 27 (by decide)⟩) (fun hC hG => ?_) (fun hN w' => .inr ⟨hN, rfl⟩)
    exact held_runG free_wide hG (by rfl) BelowR.refl fun xH w' kH hR => ⟨_, run_binO rfl rfl (pT 31 (by kernel_rfl) (by kernel_rfl) (cdAt (kH 31 (by decide)) rfl hC)) (bin_sub_in (by subst qeo226 qeo225 qeo221 qeo215 qeo214 qeo29; have h := hC.2; simp only [Bool.or_eq_false_iff, Bool.not_eq_false'] at h; have := rpow_in h.1.1.1.1; omega) (by subst qeo226 qeo225 qeo221 qeo215 qeo214 qeo29; have h := hC.2; simp only [Bool.or_eq_false_iff, Bool.not_eq_false'] at h; have := rpow_in h.1.1.1.1; omega)), (.inl ⟨hC, rfl⟩)⟩
  case o2x33 =>
    refine held_guard free_wide 27 30 false True eo226 BelowR.refl rfl (by kernel_rfl) (by kernel_rfl) (by kernel_rfl) (fun xH w' kH => .inl ⟨trivial, kH 27 (by decide)⟩) (fun hC hG => ?_) (fun hN w' => .inr ⟨hN, rfl⟩)
    exact held_runG free_wide hG (by rfl) BelowR.refl fun xH w' kH hR => ⟨_, run_binO rfl (pT 29 (by kernel_rfl) (by kernel_rfl) (cdAt (kH 29 (by decide)) rfl hC)) (pT 32 (by kernel_rfl) (by kernel_rfl) (cdAt (kH 32 (by decide)) rfl hC)) bin_gtr, (.inl ⟨hC, congrArg Value.bool qeo233⟩)⟩
  case o2x34 =>
    exact held_run free_wide rfl (by rfl) BelowR.refl fun xH w' kH hR => ⟨_, run_pickOr rfl (pT 27 (by kernel_rfl) (by kernel_rfl) (kH 27 (by decide))) rfl (fun h => pT 33 (by kernel_rfl) (by kernel_rfl) (cdAt (kH 33 (by decide)) rfl (And.intro trivial h))), (congrArg Value.bool qeo234)⟩
  intro xH w' hv hR
  subst qeo234 qeo233 qeo226 qeo225 qeo221 qeo215 qeo214 qeo29
  have h0 : xH 0 = _ := hv 0 (by omega)
  have h1 : xH 1 = _ := hv 1 (by omega)
  have h2 : xH 2 = _ := hv 2 (by omega)
  have h3 : xH 3 = _ := hv 3 (by omega)
  have h4 : xH 4 = _ := hv 4 (by omega)
  have h9 : xH 9 = _ := hv 9 (by omega)
  have h10 : xH 10 = _ := hv 10 (by omega)
  have h15 : xH 15 = _ := hv 15 (by omega)
  have h16 : xH 16 = _ := hv 16 (by omega)
  have h21 : xH 21 = _ := hv 21 (by omega)
  have h22 : xH 22 = _ := hv 22 (by omega)
  have h26 : xH 26 = _ := hv 26 (by omega)
  have h27 : xH 27 = _ := hv 27 (by omega)
  have h34 : xH 34 = _ := hv 34 (by omega)
  simp only [List.take_succ_cons, List.take_zero, List.drop_succ_cons, List.drop_zero, putsH, Act.put, List.setIfInBounds_toArray, List.set_cons_succ, List.set_cons_zero, h0, h1, h2, h3, h4, h9, h10, h15, h16, h21, h22, h26, h27, h34]
  have OW2 := Lib.hid (OW.out.step hR)
  clear hv hR OW OZ h0 h1 h2 h3 h4 h9 h10 h15 h16 h21 h22 h26 h27 h34
  have OW := OW2
  clear OW2
  obtain ⟨g3, OZ⟩ := own_size OW HB0
  cases hB4 : ((((((!(rpow r 8)) || (!(rpow b 16))) || (!(rpow m 1024))) || (!(rpow c 64))) || (decide (s < 0))) || (decide ((8 - r) < s)))
  case true =>
    gi_wp2
    refine leaves_own [] _ (Nat.le_of_eq HB0.out) (by simpa using OW.out) ?_
    intro W' hO
    exact ⟨.bool false, by simp [results, Try.results40, go_sem], (by simp only [rright, hB4, cond_true, cond_false]), hO.done HB0⟩
  gi_upto_region 3 with fail
  obtain ⟨eo514, qeo514⟩ : ∃ e, (decide (((((r + s) * b) * m) * c) ≤ 4096)) = e := ⟨_, rfl⟩
  refine wpIn_region_heldL 16 (atD [[], [0], [], [2], [1, 3], [], [5], [4, 6], [], [8], [7, 9], [], [11], [10, 12], [13], [14]]) (atV [fun vH _ => vH = .pointer (some ⟨b0, 0, none⟩), fun vH _ => vH = .int .i64 r, fun vH _ => vH = .pointer (some ⟨b0, 1, none⟩), fun vH _ => vH = .int .i64 s, fun vH _ => vH = .int .i64 (r + s), fun vH _ => vH = .pointer (some ⟨b0, 2, none⟩), fun vH _ => vH = .int .i64 b, fun vH _ => vH = .int .i64 ((r + s) * b), fun vH _ => vH = .pointer (some ⟨b0, 3, none⟩), fun vH _ => vH = .int .i64 m, fun vH _ => vH = .int .i64 (((r + s) * b) * m), fun vH _ => vH = .pointer (some ⟨b0, 4, none⟩), fun vH _ => vH = .int .i64 c, fun vH _ => vH = .int .i64 ((((r + s) * b) * m) * c), fun vH _ => vH = .bool eo514, fun vH _ => vH = .bool eo514]) BelowR (by kernel_rfl) BelowR.trans (BelowR.refl _)
    (StV.atV (.const _ (.const _ (.const _ (.const _ (.const _ (.const _ (.const _ (.const _ (.const _ (.const _ (.const _ (.const _ (.const _ (.const _ (.const _ (.const _ .nil)))))))))))))))))
    ⟨?o5x0, ?o5x1, ?o5x2, ?o5x3, ?o5x4, ?o5x5, ?o5x6, ?o5x7, ?o5x8, ?o5x9, ?o5x10, ?o5x11, ?o5x12, ?o5x13, ?o5x14, ?o5x15, trivial⟩ ?_
  case o5x0 =>
    exact held_run free_wide rfl (by rfl) BelowR.refl fun xH w' kH hR => ⟨_, run_fldO rfl (pO (by kernel_rfl) rfl) (by kernel_rfl), rfl⟩
  case o5x1 =>
    exact held_load free_wide rfl BelowR.refl 3 (.tmp 38) rfl fun xH w' kH hR => ⟨_, _, (pT 0 (by kernel_rfl) (by kernel_rfl) (kH 0 (by decide))), ldC OW hR 0 rfl rfl naInt, rfl⟩
  case o5x2 =>
    exact held_run free_wide rfl (by rfl) BelowR.refl fun xH w' kH hR => ⟨_, run_fldO rfl (pO (by kernel_rfl) rfl) (by kernel_rfl), rfl⟩
  case o5x3 =>
    exact held_load free_wide rfl BelowR.refl 3 (.tmp 40) rfl fun xH w' kH hR => ⟨_, _, (pT 2 (by kernel_rfl) (by kernel_rfl) (kH 2 (by decide))), ldC OW hR 0 rfl rfl naInt, rfl⟩
  case o5x4 =>
    exact held_run free_wide rfl (by rfl) BelowR.refl fun xH w' kH hR => ⟨_, run_binO rfl (pT 1 (by kernel_rfl) (by kernel_rfl) (kH 1 (by decide))) (pT 3 (by kernel_rfl) (by kernel_rfl) (kH 3 (by decide))) (bin_add_in (by (have h := rR_in (by assumption); omega)) (by (have h := rR_in (by assumption); omega))), rfl⟩
  case o5x5 =>
    exact held_run free_wide rfl (by rfl) BelowR.refl fun xH w' kH hR => ⟨_, run_fldO rfl (pO (by kernel_rfl) rfl) (by kernel_rfl), rfl⟩
  case o5x6 =>
    exact held_load free_wide rfl BelowR.refl 3 (.tmp 43) rfl fun xH w' kH hR => ⟨_, _, (pT 5 (by kernel_rfl) (by kernel_rfl) (kH 5 (by decide))), ldC OW hR 0 rfl rfl naInt, rfl⟩
  case o5x7 =>
    exact held_run free_wide rfl (by rfl) BelowR.refl fun xH w' kH hR => ⟨_, run_binO rfl (pT 4 (by kernel_rfl) (by kernel_rfl) (kH 4 (by decide))) (pT 6 (by kernel_rfl) (by kernel_rfl) (kH 6 (by decide))) (bin_mul_in (by (have h := rR_in (by assumption); omega)) (by (have h := rR_in (by assumption); omega))), rfl⟩
  case o5x8 =>
    exact held_run free_wide rfl (by rfl) BelowR.refl fun xH w' kH hR => ⟨_, run_fldO rfl (pO (by kernel_rfl) rfl) (by kernel_rfl), rfl⟩
  case o5x9 =>
    exact held_load free_wide rfl BelowR.refl 3 (.tmp 46) rfl fun xH w' kH hR => ⟨_, _, (pT 8 (by kernel_rfl) (by kernel_rfl) (kH 8 (by decide))), ldC OW hR 0 rfl rfl naInt, rfl⟩
  case o5x10 =>
    exact held_run free_wide rfl (by rfl) BelowR.refl fun xH w' kH hR => ⟨_, run_binO rfl (pT 7 (by kernel_rfl) (by kernel_rfl) (kH 7 (by decide))) (pT 9 (by kernel_rfl) (by kernel_rfl) (kH 9 (by decide))) (bin_mul_in (by (have h := rR_in (by assumption); omega)) (by (have h := rR_in (by assumption); omega))), rfl⟩
  case o5x11 =>
    exact held_run free_wide rfl (by rfl) BelowR.refl fun xH w' kH hR => ⟨_, run_fldO rfl (pO (by kernel_rfl) rfl) (by kernel_rfl), rfl⟩
  case o5x12 =>
    exact held_load free_wide rfl BelowR.refl 3 (.tmp 49) rfl fun xH w' kH hR => ⟨_, _, (pT 11 (by kernel_rfl) (by kernel_rfl) (kH 11 (by decide))), ldC OW hR 0 rfl rfl naInt, rfl⟩
  case o5x13 =>
    exact held_run free_wide rfl (by rfl) BelowR.refl fun xH w' kH hR => ⟨_, run_binO rfl (pT 10 (by kernel_rfl) (by kernel_rfl) (kH 10 (by decide))) (pT 12 (by kernel_rfl) (by kernel_rfl) (kH 12 (by decide))) (bin_mul_in (by (have h := rR_in (by assumption); omega)) (by (have h := rR_in (by assumption); omega))), rfl⟩
  case o5x14 =>
    exact held_run free_wide rfl (by rfl) BelowR.refl fun xH w' kH hR => ⟨_, run_binO rfl (pT 13 (by kernel_rfl) (by kernel_rfl) (kH 13 (by decide))) rfl bin_leq, (congrArg Value.bool qeo514)⟩
  case o5x15 =>
    exact held_move free_wide rfl BelowR.refl (.tmp 52) (.inr rfl) fun xH w' kH _ => (pT 14 (by kernel_rfl) (by kernel_rfl) (kH 14 (by decide)))
  intro xH w' hv hR
  subst qeo514
  have h0 : xH 0 = _ := hv 0 (by omega)
  have h1 : xH 1 = _ := hv 1 (by omega)
  have h2 : xH 2 = _ := hv 2 (by omega)
  have h3 : xH 3 = _ := hv 3 (by omega)
  have h4 : xH 4 = _ := hv 4 (by omega)
  have h5 : xH 5 = _ := hv 5 (by omega)
  have h6 : xH 6 = _ := hv 6 (by omega)
  have h7 : xH 7 = _ := hv 7 (by omega)
  have h8 : xH 8 = _ := hv 8 (by omega)
  have h9 : xH 9 = _ := hv 9 (by omega)
  have h10 : xH 10 = _ := hv 10 (by omega)
  have h11 : xH 11 = _ := hv 11 (by omega)
  have h12 : xH 12 = _ := hv 12 (by omega)
  have h13 : xH 13 = _ := hv 13 (by omega)
  have h14 : xH 14 = _ := hv 14 (by omega)
  have h15 : xH 15 = _ := hv 15 (by omega)
  simp only [List.take_succ_cons, List.take_zero, List.drop_succ_cons, List.drop_zero, putsH, Act.put, List.setIfInBounds_toArray, List.set_cons_succ, List.set_cons_zero, h0, h1, h2, h3, h4, h5, h6, h7, h8, h9, h10, h11, h12, h13, h14, h15]
  have OW2 := Lib.hid (OW.out.step hR)
  clear hv hR OW OZ h0 h1 h2 h3 h4 h5 h6 h7 h8 h9 h10 h11 h12 h13 h14 h15
  have OW := OW2
  clear OW2
  obtain ⟨g6, OZ⟩ := own_size OW HB0
  gi_wp2
  refine leaves_own [] _ (Nat.le_of_eq HB0.out) (by simpa using OW.out) ?_
  intro W' hO
  exact ⟨.bool (decide (((((r + s) * b) * m) * c) ≤ 4096)), by simp [results, Try.results40, go_sem], (by simp only [rright, hB4, cond_true, cond_false]), hO.done HB0⟩
theorem rright_in {r s b m c : Int} (h : rright r s b m c = true) : 0 ≤ r + s ∧ r + s ≤ 8 := by
  unfold rright at h
  cases h1 : ((((((!(rpow r 8)) || (!(rpow b 16))) || (!(rpow m 1024))) || (!(rpow c 64))) || (decide (s < 0))) || (decide ((8 - r) < s))) with
  | true => rw [h1] at h; simp at h
  | false => exact (rR_in h1).1
def rholds (r s b m c p0 p1 p2 p3 : Int) : Bool := (bif ((((!(rright r s b m c)) || (decide (p0 < 0))) || (decide (p1 < 0))) || (decide (p2 < 0))) || (decide (p3 < 0)) then false else ((((decide (p0 < (r + s))) && (decide (p1 < b))) && (decide (p2 < m))) && (decide (p3 < c))))
set_option maxRecDepth 100000 in
set_option maxHeartbeats 1000000 in
theorem rholds_any (r s b m c p0 p1 p2 p3 : Int) (w : World) : Calls Try.prog 65 #[.agg #[.int .i64 r, .int .i64 s, .int .i64 b, .int .i64 m, .int .i64 c], .agg #[.int .i64 p0, .int .i64 p1, .int .i64 p2, .int .i64 p3]] w fun e w' => e = .returned (.bool (rholds r s b m c p0 p1 p2 p3)) ∧ Below w.heap.size w w' := by
  obtain ⟨b0, hb0⟩ : ∃ b0, w.heap.size = b0 := ⟨_, rfl⟩
  have HB0 := Lib.hid hb0
  have OW := Lib.hid (Own.start b0 w)
  have OZ := Lib.hid (And.intro hb0 (Nat.le_refl b0))
  clear hb0
  refine (callsIn_wide (n := 6)).1 ?_
  refine callsIn_of_wp_marks Try.func65 rfl trivial ?_ rfl
  simp only [Try.ntmps65, List.size_toArray, List.length_cons, List.length_nil, Nat.reduceAdd, Nat.reduceSub, Array.replicate_succ, Array.replicate_zero, List.push_toArray, List.append_toArray, List.nil_append, List.cons_append]
  gi_upto_region 1 with (first | (refine own_boxV 2 35 (.tmp 0) rfl rfl rfl (.agg #[.int .i64 r, .int .i64 s, .int .i64 b, .int .i64 m, .int .i64 c]) rfl #[.int .i64 r, .int .i64 s, .int .i64 b, .int .i64 m, .int .i64 c] rfl OW OZ ?_; clear OW OZ; intro W g1 OW OZ) | (refine own_boxV 3 29 (.tmp 1) rfl rfl rfl (.agg #[.int .i64 p0, .int .i64 p1, .int .i64 p2, .int .i64 p3]) rfl #[.int .i64 p0, .int .i64 p1, .int .i64 p2, .int .i64 p3] rfl OW OZ ?_; clear OW OZ; intro W g2 OW OZ))
  obtain ⟨eo31, qeo31⟩ : ∃ e, (rright r s b m c) = e := ⟨_, rfl⟩
  obtain ⟨eo36, qeo36⟩ : ∃ e, (decide (p0 < 0)) = e := ⟨_, rfl⟩
  obtain ⟨eo37, qeo37⟩ : ∃ e, ((!eo31) || eo36) = e := ⟨_, rfl⟩
  obtain ⟨eo311, qeo311⟩ : ∃ e, (decide (p1 < 0)) = e := ⟨_, rfl⟩
  obtain ⟨eo312, qeo312⟩ : ∃ e, (eo37 || eo311) = e := ⟨_, rfl⟩
  obtain ⟨eo316, qeo316⟩ : ∃ e, (decide (p2 < 0)) = e := ⟨_, rfl⟩
  obtain ⟨eo317, qeo317⟩ : ∃ e, (eo312 || eo316) = e := ⟨_, rfl⟩
  obtain ⟨eo321, qeo321⟩ : ∃ e, (decide (p3 < 0)) = e := ⟨_, rfl⟩
  obtain ⟨eo322, qeo322⟩ : ∃ e, (eo317 || eo321) = e := ⟨_, rfl⟩
  refine wpIn_region_heldL 23 (atD [[], [0], [1], [2], [3], [3, 4], [3, 5], [3, 6], [7], [8], [8, 9], [8, 10], [8, 11], [12], [13], [13, 14], [13, 15], [13, 16], [17], [18], [18, 19], [18, 20], [18, 21]]) (atV [fun vH _ => vH = .agg #[.int .i64 r, .int .i64 s, .int .i64 b, .int .i64 m, .int .i64 c], fun vH _ => vH = .bool eo31, fun vH _ => vH = .bool (!eo31), fun vH _ => vH = .bool (!eo31), cdV (True ∧ (!eo31) = false) (fun vH _ => vH = .pointer (some ⟨g1, 0, none⟩)), cdV (True ∧ (!eo31) = false) (fun vH _ => vH = .int .i64 p0), cdV (True ∧ (!eo31) = false) (fun vH _ => vH = .bool eo36), fun vH _ => vH = .bool eo37, fun vH _ => vH = .bool eo37, cdV (True ∧ eo37 = false) (fun vH _ => vH = .pointer (some ⟨g1, 1, none⟩)), cdV (True ∧ eo37 = false) (fun vH _ => vH = .int .i64 p1), cdV (True ∧ eo37 = false) (fun vH _ => vH = .bool eo311), fun vH _ => vH = .bool eo312, fun vH _ => vH = .bool eo312, cdV (True ∧ eo312 = false) (fun vH _ => vH = .pointer (some ⟨g1, 2, none⟩)), cdV (True ∧ eo312 = false) (fun vH _ => vH = .int .i64 p2), cdV (True ∧ eo312 = false) (fun vH _ => vH = .bool eo316), fun vH _ => vH = .bool eo317, fun vH _ => vH = .bool eo317, cdV (True ∧ eo317 = false) (fun vH _ => vH = .pointer (some ⟨g1, 3, none⟩)), cdV (True ∧ eo317 = false) (fun vH _ => vH = .int .i64 p3), cdV (True ∧ eo317 = false) (fun vH _ => vH = .bool eo321), fun vH _ => vH = .bool eo322]) BelowR (by kernel_rfl) BelowR.trans (BelowR.refl _)
    (StV.atV (.const _ (.const _ (.const _ (.const _ (.cons (fun v x y h _ => h) (.cons (fun v x y h _ => h) (.cons (fun v x y h _ => h) (.const _ (.const _ (.cons (fun v x y h _ => h) (.cons (fun v x y h _ => h) (.cons (fun v x y h _ => h) (.const _ (.const _ (.cons (fun v x y h _ => h) (.cons (fun v x y h _ => h) (.cons (fun v x y h _ => h) (.const _ (.const _ (.cons (fun v x y h _ => h) (.cons (fun v x y h _ => h) (.cons (fun v x y h _ => h) (.const _ .nil))))))))))))))))))))))))
    ⟨?o3x0, ?o3x1, ?o3x2, ?o3x3, ?o3x4, ?o3x5, ?o3x6, ?o3x7, ?o3x8, ?o3x9, ?o3x10, ?o3x11, ?o3x12, ?o3x13, ?o3x14, ?o3x15, ?o3x16, ?o3x17, ?o3x18, ?o3x19, ?o3x20, ?o3x21, ?o3x22, trivial⟩ ?_
  case o3x0 =>
    exact held_load free_wide rfl BelowR.refl 35 (.tmp 2) rfl fun xH w' kH hR => ⟨_, _, (pO (by kernel_rfl) rfl), ldS OW hR 0 rfl 5 rfl Try.underlying35 rfl rfl (by kernel_rfl), rfl⟩
  case o3x1 =>
    refine held_call free_wide rfl 40 _ _ rfl (enters_of Try.func40 (by kernel_rfl) rfl) fun xH w' kH hR => ⟨_, mapE1 (pT 0 (by kernel_rfl) (by kernel_rfl) (kH 0 (by decide))), ?_⟩
    refine (callsIn_wide.2 (rright_any r s b m c _)).mono ?_
    rintro e w2 ⟨rfl, h2⟩
    exact ⟨_, rfl, (congrArg Value.bool qeo31), h2⟩
  case o3x2 =>
    exact held_run free_wide rfl (by rfl) BelowR.refl fun xH w' kH hR => ⟨_, run_unO rfl (pT 1 (by kernel_rfl) (by kernel_rfl) (kH 1 (by decide))) rfl, rfl⟩
  case o3x3 =>
    exact held_move free_wide rfl BelowR.refl (.tmp 7) (.inl rfl) fun xH w' kH _ => (pT 2 (by kernel_rfl) (by kernel_rfl) (kH 2 (by decide)))
  case o3x4 =>
    refine held_guard free_wide 3 8 false True (!eo31) BelowR.refl rfl (by kernel_rfl) (by kernel_rfl) (by kernel_rfl) (fun xH w' kH => .inl ⟨trivial, kH 3 (by decide)⟩) (fun hC hG => ?_) (fun hN w' => .inr ⟨hN, rfl⟩)
    exact held_runG free_wide hG (by rfl) BelowR.refl fun xH w' kH hR => ⟨_, run_fldO rfl (pO (by kernel_rfl) rfl) (by kernel_rfl), (.inl ⟨hC, rfl⟩)⟩
  case o3x5 =>
    refine held_guard free_wide 3 8 false True (!eo31) BelowR.refl rfl (by kernel_rfl) (by kernel_rfl) (by kernel_rfl) (fun xH w' kH => .inl ⟨trivial, kH 3 (by decide)⟩) (fun hC hG => ?_) (fun hN w' => .inr ⟨hN, rfl⟩)
    exact held_loadG free_wide hG BelowR.refl 3 (.tmp 9) rfl fun xH w' kH hR => ⟨_, _, (pT 4 (by kernel_rfl) (by kernel_rfl) (cdAt (kH 4 (by decide)) rfl hC)), ldC OW hR 1 rfl rfl naInt, (.inl ⟨hC, rfl⟩)⟩
  case o3x6 =>
    refine held_guard free_wide 3 8 false True (!eo31) BelowR.refl rfl (by kernel_rfl) (by kernel_rfl) (by kernel_rfl) (fun xH w' kH => .inl ⟨trivial, kH 3 (by decide)⟩) (fun hC hG => ?_) (fun hN w' => .inr ⟨hN, rfl⟩)
    exact held_runG free_wide hG (by rfl) BelowR.refl fun xH w' kH hR => ⟨_, run_binO rfl (pT 5 (by kernel_rfl) (by kernel_rfl) (cdAt (kH 5 (by decide)) rfl hC)) rfl bin_lss, (.inl ⟨hC, congrArg Value.bool qeo36⟩)⟩
  case o3x7 =>
    exact held_run free_wide rfl (by rfl) BelowR.refl fun xH w' kH hR => ⟨_, run_pickOr rfl (pT 3 (by kernel_rfl) (by kernel_rfl) (kH 3 (by decide))) rfl (fun h => pT 6 (by kernel_rfl) (by kernel_rfl) (cdAt (kH 6 (by decide)) rfl (And.intro trivial h))), (congrArg Value.bool qeo37)⟩
  case o3x8 =>
    exact held_move free_wide rfl BelowR.refl (.tmp 12) (.inl rfl) fun xH w' kH _ => (pT 7 (by kernel_rfl) (by kernel_rfl) (kH 7 (by decide)))
  case o3x9 =>
    refine held_guard free_wide 8 13 false True eo37 BelowR.refl rfl (by kernel_rfl) (by kernel_rfl) (by kernel_rfl) (fun xH w' kH => .inl ⟨trivial, kH 8 (by decide)⟩) (fun hC hG => ?_) (fun hN w' => .inr ⟨hN, rfl⟩)
    exact held_runG free_wide hG (by rfl) BelowR.refl fun xH w' kH hR => ⟨_, run_fldO rfl (pO (by kernel_rfl) rfl) (by kernel_rfl), (.inl ⟨hC, rfl⟩)⟩
  case o3x10 =>
    refine held_guard free_wide 8 13 false True eo37 BelowR.refl rfl (by kernel_rfl) (by kernel_rfl) (by kernel_rfl) (fun xH w' kH => .inl ⟨trivial, kH 8 (by decide)⟩) (fun hC hG => ?_) (fun hN w' => .inr ⟨hN, rfl⟩)
    exact held_loadG free_wide hG BelowR.refl 3 (.tmp 14) rfl fun xH w' kH hR => ⟨_, _, (pT 9 (by kernel_rfl) (by kernel_rfl) (cdAt (kH 9 (by decide)) rfl hC)), ldC OW hR 1 rfl rfl naInt, (.inl ⟨hC, rfl⟩)⟩
  case o3x11 =>
    refine held_guard free_wide 8 13 false True eo37 BelowR.refl rfl (by kernel_rfl) (by kernel_rfl) (by kernel_rfl) (fun xH w' kH => .inl ⟨trivial, kH 8 (by decide)⟩) (fun hC hG => ?_) (fun hN w' => .inr ⟨hN, rfl⟩)
    exact held_runG free_wide hG (by rfl) BelowR.refl fun xH w' kH hR => ⟨_, run_binO rfl (pT 10 (by kernel_rfl) (by kernel_rfl) (cdAt (kH 10 (by decide)) rfl hC)) rfl bin_lss, (.inl ⟨hC, congrArg Value.bool qeo311⟩)⟩
  case o3x12 =>
    exact held_run free_wide rfl (by rfl) BelowR.refl fun xH w' kH hR => ⟨_, run_pickOr rfl (pT 8 (by kernel_rfl) (by kernel_rfl) (kH 8 (by decide))) rfl (fun h => pT 11 (by kernel_rfl) (by kernel_rfl) (cdAt (kH 11 (by decide)) rfl (And.intro trivial h))), (congrArg Value.bool qeo312)⟩
  case o3x13 =>
    exact held_move free_wide rfl BelowR.refl (.tmp 17) (.inl rfl) fun xH w' kH _ => (pT 12 (by kernel_rfl) (by kernel_rfl) (kH 12 (by decide)))
  case o3x14 =>
    refine held_guard free_wide 13 18 false True eo312 BelowR.refl rfl (by kernel_rfl) (by kernel_rfl) (by kernel_rfl) (fun xH w' kH => .inl ⟨trivial, kH 13 (by decide)⟩) (fun hC hG => ?_) (fun hN w' => .inr ⟨hN, rfl⟩)
    exact held_runG free_wide hG (by rfl) BelowR.refl fun xH w' kH hR => ⟨_, run_fldO rfl (pO (by kernel_rfl) rfl) (by kernel_rfl), (.inl ⟨hC, rfl⟩)⟩
  case o3x15 =>
    refine held_guard free_wide 13 18 false True eo312 BelowR.refl rfl (by kernel_rfl) (by kernel_rfl) (by kernel_rfl) (fun xH w' kH => .inl ⟨trivial, kH 13 (by decide)⟩) (fun hC hG => ?_) (fun hN w' => .inr ⟨hN, rfl⟩)
    exact held_loadG free_wide hG BelowR.refl 3 (.tmp 19) rfl fun xH w' kH hR => ⟨_, _, (pT 14 (by kernel_rfl) (by kernel_rfl) (cdAt (kH 14 (by decide)) rfl hC)), ldC OW hR 1 rfl rfl naInt, (.inl ⟨hC, rfl⟩)⟩
  case o3x16 =>
    refine held_guard free_wide 13 18 false True eo312 BelowR.refl rfl (by kernel_rfl) (by kernel_rfl) (by kernel_rfl) (fun xH w' kH => .inl ⟨trivial, kH 13 (by decide)⟩) (fun hC hG => ?_) (fun hN w' => .inr ⟨hN, rfl⟩)
    exact held_runG free_wide hG (by rfl) BelowR.refl fun xH w' kH hR => ⟨_, run_binO rfl (pT 15 (by kernel_rfl) (by kernel_rfl) (cdAt (kH 15 (by decide)) rfl hC)) rfl bin_lss, (.inl ⟨hC, congrArg Value.bool qeo316⟩)⟩
  case o3x17 =>
    exact held_run free_wide rfl (by rfl) BelowR.refl fun xH w' kH hR => ⟨_, run_pickOr rfl (pT 13 (by kernel_rfl) (by kernel_rfl) (kH 13 (by decide))) rfl (fun h => pT 16 (by kernel_rfl) (by kernel_rfl) (cdAt (kH 16 (by decide)) rfl (And.intro trivial h))), (congrArg Value.bool qeo317)⟩
  case o3x18 =>
    exact held_move free_wide rfl BelowR.refl (.tmp 22) (.inl rfl) fun xH w' kH _ => (pT 17 (by kernel_rfl) (by kernel_rfl) (kH 17 (by decide)))
  case o3x19 =>
    refine held_guard free_wide 18 23 false True eo317 BelowR.refl rfl (by kernel_rfl) (by kernel_rfl) (by kernel_rfl) (fun xH w' kH => .inl ⟨trivial, kH 18 (by decide)⟩) (fun hC hG => ?_) (fun hN w' => .inr ⟨hN, rfl⟩)
    exact held_runG free_wide hG (by rfl) BelowR.refl fun xH w' kH hR => ⟨_, run_fldO rfl (pO (by kernel_rfl) rfl) (by kernel_rfl), (.inl ⟨hC, rfl⟩)⟩
  case o3x20 =>
    refine held_guard free_wide 18 23 false True eo317 BelowR.refl rfl (by kernel_rfl) (by kernel_rfl) (by kernel_rfl) (fun xH w' kH => .inl ⟨trivial, kH 18 (by decide)⟩) (fun hC hG => ?_) (fun hN w' => .inr ⟨hN, rfl⟩)
    exact held_loadG free_wide hG BelowR.refl 3 (.tmp 24) rfl fun xH w' kH hR => ⟨_, _, (pT 19 (by kernel_rfl) (by kernel_rfl) (cdAt (kH 19 (by decide)) rfl hC)), ldC OW hR 1 rfl rfl naInt, (.inl ⟨hC, rfl⟩)⟩
  case o3x21 =>
    refine held_guard free_wide 18 23 false True eo317 BelowR.refl rfl (by kernel_rfl) (by kernel_rfl) (by kernel_rfl) (fun xH w' kH => .inl ⟨trivial, kH 18 (by decide)⟩) (fun hC hG => ?_) (fun hN w' => .inr ⟨hN, rfl⟩)
    exact held_runG free_wide hG (by rfl) BelowR.refl fun xH w' kH hR => ⟨_, run_binO rfl (pT 20 (by kernel_rfl) (by kernel_rfl) (cdAt (kH 20 (by decide)) rfl hC)) rfl bin_lss, (.inl ⟨hC, congrArg Value.bool qeo321⟩)⟩
  case o3x22 =>
    exact held_run free_wide rfl (by rfl) BelowR.refl fun xH w' kH hR => ⟨_, run_pickOr rfl (pT 18 (by kernel_rfl) (by kernel_rfl) (kH 18 (by decide))) rfl (fun h => pT 21 (by kernel_rfl) (by kernel_rfl) (cdAt (kH 21 (by decide)) rfl (And.intro trivial h))), (congrArg Value.bool qeo322)⟩
  intro xH w' hv hR
  subst qeo322 qeo321 qeo317 qeo316 qeo312 qeo311 qeo37 qeo36 qeo31
  have h0 : xH 0 = _ := hv 0 (by omega)
  have h1 : xH 1 = _ := hv 1 (by omega)
  have h2 : xH 2 = _ := hv 2 (by omega)
  have h3 : xH 3 = _ := hv 3 (by omega)
  have h7 : xH 7 = _ := hv 7 (by omega)
  have h8 : xH 8 = _ := hv 8 (by omega)
  have h12 : xH 12 = _ := hv 12 (by omega)
  have h13 : xH 13 = _ := hv 13 (by omega)
  have h17 : xH 17 = _ := hv 17 (by omega)
  have h18 : xH 18 = _ := hv 18 (by omega)
  have h22 : xH 22 = _ := hv 22 (by omega)
  simp only [List.take_succ_cons, List.take_zero, List.drop_succ_cons, List.drop_zero, putsH, Act.put, List.setIfInBounds_toArray, List.set_cons_succ, List.set_cons_zero, h0, h1, h2, h3, h7, h8, h12, h13, h17, h18, h22]
  have OW2 := Lib.hid (OW.out.step hR)
  clear hv hR OW OZ h0 h1 h2 h3 h7 h8 h12 h13 h17 h18 h22
  have OW := OW2
  clear OW2
  obtain ⟨g4, OZ⟩ := own_size OW HB0
  cases hB5 : (((((!(rright r s b m c)) || (decide (p0 < 0))) || (decide (p1 < 0))) || (decide (p2 < 0))) || (decide (p3 < 0)))
  case true =>
    gi_wp2
    refine leaves_own [] _ (Nat.le_of_eq HB0.out) (by simpa using OW.out) ?_
    intro W' hO
    exact ⟨.bool false, by simp [results, Try.results65, go_sem], (by simp only [rholds, hB5, cond_true, cond_false]), hO.done HB0⟩
  gi_upto_region 3 with fail
  obtain ⟨eo67, qeo67⟩ : ∃ e, (decide (p0 < (r + s))) = e := ⟨_, rfl⟩
  obtain ⟨eo613, qeo613⟩ : ∃ e, (decide (p1 < b)) = e := ⟨_, rfl⟩
  obtain ⟨eo614, qeo614⟩ : ∃ e, (eo67 && eo613) = e := ⟨_, rfl⟩
  obtain ⟨eo620, qeo620⟩ : ∃ e, (decide (p2 < m)) = e := ⟨_, rfl⟩
  obtain ⟨eo621, qeo621⟩ : ∃ e, (eo614 && eo620) = e := ⟨_, rfl⟩
  obtain ⟨eo627, qeo627⟩ : ∃ e, (decide (p3 < c)) = e := ⟨_, rfl⟩
  obtain ⟨eo628, qeo628⟩ : ∃ e, (eo621 && eo627) = e := ⟨_, rfl⟩
  refine wpIn_region_heldL 30 (atD [[], [0], [], [2], [], [4], [3, 5], [1, 6], [7], [8], [8, 9], [8], [8, 11], [8, 10, 12], [8, 13], [14], [15], [15, 16], [15], [15, 18], [15, 17, 19], [15, 20], [21], [22], [22, 23], [22], [22, 25], [22, 24, 26], [22, 27], [28]]) (atV [fun vH _ => vH = .pointer (some ⟨g1, 0, none⟩), fun vH _ => vH = .int .i64 p0, fun vH _ => vH = .pointer (some ⟨b0, 0, none⟩), fun vH _ => vH = .int .i64 r, fun vH _ => vH = .pointer (some ⟨b0, 1, none⟩), fun vH _ => vH = .int .i64 s, fun vH _ => vH = .int .i64 (r + s), fun vH _ => vH = .bool eo67, fun vH _ => vH = .bool eo67, cdV (True ∧ eo67 = true) (fun vH _ => vH = .pointer (some ⟨g1, 1, none⟩)), cdV (True ∧ eo67 = true) (fun vH _ => vH = .int .i64 p1), cdV (True ∧ eo67 = true) (fun vH _ => vH = .pointer (some ⟨b0, 2, none⟩)), cdV (True ∧ eo67 = true) (fun vH _ => vH = .int .i64 b), cdV (True ∧ eo67 = true) (fun vH _ => vH = .bool eo613), fun vH _ => vH = .bool eo614, fun vH _ => vH = .bool eo614, cdV (True ∧ eo614 = true) (fun vH _ => vH = .pointer (some ⟨g1, 2, none⟩)), cdV (True ∧ eo614 = true) (fun vH _ => vH = .int .i64 p2), cdV (True ∧ eo614 = true) (fun vH _ => vH = .pointer (some ⟨b0, 3, none⟩)), cdV (True ∧ eo614 = true) (fun vH _ => vH = .int .i64 m), cdV (True ∧ eo614 = true) (fun vH _ => vH = .bool eo620), fun vH _ => vH = .bool eo621, fun vH _ => vH = .bool eo621, cdV (True ∧ eo621 = true) (fun vH _ => vH = .pointer (some ⟨g1, 3, none⟩)), cdV (True ∧ eo621 = true) (fun vH _ => vH = .int .i64 p3), cdV (True ∧ eo621 = true) (fun vH _ => vH = .pointer (some ⟨b0, 4, none⟩)), cdV (True ∧ eo621 = true) (fun vH _ => vH = .int .i64 c), cdV (True ∧ eo621 = true) (fun vH _ => vH = .bool eo627), fun vH _ => vH = .bool eo628, fun vH _ => vH = .bool eo628]) BelowR (by kernel_rfl) BelowR.trans (BelowR.refl _)
    (StV.atV (.const _ (.const _ (.const _ (.const _ (.const _ (.const _ (.const _ (.const _ (.const _ (.cons (fun v x y h _ => h) (.cons (fun v x y h _ => h) (.cons (fun v x y h _ => h) (.cons (fun v x y h _ => h) (.cons (fun v x y h _ => h) (.const _ (.const _ (.cons (fun v x y h _ => h) (.cons (fun v x y h _ => h) (.cons (fun v x y h _ => h) (.cons (fun v x y h _ => h) (.cons (fun v x y h _ => h) (.const _ (.const _ (.cons (fun v x y h _ => h) (.cons (fun v x y h _ => h) (.cons (fun v x y h _ => h) (.cons (fun v x y h _ => h) (.cons (fun v x y h _ => h) (.const _ (.const _ .nil)))))))))))))))))))))))))))))))
    ⟨?o6x0, ?o6x1, ?o6x2, ?o6x3, ?o6x4, ?o6x5, ?o6x6, ?o6x7, ?o6x8, ?o6x9, ?o6x10, ?o6x11, ?o6x12, ?o6x13, ?o6x14, ?o6x15, ?o6x16, ?o6x17, ?o6x18, ?o6x19, ?o6x20, ?o6x21, ?o6x22, ?o6x23, ?o6x24, ?o6x25, ?o6x26, ?o6x27, ?o6x28, ?o6x29, trivial⟩ ?_
  case o6x0 =>
    exact held_run free_wide rfl (by rfl) BelowR.refl fun xH w' kH hR => ⟨_, run_fldO rfl (pO (by kernel_rfl) rfl) (by kernel_rfl), rfl⟩
  case o6x1 =>
    exact held_load free_wide rfl BelowR.refl 3 (.tmp 28) rfl fun xH w' kH hR => ⟨_, _, (pT 0 (by kernel_rfl) (by kernel_rfl) (kH 0 (by decide))), ldC OW hR 1 rfl rfl naInt, rfl⟩
  case o6x2 =>
    exact held_run free_wide rfl (by rfl) BelowR.refl fun xH w' kH hR => ⟨_, run_fldO rfl (pO (by kernel_rfl) rfl) (by kernel_rfl), rfl⟩
  case o6x3 =>
    exact held_load free_wide rfl BelowR.refl 3 (.tmp 30) rfl fun xH w' kH hR => ⟨_, _, (pT 2 (by kernel_rfl) (by kernel_rfl) (kH 2 (by decide))), ldC OW hR 0 rfl rfl naInt, rfl⟩
  case o6x4 =>
    exact held_run free_wide rfl (by rfl) BelowR.refl fun xH w' kH hR => ⟨_, run_fldO rfl (pO (by kernel_rfl) rfl) (by kernel_rfl), rfl⟩
  case o6x5 =>
    exact held_load free_wide rfl BelowR.refl 3 (.tmp 32) rfl fun xH w' kH hR => ⟨_, _, (pT 4 (by kernel_rfl) (by kernel_rfl) (kH 4 (by decide))), ldC OW hR 0 rfl rfl naInt, rfl⟩
  case o6x6 =>
    exact held_run free_wide rfl (by rfl) BelowR.refl fun xH w' kH hR => ⟨_, run_binO rfl (pT 3 (by kernel_rfl) (by kernel_rfl) (kH 3 (by decide))) (pT 5 (by kernel_rfl) (by kernel_rfl) (kH 5 (by decide))) (bin_add_in (by (have hb : rright r s b m c = true := (by simp_all); have h := rright_in hb; omega)) (by (have hb : rright r s b m c = true := (by simp_all); have h := rright_in hb; omega))), rfl⟩
  case o6x7 =>
    exact held_run free_wide rfl (by rfl) BelowR.refl fun xH w' kH hR => ⟨_, run_binO rfl (pT 1 (by kernel_rfl) (by kernel_rfl) (kH 1 (by decide))) (pT 6 (by kernel_rfl) (by kernel_rfl) (kH 6 (by decide))) bin_lss, (congrArg Value.bool qeo67)⟩
  case o6x8 =>
    exact held_move free_wide rfl BelowR.refl (.tmp 35) (.inl rfl) fun xH w' kH _ => (pT 7 (by kernel_rfl) (by kernel_rfl) (kH 7 (by decide)))
  case o6x9 =>
    refine held_guard free_wide 8 36 true True eo67 BelowR.refl rfl (by kernel_rfl) (by kernel_rfl) (by kernel_rfl) (fun xH w' kH => .inl ⟨trivial, kH 8 (by decide)⟩) (fun hC hG => ?_) (fun hN w' => .inr ⟨hN, rfl⟩)
    exact held_runG free_wide hG (by rfl) BelowR.refl fun xH w' kH hR => ⟨_, run_fldO rfl (pO (by kernel_rfl) rfl) (by kernel_rfl), (.inl ⟨hC, rfl⟩)⟩
  case o6x10 =>
    refine held_guard free_wide 8 36 true True eo67 BelowR.refl rfl (by kernel_rfl) (by kernel_rfl) (by kernel_rfl) (fun xH w' kH => .inl ⟨trivial, kH 8 (by decide)⟩) (fun hC hG => ?_) (fun hN w' => .inr ⟨hN, rfl⟩)
    exact held_loadG free_wide hG BelowR.refl 3 (.tmp 37) rfl fun xH w' kH hR => ⟨_, _, (pT 9 (by kernel_rfl) (by kernel_rfl) (cdAt (kH 9 (by decide)) rfl hC)), ldC OW hR 1 rfl rfl naInt, (.inl ⟨hC, rfl⟩)⟩
  case o6x11 =>
    refine held_guard free_wide 8 36 true True eo67 BelowR.refl rfl (by kernel_rfl) (by kernel_rfl) (by kernel_rfl) (fun xH w' kH => .inl ⟨trivial, kH 8 (by decide)⟩) (fun hC hG => ?_) (fun hN w' => .inr ⟨hN, rfl⟩)
    exact held_runG free_wide hG (by rfl) BelowR.refl fun xH w' kH hR => ⟨_, run_fldO rfl (pO (by kernel_rfl) rfl) (by kernel_rfl), (.inl ⟨hC, rfl⟩)⟩
  case o6x12 =>
    refine held_guard free_wide 8 36 true True eo67 BelowR.refl rfl (by kernel_rfl) (by kernel_rfl) (by kernel_rfl) (fun xH w' kH => .inl ⟨trivial, kH 8 (by decide)⟩) (fun hC hG => ?_) (fun hN w' => .inr ⟨hN, rfl⟩)
    exact held_loadG free_wide hG BelowR.refl 3 (.tmp 39) rfl fun xH w' kH hR => ⟨_, _, (pT 11 (by kernel_rfl) (by kernel_rfl) (cdAt (kH 11 (by decide)) rfl hC)), ldC OW hR 0 rfl rfl naInt, (.inl ⟨hC, rfl⟩)⟩
  case o6x13 =>
    refine held_guard free_wide 8 36 true True eo67 BelowR.refl rfl (by kernel_rfl) (by kernel_rfl) (by kernel_rfl) (fun xH w' kH => .inl ⟨trivial, kH 8 (by decide)⟩) (fun hC hG => ?_) (fun hN w' => .inr ⟨hN, rfl⟩)
    exact held_runG free_wide hG (by rfl) BelowR.refl fun xH w' kH hR => ⟨_, run_binO rfl (pT 10 (by kernel_rfl) (by kernel_rfl) (cdAt (kH 10 (by decide)) rfl hC)) (pT 12 (by kernel_rfl) (by kernel_rfl) (cdAt (kH 12 (by decide)) rfl hC)) bin_lss, (.inl ⟨hC, congrArg Value.bool qeo613⟩)⟩
  case o6x14 =>
    exact held_run free_wide rfl (by rfl) BelowR.refl fun xH w' kH hR => ⟨_, run_pickAnd rfl (pT 8 (by kernel_rfl) (by kernel_rfl) (kH 8 (by decide))) rfl (fun h => pT 13 (by kernel_rfl) (by kernel_rfl) (cdAt (kH 13 (by decide)) rfl (And.intro trivial h))), (congrArg Value.bool qeo614)⟩
  case o6x15 =>
    exact held_move free_wide rfl BelowR.refl (.tmp 42) (.inl rfl) fun xH w' kH _ => (pT 14 (by kernel_rfl) (by kernel_rfl) (kH 14 (by decide)))
  case o6x16 =>
    refine held_guard free_wide 15 43 true True eo614 BelowR.refl rfl (by kernel_rfl) (by kernel_rfl) (by kernel_rfl) (fun xH w' kH => .inl ⟨trivial, kH 15 (by decide)⟩) (fun hC hG => ?_) (fun hN w' => .inr ⟨hN, rfl⟩)
    exact held_runG free_wide hG (by rfl) BelowR.refl fun xH w' kH hR => ⟨_, run_fldO rfl (pO (by kernel_rfl) rfl) (by kernel_rfl), (.inl ⟨hC, rfl⟩)⟩
  case o6x17 =>
    refine held_guard free_wide 15 43 true True eo614 BelowR.refl rfl (by kernel_rfl) (by kernel_rfl) (by kernel_rfl) (fun xH w' kH => .inl ⟨trivial, kH 15 (by decide)⟩) (fun hC hG => ?_) (fun hN w' => .inr ⟨hN, rfl⟩)
    exact held_loadG free_wide hG BelowR.refl 3 (.tmp 44) rfl fun xH w' kH hR => ⟨_, _, (pT 16 (by kernel_rfl) (by kernel_rfl) (cdAt (kH 16 (by decide)) rfl hC)), ldC OW hR 1 rfl rfl naInt, (.inl ⟨hC, rfl⟩)⟩
  case o6x18 =>
    refine held_guard free_wide 15 43 true True eo614 BelowR.refl rfl (by kernel_rfl) (by kernel_rfl) (by kernel_rfl) (fun xH w' kH => .inl ⟨trivial, kH 15 (by decide)⟩) (fun hC hG => ?_) (fun hN w' => .inr ⟨hN, rfl⟩)
    exact held_runG free_wide hG (by rfl) BelowR.refl fun xH w' kH hR => ⟨_, run_fldO rfl (pO (by kernel_rfl) rfl) (by kernel_rfl), (.inl ⟨hC, rfl⟩)⟩
  case o6x19 =>
    refine held_guard free_wide 15 43 true True eo614 BelowR.refl rfl (by kernel_rfl) (by kernel_rfl) (by kernel_rfl) (fun xH w' kH => .inl ⟨trivial, kH 15 (by decide)⟩) (fun hC hG => ?_) (fun hN w' => .inr ⟨hN, rfl⟩)
    exact held_loadG free_wide hG BelowR.refl 3 (.tmp 46) rfl fun xH w' kH hR => ⟨_, _, (pT 18 (by kernel_rfl) (by kernel_rfl) (cdAt (kH 18 (by decide)) rfl hC)), ldC OW hR 0 rfl rfl naInt, (.inl ⟨hC, rfl⟩)⟩
  case o6x20 =>
    refine held_guard free_wide 15 43 true True eo614 BelowR.refl rfl (by kernel_rfl) (by kernel_rfl) (by kernel_rfl) (fun xH w' kH => .inl ⟨trivial, kH 15 (by decide)⟩) (fun hC hG => ?_) (fun hN w' => .inr ⟨hN, rfl⟩)
    exact held_runG free_wide hG (by rfl) BelowR.refl fun xH w' kH hR => ⟨_, run_binO rfl (pT 17 (by kernel_rfl) (by kernel_rfl) (cdAt (kH 17 (by decide)) rfl hC)) (pT 19 (by kernel_rfl) (by kernel_rfl) (cdAt (kH 19 (by decide)) rfl hC)) bin_lss, (.inl ⟨hC, congrArg Value.bool qeo620⟩)⟩
  case o6x21 =>
    exact held_run free_wide rfl (by rfl) BelowR.refl fun xH w' kH hR => ⟨_, run_pickAnd rfl (pT 15 (by kernel_rfl) (by kernel_rfl) (kH 15 (by decide))) rfl (fun h => pT 20 (by kernel_rfl) (by kernel_rfl) (cdAt (kH 20 (by decide)) rfl (And.intro trivial h))), (congrArg Value.bool qeo621)⟩
  case o6x22 =>
    exact held_move free_wide rfl BelowR.refl (.tmp 49) (.inl rfl) fun xH w' kH _ => (pT 21 (by kernel_rfl) (by kernel_rfl) (kH 21 (by decide)))
  case o6x23 =>
    refine held_guard free_wide 22 50 true True eo621 BelowR.refl rfl (by kernel_rfl) (by kernel_rfl) (by kernel_rfl) (fun xH w' kH => .inl ⟨trivial, kH 22 (by decide)⟩) (fun hC hG => ?_) (fun hN w' => .inr ⟨hN, rfl⟩)
    exact held_runG free_wide hG (by rfl) BelowR.refl fun xH w' kH hR => ⟨_, run_fldO rfl (pO (by kernel_rfl) rfl) (by kernel_rfl), (.inl ⟨hC, rfl⟩)⟩
  case o6x24 =>
    refine held_guard free_wide 22 50 true True eo621 BelowR.refl rfl (by kernel_rfl) (by kernel_rfl) (by kernel_rfl) (fun xH w' kH => .inl ⟨trivial, kH 22 (by decide)⟩) (fun hC hG => ?_) (fun hN w' => .inr ⟨hN, rfl⟩)
    exact held_loadG free_wide hG BelowR.refl 3 (.tmp 51) rfl fun xH w' kH hR => ⟨_, _, (pT 23 (by kernel_rfl) (by kernel_rfl) (cdAt (kH 23 (by decide)) rfl hC)), ldC OW hR 1 rfl rfl naInt, (.inl ⟨hC, rfl⟩)⟩
  case o6x25 =>
    refine held_guard free_wide 22 50 true True eo621 BelowR.refl rfl (by kernel_rfl) (by kernel_rfl) (by kernel_rfl) (fun xH w' kH => .inl ⟨trivial, kH 22 (by decide)⟩) (fun hC hG => ?_) (fun hN w' => .inr ⟨hN, rfl⟩)
    exact held_runG free_wide hG (by rfl) BelowR.refl fun xH w' kH hR => ⟨_, run_fldO rfl (pO (by kernel_rfl) rfl) (by kernel_rfl), (.inl ⟨hC, rfl⟩)⟩
  case o6x26 =>
    refine held_guard free_wide 22 50 true True eo621 BelowR.refl rfl (by kernel_rfl) (by kernel_rfl) (by kernel_rfl) (fun xH w' kH => .inl ⟨trivial, kH 22 (by decide)⟩) (fun hC hG => ?_) (fun hN w' => .inr ⟨hN, rfl⟩)
    exact held_loadG free_wide hG BelowR.refl 3 (.tmp 53) rfl fun xH w' kH hR => ⟨_, _, (pT 25 (by kernel_rfl) (by kernel_rfl) (cdAt (kH 25 (by decide)) rfl hC)), ldC OW hR 0 rfl rfl naInt, (.inl ⟨hC, rfl⟩)⟩
  case o6x27 =>
    refine held_guard free_wide 22 50 true True eo621 BelowR.refl rfl (by kernel_rfl) (by kernel_rfl) (by kernel_rfl) (fun xH w' kH => .inl ⟨trivial, kH 22 (by decide)⟩) (fun hC hG => ?_) (fun hN w' => .inr ⟨hN, rfl⟩)
    exact held_runG free_wide hG (by rfl) BelowR.refl fun xH w' kH hR => ⟨_, run_binO rfl (pT 24 (by kernel_rfl) (by kernel_rfl) (cdAt (kH 24 (by decide)) rfl hC)) (pT 26 (by kernel_rfl) (by kernel_rfl) (cdAt (kH 26 (by decide)) rfl hC)) bin_lss, (.inl ⟨hC, congrArg Value.bool qeo627⟩)⟩
  case o6x28 =>
    exact held_run free_wide rfl (by rfl) BelowR.refl fun xH w' kH hR => ⟨_, run_pickAnd rfl (pT 22 (by kernel_rfl) (by kernel_rfl) (kH 22 (by decide))) rfl (fun h => pT 27 (by kernel_rfl) (by kernel_rfl) (cdAt (kH 27 (by decide)) rfl (And.intro trivial h))), (congrArg Value.bool qeo628)⟩
  case o6x29 =>
    exact held_move free_wide rfl BelowR.refl (.tmp 56) (.inr rfl) fun xH w' kH _ => (pT 28 (by kernel_rfl) (by kernel_rfl) (kH 28 (by decide)))
  intro xH w' hv hR
  subst qeo628 qeo627 qeo621 qeo620 qeo614 qeo613 qeo67
  have h0 : xH 0 = _ := hv 0 (by omega)
  have h1 : xH 1 = _ := hv 1 (by omega)
  have h2 : xH 2 = _ := hv 2 (by omega)
  have h3 : xH 3 = _ := hv 3 (by omega)
  have h4 : xH 4 = _ := hv 4 (by omega)
  have h5 : xH 5 = _ := hv 5 (by omega)
  have h6 : xH 6 = _ := hv 6 (by omega)
  have h7 : xH 7 = _ := hv 7 (by omega)
  have h8 : xH 8 = _ := hv 8 (by omega)
  have h14 : xH 14 = _ := hv 14 (by omega)
  have h15 : xH 15 = _ := hv 15 (by omega)
  have h21 : xH 21 = _ := hv 21 (by omega)
  have h22 : xH 22 = _ := hv 22 (by omega)
  have h28 : xH 28 = _ := hv 28 (by omega)
  have h29 : xH 29 = _ := hv 29 (by omega)
  simp only [List.take_succ_cons, List.take_zero, List.drop_succ_cons, List.drop_zero, putsH, Act.put, List.setIfInBounds_toArray, List.set_cons_succ, List.set_cons_zero, h0, h1, h2, h3, h4, h5, h6, h7, h8, h14, h15, h21, h22, h28, h29]
  have OW2 := Lib.hid (OW.out.step hR)
  clear hv hR OW OZ h0 h1 h2 h3 h4 h5 h6 h7 h8 h14 h15 h21 h22 h28 h29
  have OW := OW2
  clear OW2
  obtain ⟨g7, OZ⟩ := own_size OW HB0
  gi_wp2
  refine leaves_own [] _ (Nat.le_of_eq HB0.out) (by simpa using OW.out) ?_
  intro W' hO
  exact ⟨.bool ((((decide (p0 < (r + s))) && (decide (p1 < b))) && (decide (p2 < m))) && (decide (p3 < c))), by simp [results, Try.results65, go_sem], (by simp only [rholds, hB5, cond_true, cond_false]), hO.done HB0⟩
def fright11 (k p0 p1 p2 p3 c b v r s n m l mode : Int) : Bool := (bif (((((((((((chN mode : Nat) : Int) == 0) || (decide (k < 1))) || (decide (7 < k))) || (!(rholds r s n m l p0 p1 p2 p3))) || (decide (c < 0))) || (decide (((chN mode : Nat) : Int) ≤ c))) || (decide (b < 0))) || (decide (575 < b))) || (decide (v < 0))) || (decide (255 < v)) then false else (bif k == 1 then ((c == 0) && (v == 0)) else (bif k == 2 then ((c == 0) && (decide (v ≤ 1))) else (bif b != 0 then false else (bif k == 3 then (p3 == 0) else (bif k == 4 then (p2 == 0) else (bif k == 5 then (((p1 == 0) && (p2 == 0)) && (p3 == 0)) else (bif (c != 0) || (v != 0) then false else ((k == 6) || (decide ([p0, p1, p2, p3] = [0, 0, 0, 0])))))))))))
def flies11 (k p0 p1 p2 p3 c b v q0 q1 q2 q3 : Int) : Bool := (bif (k == 1) || (k == 2) then (decide ([q0, q1, q2, q3] = [p0, p1, p2, p3])) else (bif k == 3 then (((q0 == p0) && (q1 == p1)) && (q2 == p2)) else (bif k == 4 then (((q0 == p0) && (q1 == p1)) && (q3 == p3)) else ((k == 5) && (q0 == p0)))))
set_option maxRecDepth 100000 in
set_option maxHeartbeats 1000000 in
theorem flies11_any (k p0 p1 p2 p3 c b v q0 q1 q2 q3 : Int) (w : World) : Calls Try.prog 21 #[.agg #[.int .i64 k, .int .i64 p0, .int .i64 p1, .int .i64 p2, .int .i64 p3, .int .i64 c, .int .i64 b, .int .i64 v], .agg #[.int .i64 q0, .int .i64 q1, .int .i64 q2, .int .i64 q3]] w fun e w' => e = .returned (.bool (flies11 k p0 p1 p2 p3 c b v q0 q1 q2 q3)) ∧ Below w.heap.size w w' := by
  obtain ⟨b0, hb0⟩ : ∃ b0, w.heap.size = b0 := ⟨_, rfl⟩
  have HB0 := Lib.hid hb0
  have OW := Lib.hid (Own.start b0 w)
  have OZ := Lib.hid (And.intro hb0 (Nat.le_refl b0))
  clear hb0
  refine (callsIn_wide (n := 6)).1 ?_
  refine callsIn_of_wp_marks Try.func21 rfl trivial ?_ rfl
  simp only [Try.ntmps21, List.size_toArray, List.length_cons, List.length_nil, Nat.reduceAdd, Nat.reduceSub, Array.replicate_succ, Array.replicate_zero, List.push_toArray, List.append_toArray, List.nil_append, List.cons_append]
  gi_upto_region 2 with (first | (refine own_boxV 2 31 (.tmp 0) rfl rfl rfl (.agg #[.int .i64 k, .int .i64 p0, .int .i64 p1, .int .i64 p2, .int .i64 p3, .int .i64 c, .int .i64 b, .int .i64 v]) rfl #[.int .i64 k, .int .i64 p0, .int .i64 p1, .int .i64 p2, .int .i64 p3, .int .i64 c, .int .i64 b, .int .i64 v] rfl OW OZ ?_; clear OW OZ; intro W g1 OW OZ) | (refine own_boxV 3 29 (.tmp 1) rfl rfl rfl (.agg #[.int .i64 q0, .int .i64 q1, .int .i64 q2, .int .i64 q3]) rfl #[.int .i64 q0, .int .i64 q1, .int .i64 q2, .int .i64 q3] rfl OW OZ ?_; clear OW OZ; intro W g2 OW OZ) | (refine own_loadSubV 7 0 1 29 (.tmp 6) rfl rfl rfl rfl rfl [.int .i64 p0, .int .i64 p1, .int .i64 p2, .int .i64 p3] rfl Try.underlying29 rfl (by kernel_rfl) OW ?_) | (refine own_allocV 5 29 rfl rfl rfl #[.int .i64 0, .int .i64 0, .int .i64 0, .int .i64 0] (fun _ => by kernel_rfl) OW OZ ?_; clear OW OZ; intro W g3 OW OZ) | (refine own_storeSub 2 0 29 (.tmp 5) (.tmp 7) rfl rfl rfl rfl [.int .i64 p0, .int .i64 p1, .int .i64 p2, .int .i64 p3] rfl (Nat.le_of_ble_eq_true rfl) rfl (by kernel_rfl) #[.int .i64 p0, .int .i64 p1, .int .i64 p2, .int .i64 p3] rfl _ rfl OW OZ ?_; clear OW OZ; intro W OW OZ))
  obtain ⟨eo47, qeo47⟩ : ∃ e, ((k == 1) || (k == 2)) = e := ⟨_, rfl⟩
  refine wpIn_region_heldL 8 (atD [[], [0], [1], [2], [3], [3, 4], [3, 5], [3, 6]]) (atV [fun vH _ => vH = .pointer (some ⟨b0, 0, none⟩), fun vH _ => vH = .int .i64 k, fun vH _ => vH = .bool (k == 1), fun vH _ => vH = .bool (k == 1), cdV (True ∧ (k == 1) = false) (fun vH _ => vH = .pointer (some ⟨b0, 0, none⟩)), cdV (True ∧ (k == 1) = false) (fun vH _ => vH = .int .i64 k), cdV (True ∧ (k == 1) = false) (fun vH _ => vH = .bool (k == 2)), fun vH _ => vH = .bool eo47]) BelowR (by kernel_rfl) BelowR.trans (BelowR.refl _)
    (StV.atV (.const _ (.const _ (.const _ (.const _ (.cons (fun v x y h _ => h) (.cons (fun v x y h _ => h) (.cons (fun v x y h _ => h) (.const _ .nil)))))))))
    ⟨?o4x0, ?o4x1, ?o4x2, ?o4x3, ?o4x4, ?o4x5, ?o4x6, ?o4x7, trivial⟩ ?_
  case o4x0 =>
    exact held_run free_wide rfl (by rfl) BelowR.refl fun xH w' kH hR => ⟨_, run_fldO rfl (pO (by kernel_rfl) rfl) (by kernel_rfl), rfl⟩
  case o4x1 =>
    exact held_load free_wide rfl BelowR.refl 3 (.tmp 8) rfl fun xH w' kH hR => ⟨_, _, (pT 0 (by kernel_rfl) (by kernel_rfl) (kH 0 (by decide))), ldC OW hR 0 rfl rfl naInt, rfl⟩
  case o4x2 =>
    exact held_run free_wide rfl (by rfl) BelowR.refl fun xH w' kH hR => ⟨_, run_binO rfl (pT 1 (by kernel_rfl) (by kernel_rfl) (kH 1 (by decide))) rfl bin_eql, rfl⟩
  case o4x3 =>
    exact held_move free_wide rfl BelowR.refl (.tmp 10) (.inl rfl) fun xH w' kH _ => (pT 2 (by kernel_rfl) (by kernel_rfl) (kH 2 (by decide)))
  case o4x4 =>
    refine held_guard free_wide 3 11 false True (k == 1) BelowR.refl rfl (by kernel_rfl) (by kernel_rfl) (by kernel_rfl) (fun xH w' kH => .inl ⟨trivial, kH 3 (by decide)⟩) (fun hC hG => ?_) (fun hN w' => .inr ⟨hN, rfl⟩)
    exact held_runG free_wide hG (by rfl) BelowR.refl fun xH w' kH hR => ⟨_, run_fldO rfl (pO (by kernel_rfl) rfl) (by kernel_rfl), (.inl ⟨hC, rfl⟩)⟩
  case o4x5 =>
    refine held_guard free_wide 3 11 false True (k == 1) BelowR.refl rfl (by kernel_rfl) (by kernel_rfl) (by kernel_rfl) (fun xH w' kH => .inl ⟨trivial, kH 3 (by decide)⟩) (fun hC hG => ?_) (fun hN w' => .inr ⟨hN, rfl⟩)
    exact held_loadG free_wide hG BelowR.refl 3 (.tmp 12) rfl fun xH w' kH hR => ⟨_, _, (pT 4 (by kernel_rfl) (by kernel_rfl) (cdAt (kH 4 (by decide)) rfl hC)), ldC OW hR 0 rfl rfl naInt, (.inl ⟨hC, rfl⟩)⟩
  case o4x6 =>
    refine held_guard free_wide 3 11 false True (k == 1) BelowR.refl rfl (by kernel_rfl) (by kernel_rfl) (by kernel_rfl) (fun xH w' kH => .inl ⟨trivial, kH 3 (by decide)⟩) (fun hC hG => ?_) (fun hN w' => .inr ⟨hN, rfl⟩)
    exact held_runG free_wide hG (by rfl) BelowR.refl fun xH w' kH hR => ⟨_, run_binO rfl (pT 5 (by kernel_rfl) (by kernel_rfl) (cdAt (kH 5 (by decide)) rfl hC)) rfl bin_eql, (.inl ⟨hC, rfl⟩)⟩
  case o4x7 =>
    exact held_run free_wide rfl (by rfl) BelowR.refl fun xH w' kH hR => ⟨_, run_pickOr rfl (pT 3 (by kernel_rfl) (by kernel_rfl) (kH 3 (by decide))) rfl (fun h => pT 6 (by kernel_rfl) (by kernel_rfl) (cdAt (kH 6 (by decide)) rfl (And.intro trivial h))), (congrArg Value.bool qeo47)⟩
  intro xH w' hv hR
  subst qeo47
  have h0 : xH 0 = _ := hv 0 (by omega)
  have h1 : xH 1 = _ := hv 1 (by omega)
  have h2 : xH 2 = _ := hv 2 (by omega)
  have h3 : xH 3 = _ := hv 3 (by omega)
  have h7 : xH 7 = _ := hv 7 (by omega)
  simp only [List.take_succ_cons, List.take_zero, List.drop_succ_cons, List.drop_zero, putsH, Act.put, List.setIfInBounds_toArray, List.set_cons_succ, List.set_cons_zero, h0, h1, h2, h3, h7]
  have OW2 := Lib.hid (OW.out.step hR)
  clear hv hR OW OZ h0 h1 h2 h3 h7
  have OW := OW2
  clear OW2
  obtain ⟨g5, OZ⟩ := own_size OW HB0
  cases hB6 : ((k == 1) || (k == 2))
  case true =>
    gi_upto_region 3 with fail
    obtain ⟨eo72, qeo72⟩ : ∃ e, (decide ([q0, q1, q2, q3] = [p0, p1, p2, p3])) = e := ⟨_, rfl⟩
    refine wpIn_region_heldL 4 (atD [[], [], [0, 1], [2]]) (atV [fun vH _ => vH = .agg #[.int .i64 q0, .int .i64 q1, .int .i64 q2, .int .i64 q3], fun vH _ => vH = .agg #[.int .i64 p0, .int .i64 p1, .int .i64 p2, .int .i64 p3], fun vH _ => vH = .bool eo72, fun vH _ => vH = .bool eo72]) BelowR (by kernel_rfl) BelowR.trans (BelowR.refl _)
      (StV.atV (.const _ (.const _ (.const _ (.const _ .nil)))))
      ⟨?o7x0, ?o7x1, ?o7x2, ?o7x3, trivial⟩ ?_
    case o7x0 =>
      exact held_load free_wide rfl BelowR.refl 29 (.tmp 3) rfl fun xH w' kH hR => ⟨_, _, (pO (by kernel_rfl) rfl), ldS OW hR 1 rfl 4 rfl Try.underlying29 rfl rfl (by kernel_rfl), rfl⟩
    case o7x1 =>
      exact held_load free_wide rfl BelowR.refl 29 (.tmp 5) rfl fun xH w' kH hR => ⟨_, _, (pO (by kernel_rfl) rfl), ldS OW hR 2 rfl 4 rfl Try.underlying29 rfl rfl (by kernel_rfl), rfl⟩
    case o7x2 =>
      exact held_run free_wide rfl (by rfl) BelowR.refl fun xH w' kH hR => ⟨_, run_binO rfl (pT 0 (by kernel_rfl) (by kernel_rfl) (kH 0 (by decide))) (pT 1 (by kernel_rfl) (by kernel_rfl) (kH 1 (by decide))) (eql_P (l := [q0, q1, q2, q3]) (m := [p0, p1, p2, p3]) rfl rfl), (congrArg Value.bool qeo72)⟩
    case o7x3 =>
      exact held_move free_wide rfl BelowR.refl (.tmp 18) (.inr rfl) fun xH w' kH _ => (pT 2 (by kernel_rfl) (by kernel_rfl) (kH 2 (by decide)))
    intro xH w' hv hR
    subst qeo72
    have h0 : xH 0 = _ := hv 0 (by omega)
    have h1 : xH 1 = _ := hv 1 (by omega)
    have h2 : xH 2 = _ := hv 2 (by omega)
    have h3 : xH 3 = _ := hv 3 (by omega)
    simp only [List.take_succ_cons, List.take_zero, List.drop_succ_cons, List.drop_zero, putsH, Act.put, List.setIfInBounds_toArray, List.set_cons_succ, List.set_cons_zero, h0, h1, h2, h3]
    have OW2 := Lib.hid (OW.out.step hR)
    clear hv hR OW OZ h0 h1 h2 h3
    have OW := OW2
    clear OW2
    obtain ⟨g8, OZ⟩ := own_size OW HB0
    gi_wp2
    refine leaves_own [] _ (Nat.le_of_eq HB0.out) (by simpa using OW.out) ?_
    intro W' hO
    exact ⟨.bool (decide ([q0, q1, q2, q3] = [p0, p1, p2, p3])), by simp [results, Try.results21, go_sem], (by simp only [flies11, hB6, cond_true, cond_false]), hO.done HB0⟩
  gi_upto_region 4 with fail
  refine wpIn_region_heldL 3 (atD [[], [0], [1]]) (atV [fun vH _ => vH = .pointer (some ⟨b0, 0, none⟩), fun vH _ => vH = .int .i64 k, fun vH _ => vH = .bool (k == 3)]) BelowR (by kernel_rfl) BelowR.trans (BelowR.refl _)
    (StV.atV (.const _ (.const _ (.const _ .nil))))
    ⟨?o9x0, ?o9x1, ?o9x2, trivial⟩ ?_
  case o9x0 =>
    exact held_run free_wide rfl (by rfl) BelowR.refl fun xH w' kH hR => ⟨_, run_fldO rfl (pO (by kernel_rfl) rfl) (by kernel_rfl), rfl⟩
  case o9x1 =>
    exact held_load free_wide rfl BelowR.refl 3 (.tmp 19) rfl fun xH w' kH hR => ⟨_, _, (pT 0 (by kernel_rfl) (by kernel_rfl) (kH 0 (by decide))), ldC OW hR 0 rfl rfl naInt, rfl⟩
  case o9x2 =>
    exact held_run free_wide rfl (by rfl) BelowR.refl fun xH w' kH hR => ⟨_, run_binO rfl (pT 1 (by kernel_rfl) (by kernel_rfl) (kH 1 (by decide))) rfl bin_eql, rfl⟩
  intro xH w' hv hR
  have h0 : xH 0 = _ := hv 0 (by omega)
  have h1 : xH 1 = _ := hv 1 (by omega)
  have h2 : xH 2 = _ := hv 2 (by omega)
  simp only [List.take_succ_cons, List.take_zero, List.drop_succ_cons, List.drop_zero, putsH, Act.put, List.setIfInBounds_toArray, List.set_cons_succ, List.set_cons_zero, h0, h1, h2]
  have OW2 := Lib.hid (OW.out.step hR)
  clear hv hR OW OZ h0 h1 h2
  have OW := OW2
  clear OW2
  obtain ⟨g10, OZ⟩ := own_size OW HB0
  cases hB11 : (k == 3)
  case true =>
    gi_upto_region 5 with fail
    obtain ⟨eo1211, qeo1211⟩ : ∃ e, ((q0 == p0) && (q1 == p1)) = e := ⟨_, rfl⟩
    obtain ⟨eo1218, qeo1218⟩ : ∃ e, (eo1211 && (q2 == p2)) = e := ⟨_, rfl⟩
    refine wpIn_region_heldL 20 (atD [[], [0], [], [2], [1, 3], [4], [5], [5, 6], [5], [5, 8], [5, 7, 9], [5, 10], [11], [12], [12, 13], [12], [12, 15], [12, 14, 16], [12, 17], [18]]) (atV [fun vH _ => vH = .pointer (some ⟨g1, 0, none⟩), fun vH _ => vH = .int .i64 q0, fun vH _ => vH = .pointer (some ⟨g2, 0, none⟩), fun vH _ => vH = .int .i64 p0, fun vH _ => vH = .bool (q0 == p0), fun vH _ => vH = .bool (q0 == p0), cdV (True ∧ (q0 == p0) = true) (fun vH _ => vH = .pointer (some ⟨g1, 1, none⟩)), cdV (True ∧ (q0 == p0) = true) (fun vH _ => vH = .int .i64 q1), cdV (True ∧ (q0 == p0) = true) (fun vH _ => vH = .pointer (some ⟨g2, 1, none⟩)), cdV (True ∧ (q0 == p0) = true) (fun vH _ => vH = .int .i64 p1), cdV (True ∧ (q0 == p0) = true) (fun vH _ => vH = .bool (q1 == p1)), fun vH _ => vH = .bool eo1211, fun vH _ => vH = .bool eo1211, cdV (True ∧ eo1211 = true) (fun vH _ => vH = .pointer (some ⟨g1, 2, none⟩)), cdV (True ∧ eo1211 = true) (fun vH _ => vH = .int .i64 q2), cdV (True ∧ eo1211 = true) (fun vH _ => vH = .pointer (some ⟨g2, 2, none⟩)), cdV (True ∧ eo1211 = true) (fun vH _ => vH = .int .i64 p2), cdV (True ∧ eo1211 = true) (fun vH _ => vH = .bool (q2 == p2)), fun vH _ => vH = .bool eo1218, fun vH _ => vH = .bool eo1218]) BelowR (by kernel_rfl) BelowR.trans (BelowR.refl _)
      (StV.atV (.const _ (.const _ (.const _ (.const _ (.const _ (.const _ (.cons (fun v x y h _ => h) (.cons (fun v x y h _ => h) (.cons (fun v x y h _ => h) (.cons (fun v x y h _ => h) (.cons (fun v x y h _ => h) (.const _ (.const _ (.cons (fun v x y h _ => h) (.cons (fun v x y h _ => h) (.cons (fun v x y h _ => h) (.cons (fun v x y h _ => h) (.cons (fun v x y h _ => h) (.const _ (.const _ .nil)))))))))))))))))))))
      ⟨?o12x0, ?o12x1, ?o12x2, ?o12x3, ?o12x4, ?o12x5, ?o12x6, ?o12x7, ?o12x8, ?o12x9, ?o12x10, ?o12x11, ?o12x12, ?o12x13, ?o12x14, ?o12x15, ?o12x16, ?o12x17, ?o12x18, ?o12x19, trivial⟩ ?_
    case o12x0 =>
      exact held_run free_wide rfl (by rfl) BelowR.refl fun xH w' kH hR => ⟨_, run_fldO rfl (pO (by kernel_rfl) rfl) (by kernel_rfl), rfl⟩
    case o12x1 =>
      exact held_load free_wide rfl BelowR.refl 3 (.tmp 22) rfl fun xH w' kH hR => ⟨_, _, (pT 0 (by kernel_rfl) (by kernel_rfl) (kH 0 (by decide))), ldC OW hR 1 rfl rfl naInt, rfl⟩
    case o12x2 =>
      exact held_run free_wide rfl (by rfl) BelowR.refl fun xH w' kH hR => ⟨_, run_fldO rfl (pO (by kernel_rfl) rfl) (by kernel_rfl), rfl⟩
    case o12x3 =>
      exact held_load free_wide rfl BelowR.refl 3 (.tmp 24) rfl fun xH w' kH hR => ⟨_, _, (pT 2 (by kernel_rfl) (by kernel_rfl) (kH 2 (by decide))), ldC OW hR 2 rfl rfl naInt, rfl⟩
    case o12x4 =>
      exact held_run free_wide rfl (by rfl) BelowR.refl fun xH w' kH hR => ⟨_, run_binO rfl (pT 1 (by kernel_rfl) (by kernel_rfl) (kH 1 (by decide))) (pT 3 (by kernel_rfl) (by kernel_rfl) (kH 3 (by decide))) bin_eql, rfl⟩
    case o12x5 =>
      exact held_move free_wide rfl BelowR.refl (.tmp 26) (.inl rfl) fun xH w' kH _ => (pT 4 (by kernel_rfl) (by kernel_rfl) (kH 4 (by decide)))
    case o12x6 =>
      refine held_guard free_wide 5 27 true True (q0 == p0) BelowR.refl rfl (by kernel_rfl) (by kernel_rfl) (by kernel_rfl) (fun xH w' kH => .inl ⟨trivial, kH 5 (by decide)⟩) (fun hC hG => ?_) (fun hN w' => .inr ⟨hN, rfl⟩)
      exact held_runG free_wide hG (by rfl) BelowR.refl fun xH w' kH hR => ⟨_, run_fldO rfl (pO (by kernel_rfl) rfl) (by kernel_rfl), (.inl ⟨hC, rfl⟩)⟩
    case o12x7 =>
      refine held_guard free_wide 5 27 true True (q0 == p0) BelowR.refl rfl (by kernel_rfl) (by kernel_rfl) (by kernel_rfl) (fun xH w' kH => .inl ⟨trivial, kH 5 (by decide)⟩) (fun hC hG => ?_) (fun hN w' => .inr ⟨hN, rfl⟩)
      exact held_loadG free_wide hG BelowR.refl 3 (.tmp 28) rfl fun xH w' kH hR => ⟨_, _, (pT 6 (by kernel_rfl) (by kernel_rfl) (cdAt (kH 6 (by decide)) rfl hC)), ldC OW hR 1 rfl rfl naInt, (.inl ⟨hC, rfl⟩)⟩
    case o12x8 =>
      refine held_guard free_wide 5 27 true True (q0 == p0) BelowR.refl rfl (by kernel_rfl) (by kernel_rfl) (by kernel_rfl) (fun xH w' kH => .inl ⟨trivial, kH 5 (by decide)⟩) (fun hC hG => ?_) (fun hN w' => .inr ⟨hN, rfl⟩)
      exact held_runG free_wide hG (by rfl) BelowR.refl fun xH w' kH hR => ⟨_, run_fldO rfl (pO (by kernel_rfl) rfl) (by kernel_rfl), (.inl ⟨hC, rfl⟩)⟩
    case o12x9 =>
      refine held_guard free_wide 5 27 true True (q0 == p0) BelowR.refl rfl (by kernel_rfl) (by kernel_rfl) (by kernel_rfl) (fun xH w' kH => .inl ⟨trivial, kH 5 (by decide)⟩) (fun hC hG => ?_) (fun hN w' => .inr ⟨hN, rfl⟩)
      exact held_loadG free_wide hG BelowR.refl 3 (.tmp 30) rfl fun xH w' kH hR => ⟨_, _, (pT 8 (by kernel_rfl) (by kernel_rfl) (cdAt (kH 8 (by decide)) rfl hC)), ldC OW hR 2 rfl rfl naInt, (.inl ⟨hC, rfl⟩)⟩
    case o12x10 =>
      refine held_guard free_wide 5 27 true True (q0 == p0) BelowR.refl rfl (by kernel_rfl) (by kernel_rfl) (by kernel_rfl) (fun xH w' kH => .inl ⟨trivial, kH 5 (by decide)⟩) (fun hC hG => ?_) (fun hN w' => .inr ⟨hN, rfl⟩)
      exact held_runG free_wide hG (by rfl) BelowR.refl fun xH w' kH hR => ⟨_, run_binO rfl (pT 7 (by kernel_rfl) (by kernel_rfl) (cdAt (kH 7 (by decide)) rfl hC)) (pT 9 (by kernel_rfl) (by kernel_rfl) (cdAt (kH 9 (by decide)) rfl hC)) bin_eql, (.inl ⟨hC, rfl⟩)⟩
    case o12x11 =>
      exact held_run free_wide rfl (by rfl) BelowR.refl fun xH w' kH hR => ⟨_, run_pickAnd rfl (pT 5 (by kernel_rfl) (by kernel_rfl) (kH 5 (by decide))) rfl (fun h => pT 10 (by kernel_rfl) (by kernel_rfl) (cdAt (kH 10 (by decide)) rfl (And.intro trivial h))), (congrArg Value.bool qeo1211)⟩
    case o12x12 =>
      exact held_move free_wide rfl BelowR.refl (.tmp 33) (.inl rfl) fun xH w' kH _ => (pT 11 (by kernel_rfl) (by kernel_rfl) (kH 11 (by decide)))
    case o12x13 =>
      refine held_guard free_wide 12 34 true True eo1211 BelowR.refl rfl (by kernel_rfl) (by kernel_rfl) (by kernel_rfl) (fun xH w' kH => .inl ⟨trivial, kH 12 (by decide)⟩) (fun hC hG => ?_) (fun hN w' => .inr ⟨hN, rfl⟩)
      exact held_runG free_wide hG (by rfl) BelowR.refl fun xH w' kH hR => ⟨_, run_fldO rfl (pO (by kernel_rfl) rfl) (by kernel_rfl), (.inl ⟨hC, rfl⟩)⟩
    case o12x14 =>
      refine held_guard free_wide 12 34 true True eo1211 BelowR.refl rfl (by kernel_rfl) (by kernel_rfl) (by kernel_rfl) (fun xH w' kH => .inl ⟨trivial, kH 12 (by decide)⟩) (fun hC hG => ?_) (fun hN w' => .inr ⟨hN, rfl⟩)
      exact held_loadG free_wide hG BelowR.refl 3 (.tmp 35) rfl fun xH w' kH hR => ⟨_, _, (pT 13 (by kernel_rfl) (by kernel_rfl) (cdAt (kH 13 (by decide)) rfl hC)), ldC OW hR 1 rfl rfl naInt, (.inl ⟨hC, rfl⟩)⟩
    case o12x15 =>
      refine held_guard free_wide 12 34 true True eo1211 BelowR.refl rfl (by kernel_rfl) (by kernel_rfl) (by kernel_rfl) (fun xH w' kH => .inl ⟨trivial, kH 12 (by decide)⟩) (fun hC hG => ?_) (fun hN w' => .inr ⟨hN, rfl⟩)
      exact held_runG free_wide hG (by rfl) BelowR.refl fun xH w' kH hR => ⟨_, run_fldO rfl (pO (by kernel_rfl) rfl) (by kernel_rfl), (.inl ⟨hC, rfl⟩)⟩
    case o12x16 =>
      refine held_guard free_wide 12 34 true True eo1211 BelowR.refl rfl (by kernel_rfl) (by kernel_rfl) (by kernel_rfl) (fun xH w' kH => .inl ⟨trivial, kH 12 (by decide)⟩) (fun hC hG => ?_) (fun hN w' => .inr ⟨hN, rfl⟩)
      exact held_loadG free_wide hG BelowR.refl 3 (.tmp 37) rfl fun xH w' kH hR => ⟨_, _, (pT 15 (by kernel_rfl) (by kernel_rfl) (cdAt (kH 15 (by decide)) rfl hC)), ldC OW hR 2 rfl rfl naInt, (.inl ⟨hC, rfl⟩)⟩
    case o12x17 =>
      refine held_guard free_wide 12 34 true True eo1211 BelowR.refl rfl (by kernel_rfl) (by kernel_rfl) (by kernel_rfl) (fun xH w' kH => .inl ⟨trivial, kH 12 (by decide)⟩) (fun hC hG => ?_) (fun hN w' => .inr ⟨hN, rfl⟩)
      exact held_runG free_wide hG (by rfl) BelowR.refl fun xH w' kH hR => ⟨_, run_binO rfl (pT 14 (by kernel_rfl) (by kernel_rfl) (cdAt (kH 14 (by decide)) rfl hC)) (pT 16 (by kernel_rfl) (by kernel_rfl) (cdAt (kH 16 (by decide)) rfl hC)) bin_eql, (.inl ⟨hC, rfl⟩)⟩
    case o12x18 =>
      exact held_run free_wide rfl (by rfl) BelowR.refl fun xH w' kH hR => ⟨_, run_pickAnd rfl (pT 12 (by kernel_rfl) (by kernel_rfl) (kH 12 (by decide))) rfl (fun h => pT 17 (by kernel_rfl) (by kernel_rfl) (cdAt (kH 17 (by decide)) rfl (And.intro trivial h))), (congrArg Value.bool qeo1218)⟩
    case o12x19 =>
      exact held_move free_wide rfl BelowR.refl (.tmp 40) (.inr rfl) fun xH w' kH _ => (pT 18 (by kernel_rfl) (by kernel_rfl) (kH 18 (by decide)))
    intro xH w' hv hR
    subst qeo1218 qeo1211
    have h0 : xH 0 = _ := hv 0 (by omega)
    have h1 : xH 1 = _ := hv 1 (by omega)
    have h2 : xH 2 = _ := hv 2 (by omega)
    have h3 : xH 3 = _ := hv 3 (by omega)
    have h4 : xH 4 = _ := hv 4 (by omega)
    have h5 : xH 5 = _ := hv 5 (by omega)
    have h11 : xH 11 = _ := hv 11 (by omega)
    have h12 : xH 12 = _ := hv 12 (by omega)
    have h18 : xH 18 = _ := hv 18 (by omega)
    have h19 : xH 19 = _ := hv 19 (by omega)
    simp only [List.take_succ_cons, List.take_zero, List.drop_succ_cons, List.drop_zero, putsH, Act.put, List.setIfInBounds_toArray, List.set_cons_succ, List.set_cons_zero, h0, h1, h2, h3, h4, h5, h11, h12, h18, h19]
    have OW2 := Lib.hid (OW.out.step hR)
    clear hv hR OW OZ h0 h1 h2 h3 h4 h5 h11 h12 h18 h19
    have OW := OW2
    clear OW2
    obtain ⟨g13, OZ⟩ := own_size OW HB0
    gi_wp2
    refine leaves_own [] _ (Nat.le_of_eq HB0.out) (by simpa using OW.out) ?_
    intro W' hO
    exact ⟨.bool (((q0 == p0) && (q1 == p1)) && (q2 == p2)), by simp [results, Try.results21, go_sem], (by simp only [flies11, hB6, hB11, cond_true, cond_false]), hO.done HB0⟩
  gi_upto_region 6 with fail
  refine wpIn_region_heldL 3 (atD [[], [0], [1]]) (atV [fun vH _ => vH = .pointer (some ⟨b0, 0, none⟩), fun vH _ => vH = .int .i64 k, fun vH _ => vH = .bool (k == 4)]) BelowR (by kernel_rfl) BelowR.trans (BelowR.refl _)
    (StV.atV (.const _ (.const _ (.const _ .nil))))
    ⟨?o14x0, ?o14x1, ?o14x2, trivial⟩ ?_
  case o14x0 =>
    exact held_run free_wide rfl (by rfl) BelowR.refl fun xH w' kH hR => ⟨_, run_fldO rfl (pO (by kernel_rfl) rfl) (by kernel_rfl), rfl⟩
  case o14x1 =>
    exact held_load free_wide rfl BelowR.refl 3 (.tmp 41) rfl fun xH w' kH hR => ⟨_, _, (pT 0 (by kernel_rfl) (by kernel_rfl) (kH 0 (by decide))), ldC OW hR 0 rfl rfl naInt, rfl⟩
  case o14x2 =>
    exact held_run free_wide rfl (by rfl) BelowR.refl fun xH w' kH hR => ⟨_, run_binO rfl (pT 1 (by kernel_rfl) (by kernel_rfl) (kH 1 (by decide))) rfl bin_eql, rfl⟩
  intro xH w' hv hR
  have h0 : xH 0 = _ := hv 0 (by omega)
  have h1 : xH 1 = _ := hv 1 (by omega)
  have h2 : xH 2 = _ := hv 2 (by omega)
  simp only [List.take_succ_cons, List.take_zero, List.drop_succ_cons, List.drop_zero, putsH, Act.put, List.setIfInBounds_toArray, List.set_cons_succ, List.set_cons_zero, h0, h1, h2]
  have OW2 := Lib.hid (OW.out.step hR)
  clear hv hR OW OZ h0 h1 h2
  have OW := OW2
  clear OW2
  obtain ⟨g15, OZ⟩ := own_size OW HB0
  cases hB16 : (k == 4)
  case true =>
    gi_upto_region 7 with fail
    obtain ⟨eo1711, qeo1711⟩ : ∃ e, ((q0 == p0) && (q1 == p1)) = e := ⟨_, rfl⟩
    obtain ⟨eo1718, qeo1718⟩ : ∃ e, (eo1711 && (q3 == p3)) = e := ⟨_, rfl⟩
    refine wpIn_region_heldL 20 (atD [[], [0], [], [2], [1, 3], [4], [5], [5, 6], [5], [5, 8], [5, 7, 9], [5, 10], [11], [12], [12, 13], [12], [12, 15], [12, 14, 16], [12, 17], [18]]) (atV [fun vH _ => vH = .pointer (some ⟨g1, 0, none⟩), fun vH _ => vH = .int .i64 q0, fun vH _ => vH = .pointer (some ⟨g2, 0, none⟩), fun vH _ => vH = .int .i64 p0, fun vH _ => vH = .bool (q0 == p0), fun vH _ => vH = .bool (q0 == p0), cdV (True ∧ (q0 == p0) = true) (fun vH _ => vH = .pointer (some ⟨g1, 1, none⟩)), cdV (True ∧ (q0 == p0) = true) (fun vH _ => vH = .int .i64 q1), cdV (True ∧ (q0 == p0) = true) (fun vH _ => vH = .pointer (some ⟨g2, 1, none⟩)), cdV (True ∧ (q0 == p0) = true) (fun vH _ => vH = .int .i64 p1), cdV (True ∧ (q0 == p0) = true) (fun vH _ => vH = .bool (q1 == p1)), fun vH _ => vH = .bool eo1711, fun vH _ => vH = .bool eo1711, cdV (True ∧ eo1711 = true) (fun vH _ => vH = .pointer (some ⟨g1, 3, none⟩)), cdV (True ∧ eo1711 = true) (fun vH _ => vH = .int .i64 q3), cdV (True ∧ eo1711 = true) (fun vH _ => vH = .pointer (some ⟨g2, 3, none⟩)), cdV (True ∧ eo1711 = true) (fun vH _ => vH = .int .i64 p3), cdV (True ∧ eo1711 = true) (fun vH _ => vH = .bool (q3 == p3)), fun vH _ => vH = .bool eo1718, fun vH _ => vH = .bool eo1718]) BelowR (by kernel_rfl) BelowR.trans (BelowR.refl _)
      (StV.atV (.const _ (.const _ (.const _ (.const _ (.const _ (.const _ (.cons (fun v x y h _ => h) (.cons (fun v x y h _ => h) (.cons (fun v x y h _ => h) (.cons (fun v x y h _ => h) (.cons (fun v x y h _ => h) (.const _ (.const _ (.cons (fun v x y h _ => h) (.cons (fun v x y h _ => h) (.cons (fun v x y h _ => h) (.cons (fun v x y h _ => h) (.cons (fun v x y h _ => h) (.const _ (.const _ .nil)))))))))))))))))))))
      ⟨?o17x0, ?o17x1, ?o17x2, ?o17x3, ?o17x4, ?o17x5, ?o17x6, ?o17x7, ?o17x8, ?o17x9, ?o17x10, ?o17x11, ?o17x12, ?o17x13, ?o17x14, ?o17x15, ?o17x16, ?o17x17, ?o17x18, ?o17x19, trivial⟩ ?_
    case o17x0 =>
      exact held_run free_wide rfl (by rfl) BelowR.refl fun xH w' kH hR => ⟨_, run_fldO rfl (pO (by kernel_rfl) rfl) (by kernel_rfl), rfl⟩
    case o17x1 =>
      exact held_load free_wide rfl BelowR.refl 3 (.tmp 44) rfl fun xH w' kH hR => ⟨_, _, (pT 0 (by kernel_rfl) (by kernel_rfl) (kH 0 (by decide))), ldC OW hR 1 rfl rfl naInt, rfl⟩
    case o17x2 =>
      exact held_run free_wide rfl (by rfl) BelowR.refl fun xH w' kH hR => ⟨_, run_fldO rfl (pO (by kernel_rfl) rfl) (by kernel_rfl), rfl⟩
    case o17x3 =>
      exact held_load free_wide rfl BelowR.refl 3 (.tmp 46) rfl fun xH w' kH hR => ⟨_, _, (pT 2 (by kernel_rfl) (by kernel_rfl) (kH 2 (by decide))), ldC OW hR 2 rfl rfl naInt, rfl⟩
    case o17x4 =>
      exact held_run free_wide rfl (by rfl) BelowR.refl fun xH w' kH hR => ⟨_, run_binO rfl (pT 1 (by kernel_rfl) (by kernel_rfl) (kH 1 (by decide))) (pT 3 (by kernel_rfl) (by kernel_rfl) (kH 3 (by decide))) bin_eql, rfl⟩
    case o17x5 =>
      exact held_move free_wide rfl BelowR.refl (.tmp 48) (.inl rfl) fun xH w' kH _ => (pT 4 (by kernel_rfl) (by kernel_rfl) (kH 4 (by decide)))
    case o17x6 =>
      refine held_guard free_wide 5 49 true True (q0 == p0) BelowR.refl rfl (by kernel_rfl) (by kernel_rfl) (by kernel_rfl) (fun xH w' kH => .inl ⟨trivial, kH 5 (by decide)⟩) (fun hC hG => ?_) (fun hN w' => .inr ⟨hN, rfl⟩)
      exact held_runG free_wide hG (by rfl) BelowR.refl fun xH w' kH hR => ⟨_, run_fldO rfl (pO (by kernel_rfl) rfl) (by kernel_rfl), (.inl ⟨hC, rfl⟩)⟩
    case o17x7 =>
      refine held_guard free_wide 5 49 true True (q0 == p0) BelowR.refl rfl (by kernel_rfl) (by kernel_rfl) (by kernel_rfl) (fun xH w' kH => .inl ⟨trivial, kH 5 (by decide)⟩) (fun hC hG => ?_) (fun hN w' => .inr ⟨hN, rfl⟩)
      exact held_loadG free_wide hG BelowR.refl 3 (.tmp 50) rfl fun xH w' kH hR => ⟨_, _, (pT 6 (by kernel_rfl) (by kernel_rfl) (cdAt (kH 6 (by decide)) rfl hC)), ldC OW hR 1 rfl rfl naInt, (.inl ⟨hC, rfl⟩)⟩
    case o17x8 =>
      refine held_guard free_wide 5 49 true True (q0 == p0) BelowR.refl rfl (by kernel_rfl) (by kernel_rfl) (by kernel_rfl) (fun xH w' kH => .inl ⟨trivial, kH 5 (by decide)⟩) (fun hC hG => ?_) (fun hN w' => .inr ⟨hN, rfl⟩)
      exact held_runG free_wide hG (by rfl) BelowR.refl fun xH w' kH hR => ⟨_, run_fldO rfl (pO (by kernel_rfl) rfl) (by kernel_rfl), (.inl ⟨hC, rfl⟩)⟩
    case o17x9 =>
      refine held_guard free_wide 5 49 true True (q0 == p0) BelowR.refl rfl (by kernel_rfl) (by kernel_rfl) (by kernel_rfl) (fun xH w' kH => .inl ⟨trivial, kH 5 (by decide)⟩) (fun hC hG => ?_) (fun hN w' => .inr ⟨hN, rfl⟩)
      exact held_loadG free_wide hG BelowR.refl 3 (.tmp 52) rfl fun xH w' kH hR => ⟨_, _, (pT 8 (by kernel_rfl) (by kernel_rfl) (cdAt (kH 8 (by decide)) rfl hC)), ldC OW hR 2 rfl rfl naInt, (.inl ⟨hC, rfl⟩)⟩
    case o17x10 =>
      refine held_guard free_wide 5 49 true True (q0 == p0) BelowR.refl rfl (by kernel_rfl) (by kernel_rfl) (by kernel_rfl) (fun xH w' kH => .inl ⟨trivial, kH 5 (by decide)⟩) (fun hC hG => ?_) (fun hN w' => .inr ⟨hN, rfl⟩)
      exact held_runG free_wide hG (by rfl) BelowR.refl fun xH w' kH hR => ⟨_, run_binO rfl (pT 7 (by kernel_rfl) (by kernel_rfl) (cdAt (kH 7 (by decide)) rfl hC)) (pT 9 (by kernel_rfl) (by kernel_rfl) (cdAt (kH 9 (by decide)) rfl hC)) bin_eql, (.inl ⟨hC, rfl⟩)⟩
    case o17x11 =>
      exact held_run free_wide rfl (by rfl) BelowR.refl fun xH w' kH hR => ⟨_, run_pickAnd rfl (pT 5 (by kernel_rfl) (by kernel_rfl) (kH 5 (by decide))) rfl (fun h => pT 10 (by kernel_rfl) (by kernel_rfl) (cdAt (kH 10 (by decide)) rfl (And.intro trivial h))), (congrArg Value.bool qeo1711)⟩
    case o17x12 =>
      exact held_move free_wide rfl BelowR.refl (.tmp 55) (.inl rfl) fun xH w' kH _ => (pT 11 (by kernel_rfl) (by kernel_rfl) (kH 11 (by decide)))
    case o17x13 =>
      refine held_guard free_wide 12 56 true True eo1711 BelowR.refl rfl (by kernel_rfl) (by kernel_rfl) (by kernel_rfl) (fun xH w' kH => .inl ⟨trivial, kH 12 (by decide)⟩) (fun hC hG => ?_) (fun hN w' => .inr ⟨hN, rfl⟩)
      exact held_runG free_wide hG (by rfl) BelowR.refl fun xH w' kH hR => ⟨_, run_fldO rfl (pO (by kernel_rfl) rfl) (by kernel_rfl), (.inl ⟨hC, rfl⟩)⟩
    case o17x14 =>
      refine held_guard free_wide 12 56 true True eo1711 BelowR.refl rfl (by kernel_rfl) (by kernel_rfl) (by kernel_rfl) (fun xH w' kH => .inl ⟨trivial, kH 12 (by decide)⟩) (fun hC hG => ?_) (fun hN w' => .inr ⟨hN, rfl⟩)
      exact held_loadG free_wide hG BelowR.refl 3 (.tmp 57) rfl fun xH w' kH hR => ⟨_, _, (pT 13 (by kernel_rfl) (by kernel_rfl) (cdAt (kH 13 (by decide)) rfl hC)), ldC OW hR 1 rfl rfl naInt, (.inl ⟨hC, rfl⟩)⟩
    case o17x15 =>
      refine held_guard free_wide 12 56 true True eo1711 BelowR.refl rfl (by kernel_rfl) (by kernel_rfl) (by kernel_rfl) (fun xH w' kH => .inl ⟨trivial, kH 12 (by decide)⟩) (fun hC hG => ?_) (fun hN w' => .inr ⟨hN, rfl⟩)
      exact held_runG free_wide hG (by rfl) BelowR.refl fun xH w' kH hR => ⟨_, run_fldO rfl (pO (by kernel_rfl) rfl) (by kernel_rfl), (.inl ⟨hC, rfl⟩)⟩
    case o17x16 =>
      refine held_guard free_wide 12 56 true True eo1711 BelowR.refl rfl (by kernel_rfl) (by kernel_rfl) (by kernel_rfl) (fun xH w' kH => .inl ⟨trivial, kH 12 (by decide)⟩) (fun hC hG => ?_) (fun hN w' => .inr ⟨hN, rfl⟩)
      exact held_loadG free_wide hG BelowR.refl 3 (.tmp 59) rfl fun xH w' kH hR => ⟨_, _, (pT 15 (by kernel_rfl) (by kernel_rfl) (cdAt (kH 15 (by decide)) rfl hC)), ldC OW hR 2 rfl rfl naInt, (.inl ⟨hC, rfl⟩)⟩
    case o17x17 =>
      refine held_guard free_wide 12 56 true True eo1711 BelowR.refl rfl (by kernel_rfl) (by kernel_rfl) (by kernel_rfl) (fun xH w' kH => .inl ⟨trivial, kH 12 (by decide)⟩) (fun hC hG => ?_) (fun hN w' => .inr ⟨hN, rfl⟩)
      exact held_runG free_wide hG (by rfl) BelowR.refl fun xH w' kH hR => ⟨_, run_binO rfl (pT 14 (by kernel_rfl) (by kernel_rfl) (cdAt (kH 14 (by decide)) rfl hC)) (pT 16 (by kernel_rfl) (by kernel_rfl) (cdAt (kH 16 (by decide)) rfl hC)) bin_eql, (.inl ⟨hC, rfl⟩)⟩
    case o17x18 =>
      exact held_run free_wide rfl (by rfl) BelowR.refl fun xH w' kH hR => ⟨_, run_pickAnd rfl (pT 12 (by kernel_rfl) (by kernel_rfl) (kH 12 (by decide))) rfl (fun h => pT 17 (by kernel_rfl) (by kernel_rfl) (cdAt (kH 17 (by decide)) rfl (And.intro trivial h))), (congrArg Value.bool qeo1718)⟩
    case o17x19 =>
      exact held_move free_wide rfl BelowR.refl (.tmp 62) (.inr rfl) fun xH w' kH _ => (pT 18 (by kernel_rfl) (by kernel_rfl) (kH 18 (by decide)))
    intro xH w' hv hR
    subst qeo1718 qeo1711
    have h0 : xH 0 = _ := hv 0 (by omega)
    have h1 : xH 1 = _ := hv 1 (by omega)
    have h2 : xH 2 = _ := hv 2 (by omega)
    have h3 : xH 3 = _ := hv 3 (by omega)
    have h4 : xH 4 = _ := hv 4 (by omega)
    have h5 : xH 5 = _ := hv 5 (by omega)
    have h11 : xH 11 = _ := hv 11 (by omega)
    have h12 : xH 12 = _ := hv 12 (by omega)
    have h18 : xH 18 = _ := hv 18 (by omega)
    have h19 : xH 19 = _ := hv 19 (by omega)
    simp only [List.take_succ_cons, List.take_zero, List.drop_succ_cons, List.drop_zero, putsH, Act.put, List.setIfInBounds_toArray, List.set_cons_succ, List.set_cons_zero, h0, h1, h2, h3, h4, h5, h11, h12, h18, h19]
    have OW2 := Lib.hid (OW.out.step hR)
    clear hv hR OW OZ h0 h1 h2 h3 h4 h5 h11 h12 h18 h19
    have OW := OW2
    clear OW2
    obtain ⟨g18, OZ⟩ := own_size OW HB0
    gi_wp2
    refine leaves_own [] _ (Nat.le_of_eq HB0.out) (by simpa using OW.out) ?_
    intro W' hO
    exact ⟨.bool (((q0 == p0) && (q1 == p1)) && (q3 == p3)), by simp [results, Try.results21, go_sem], (by simp only [flies11, hB6, hB11, hB16, cond_true, cond_false]), hO.done HB0⟩
  gi_upto_region 8 with fail
  obtain ⟨eo199, qeo199⟩ : ∃ e, ((k == 5) && (q0 == p0)) = e := ⟨_, rfl⟩
  refine wpIn_region_heldL 11 (atD [[], [0], [1], [2], [3], [3, 4], [3], [3, 6], [3, 5, 7], [3, 8], [9]]) (atV [fun vH _ => vH = .pointer (some ⟨b0, 0, none⟩), fun vH _ => vH = .int .i64 k, fun vH _ => vH = .bool (k == 5), fun vH _ => vH = .bool (k == 5), cdV (True ∧ (k == 5) = true) (fun vH _ => vH = .pointer (some ⟨g1, 0, none⟩)), cdV (True ∧ (k == 5) = true) (fun vH _ => vH = .int .i64 q0), cdV (True ∧ (k == 5) = true) (fun vH _ => vH = .pointer (some ⟨g2, 0, none⟩)), cdV (True ∧ (k == 5) = true) (fun vH _ => vH = .int .i64 p0), cdV (True ∧ (k == 5) = true) (fun vH _ => vH = .bool (q0 == p0)), fun vH _ => vH = .bool eo199, fun vH _ => vH = .bool eo199]) BelowR (by kernel_rfl) BelowR.trans (BelowR.refl _)
    (StV.atV (.const _ (.const _ (.const _ (.const _ (.cons (fun v x y h _ => h) (.cons (fun v x y h _ => h) (.cons (fun v x y h _ => h) (.cons (fun v x y h _ => h) (.cons (fun v x y h _ => h) (.const _ (.const _ .nil))))))))))))
    ⟨?o19x0, ?o19x1, ?o19x2, ?o19x3, ?o19x4, ?o19x5, ?o19x6, ?o19x7, ?o19x8, ?o19x9, ?o19x10, trivial⟩ ?_
  case o19x0 =>
    exact held_run free_wide rfl (by rfl) BelowR.refl fun xH w' kH hR => ⟨_, run_fldO rfl (pO (by kernel_rfl) rfl) (by kernel_rfl), rfl⟩
  case o19x1 =>
    exact held_load free_wide rfl BelowR.refl 3 (.tmp 63) rfl fun xH w' kH hR => ⟨_, _, (pT 0 (by kernel_rfl) (by kernel_rfl) (kH 0 (by decide))), ldC OW hR 0 rfl rfl naInt, rfl⟩
  case o19x2 =>
    exact held_run free_wide rfl (by rfl) BelowR.refl fun xH w' kH hR => ⟨_, run_binO rfl (pT 1 (by kernel_rfl) (by kernel_rfl) (kH 1 (by decide))) rfl bin_eql, rfl⟩
  case o19x3 =>
    exact held_move free_wide rfl BelowR.refl (.tmp 65) (.inl rfl) fun xH w' kH _ => (pT 2 (by kernel_rfl) (by kernel_rfl) (kH 2 (by decide)))
  case o19x4 =>
    refine held_guard free_wide 3 66 true True (k == 5) BelowR.refl rfl (by kernel_rfl) (by kernel_rfl) (by kernel_rfl) (fun xH w' kH => .inl ⟨trivial, kH 3 (by decide)⟩) (fun hC hG => ?_) (fun hN w' => .inr ⟨hN, rfl⟩)
    exact held_runG free_wide hG (by rfl) BelowR.refl fun xH w' kH hR => ⟨_, run_fldO rfl (pO (by kernel_rfl) rfl) (by kernel_rfl), (.inl ⟨hC, rfl⟩)⟩
  case o19x5 =>
    refine held_guard free_wide 3 66 true True (k == 5) BelowR.refl rfl (by kernel_rfl) (by kernel_rfl) (by kernel_rfl) (fun xH w' kH => .inl ⟨trivial, kH 3 (by decide)⟩) (fun hC hG => ?_) (fun hN w' => .inr ⟨hN, rfl⟩)
    exact held_loadG free_wide hG BelowR.refl 3 (.tmp 67) rfl fun xH w' kH hR => ⟨_, _, (pT 4 (by kernel_rfl) (by kernel_rfl) (cdAt (kH 4 (by decide)) rfl hC)), ldC OW hR 1 rfl rfl naInt, (.inl ⟨hC, rfl⟩)⟩
  case o19x6 =>
    refine held_guard free_wide 3 66 true True (k == 5) BelowR.refl rfl (by kernel_rfl) (by kernel_rfl) (by kernel_rfl) (fun xH w' kH => .inl ⟨trivial, kH 3 (by decide)⟩) (fun hC hG => ?_) (fun hN w' => .inr ⟨hN, rfl⟩)
    exact held_runG free_wide hG (by rfl) BelowR.refl fun xH w' kH hR => ⟨_, run_fldO rfl (pO (by kernel_rfl) rfl) (by kernel_rfl), (.inl ⟨hC, rfl⟩)⟩
  case o19x7 =>
    refine held_guard free_wide 3 66 true True (k == 5) BelowR.refl rfl (by kernel_rfl) (by kernel_rfl) (by kernel_rfl) (fun xH w' kH => .inl ⟨trivial, kH 3 (by decide)⟩) (fun hC hG => ?_) (fun hN w' => .inr ⟨hN, rfl⟩)
    exact held_loadG free_wide hG BelowR.refl 3 (.tmp 69) rfl fun xH w' kH hR => ⟨_, _, (pT 6 (by kernel_rfl) (by kernel_rfl) (cdAt (kH 6 (by decide)) rfl hC)), ldC OW hR 2 rfl rfl naInt, (.inl ⟨hC, rfl⟩)⟩
  case o19x8 =>
    refine held_guard free_wide 3 66 true True (k == 5) BelowR.refl rfl (by kernel_rfl) (by kernel_rfl) (by kernel_rfl) (fun xH w' kH => .inl ⟨trivial, kH 3 (by decide)⟩) (fun hC hG => ?_) (fun hN w' => .inr ⟨hN, rfl⟩)
    exact held_runG free_wide hG (by rfl) BelowR.refl fun xH w' kH hR => ⟨_, run_binO rfl (pT 5 (by kernel_rfl) (by kernel_rfl) (cdAt (kH 5 (by decide)) rfl hC)) (pT 7 (by kernel_rfl) (by kernel_rfl) (cdAt (kH 7 (by decide)) rfl hC)) bin_eql, (.inl ⟨hC, rfl⟩)⟩
  case o19x9 =>
    exact held_run free_wide rfl (by rfl) BelowR.refl fun xH w' kH hR => ⟨_, run_pickAnd rfl (pT 3 (by kernel_rfl) (by kernel_rfl) (kH 3 (by decide))) rfl (fun h => pT 8 (by kernel_rfl) (by kernel_rfl) (cdAt (kH 8 (by decide)) rfl (And.intro trivial h))), (congrArg Value.bool qeo199)⟩
  case o19x10 =>
    exact held_move free_wide rfl BelowR.refl (.tmp 72) (.inr rfl) fun xH w' kH _ => (pT 9 (by kernel_rfl) (by kernel_rfl) (kH 9 (by decide)))
  intro xH w' hv hR
  subst qeo199
  have h0 : xH 0 = _ := hv 0 (by omega)
  have h1 : xH 1 = _ := hv 1 (by omega)
  have h2 : xH 2 = _ := hv 2 (by omega)
  have h3 : xH 3 = _ := hv 3 (by omega)
  have h9 : xH 9 = _ := hv 9 (by omega)
  have h10 : xH 10 = _ := hv 10 (by omega)
  simp only [List.take_succ_cons, List.take_zero, List.drop_succ_cons, List.drop_zero, putsH, Act.put, List.setIfInBounds_toArray, List.set_cons_succ, List.set_cons_zero, h0, h1, h2, h3, h9, h10]
  have OW2 := Lib.hid (OW.out.step hR)
  clear hv hR OW OZ h0 h1 h2 h3 h9 h10
  have OW := OW2
  clear OW2
  obtain ⟨g20, OZ⟩ := own_size OW HB0
  gi_wp2
  refine leaves_own [] _ (Nat.le_of_eq HB0.out) (by simpa using OW.out) ?_
  intro W' hO
  exact ⟨.bool ((k == 5) && (q0 == p0)), by simp [results, Try.results21, go_sem], (by simp only [flies11, hB6, hB11, hB16, cond_true, cond_false]), hO.done HB0⟩
def fapply11 (k p0 p1 p2 p3 c b v mode q0 q1 q2 q3 : Int) (xs : List UInt8) : List UInt8 := (bif ((decide (k < 2)) || (decide (5 < k))) || (!(flies11 k p0 p1 p2 p3 c b v q0 q1 q2 q3)) then xs else (bif k == 2 then (forceI xs b v) else (chipB mode xs c (u8I v))))
set_option maxRecDepth 100000 in
set_option maxHeartbeats 1000000 in
theorem fapply11_any (k p0 p1 p2 p3 c b v mode q0 q1 q2 q3 : Int) (xs : List UInt8) (lx : xs.length = 72) (v0 : -9223372036854775808 ≤ b) (v1 : b ≤ 9223372036854775807) (w : World) : Calls Try.prog 24 #[.agg #[.int .i64 k, .int .i64 p0, .int .i64 p1, .int .i64 p2, .int .i64 p3, .int .i64 c, .int .i64 b, .int .i64 v], .int .i64 mode, .agg #[.int .i64 q0, .int .i64 q1, .int .i64 q2, .int .i64 q3], .agg (rawV xs)] w fun e w' => e = .returned (.agg (rawV (fapply11 k p0 p1 p2 p3 c b v mode q0 q1 q2 q3 xs))) ∧ Below w.heap.size w w' := by
  obtain ⟨b0, hb0⟩ : ∃ b0, w.heap.size = b0 := ⟨_, rfl⟩
  have HB0 := Lib.hid hb0
  have OW := Lib.hid (Own.start b0 w)
  have OZ := Lib.hid (And.intro hb0 (Nat.le_refl b0))
  clear hb0
  refine (callsIn_wide (n := 6)).1 ?_
  refine callsIn_of_wp_marks Try.func24 rfl trivial ?_ rfl
  simp only [Try.ntmps24, List.size_toArray, List.length_cons, List.length_nil, Nat.reduceAdd, Nat.reduceSub, Array.replicate_succ, Array.replicate_zero, List.push_toArray, List.append_toArray, List.nil_append, List.cons_append]
  gi_upto_region 1 with (first | (refine own_boxV 4 31 (.tmp 0) rfl rfl rfl (.agg #[.int .i64 k, .int .i64 p0, .int .i64 p1, .int .i64 p2, .int .i64 p3, .int .i64 c, .int .i64 b, .int .i64 v]) rfl #[.int .i64 k, .int .i64 p0, .int .i64 p1, .int .i64 p2, .int .i64 p3, .int .i64 c, .int .i64 b, .int .i64 v] rfl OW OZ ?_; clear OW OZ; intro W g1 OW OZ) | (refine own_boxV 6 29 (.tmp 2) rfl rfl rfl (.agg #[.int .i64 q0, .int .i64 q1, .int .i64 q2, .int .i64 q3]) rfl #[.int .i64 q0, .int .i64 q1, .int .i64 q2, .int .i64 q3] rfl OW OZ ?_; clear OW OZ; intro W g2 OW OZ) | (refine own_boxV 7 40 (.tmp 3) rfl rfl rfl (.agg (rawV xs)) rfl (rawV xs) rfl OW OZ ?_; clear OW OZ; intro W g3 OW OZ) | (refine own_allocV 8 40 rfl rfl rfl (rawV zero72) alRaw2 OW OZ ?_; clear OW OZ; intro W g4 OW OZ))
  obtain ⟨eo52, qeo52⟩ : ∃ e, (decide (k < 2)) = e := ⟨_, rfl⟩
  obtain ⟨eo56, qeo56⟩ : ∃ e, (decide (5 < k)) = e := ⟨_, rfl⟩
  obtain ⟨eo57, qeo57⟩ : ∃ e, (eo52 || eo56) = e := ⟨_, rfl⟩
  obtain ⟨eo511, qeo511⟩ : ∃ e, (flies11 k p0 p1 p2 p3 c b v q0 q1 q2 q3) = e := ⟨_, rfl⟩
  obtain ⟨eo513, qeo513⟩ : ∃ e, (eo57 || (!eo511)) = e := ⟨_, rfl⟩
  refine wpIn_region_heldL 14 (atD [[], [0], [1], [2], [3], [3, 4], [3, 5], [3, 6], [7], [8], [8], [8, 9, 10], [8, 11], [8, 12]]) (atV [fun vH _ => vH = .pointer (some ⟨b0, 0, none⟩), fun vH _ => vH = .int .i64 k, fun vH _ => vH = .bool eo52, fun vH _ => vH = .bool eo52, cdV (True ∧ eo52 = false) (fun vH _ => vH = .pointer (some ⟨b0, 0, none⟩)), cdV (True ∧ eo52 = false) (fun vH _ => vH = .int .i64 k), cdV (True ∧ eo52 = false) (fun vH _ => vH = .bool eo56), fun vH _ => vH = .bool eo57, fun vH _ => vH = .bool eo57, cdV (True ∧ eo57 = false) (fun vH _ => vH = .agg #[.int .i64 k, .int .i64 p0, .int .i64 p1, .int .i64 p2, .int .i64 p3, .int .i64 c, .int .i64 b, .int .i64 v]), cdV (True ∧ eo57 = false) (fun vH _ => vH = .agg #[.int .i64 q0, .int .i64 q1, .int .i64 q2, .int .i64 q3]), cdV (True ∧ eo57 = false) (fun vH _ => vH = .bool eo511), cdV (True ∧ eo57 = false) (fun vH _ => vH = .bool (!eo511)), fun vH _ => vH = .bool eo513]) BelowR (by kernel_rfl) BelowR.trans (BelowR.refl _)
    (StV.atV (.const _ (.const _ (.const _ (.const _ (.cons (fun v x y h _ => h) (.cons (fun v x y h _ => h) (.cons (fun v x y h _ => h) (.const _ (.const _ (.cons (fun v x y h _ => h) (.cons (fun v x y h _ => h) (.cons (fun v x y h _ => h) (.cons (fun v x y h _ => h) (.const _ .nil)))))))))))))))
    ⟨?o5x0, ?o5x1, ?o5x2, ?o5x3, ?o5x4, ?o5x5, ?o5x6, ?o5x7, ?o5x8, ?o5x9, ?o5x10, ?o5x11, ?o5x12, ?o5x13, trivial⟩ ?_
  case o5x0 =>
    exact held_run free_wide rfl (by rfl) BelowR.refl fun xH w' kH hR => ⟨_, run_fldO rfl (pO (by kernel_rfl) rfl) (by kernel_rfl), rfl⟩
  case o5x1 =>
    exact held_load free_wide rfl BelowR.refl 3 (.tmp 9) rfl fun xH w' kH hR => ⟨_, _, (pT 0 (by kernel_rfl) (by kernel_rfl) (kH 0 (by decide))), ldC OW hR 0 rfl rfl naInt, rfl⟩
  case o5x2 =>
    exact held_run free_wide rfl (by rfl) BelowR.refl fun xH w' kH hR => ⟨_, run_binO rfl (pT 1 (by kernel_rfl) (by kernel_rfl) (kH 1 (by decide))) rfl bin_lss, (congrArg Value.bool qeo52)⟩
  case o5x3 =>
    exact held_move free_wide rfl BelowR.refl (.tmp 11) (.inl rfl) fun xH w' kH _ => (pT 2 (by kernel_rfl) (by kernel_rfl) (kH 2 (by decide)))
  case o5x4 =>
    refine held_guard free_wide 3 12 false True eo52 BelowR.refl rfl (by kernel_rfl) (by kernel_rfl) (by kernel_rfl) (fun xH w' kH => .inl ⟨trivial, kH 3 (by decide)⟩) (fun hC hG => ?_) (fun hN w' => .inr ⟨hN, rfl⟩)
    exact held_runG free_wide hG (by rfl) BelowR.refl fun xH w' kH hR => ⟨_, run_fldO rfl (pO (by kernel_rfl) rfl) (by kernel_rfl), (.inl ⟨hC, rfl⟩)⟩
  case o5x5 =>
    refine held_guard free_wide 3 12 false True eo52 BelowR.refl rfl (by kernel_rfl) (by kernel_rfl) (by kernel_rfl) (fun xH w' kH => .inl ⟨trivial, kH 3 (by decide)⟩) (fun hC hG => ?_) (fun hN w' => .inr ⟨hN, rfl⟩)
    exact held_loadG free_wide hG BelowR.refl 3 (.tmp 13) rfl fun xH w' kH hR => ⟨_, _, (pT 4 (by kernel_rfl) (by kernel_rfl) (cdAt (kH 4 (by decide)) rfl hC)), ldC OW hR 0 rfl rfl naInt, (.inl ⟨hC, rfl⟩)⟩
  case o5x6 =>
    refine held_guard free_wide 3 12 false True eo52 BelowR.refl rfl (by kernel_rfl) (by kernel_rfl) (by kernel_rfl) (fun xH w' kH => .inl ⟨trivial, kH 3 (by decide)⟩) (fun hC hG => ?_) (fun hN w' => .inr ⟨hN, rfl⟩)
    exact held_runG free_wide hG (by rfl) BelowR.refl fun xH w' kH hR => ⟨_, run_binO rfl (pT 5 (by kernel_rfl) (by kernel_rfl) (cdAt (kH 5 (by decide)) rfl hC)) rfl bin_gtr, (.inl ⟨hC, congrArg Value.bool qeo56⟩)⟩
  case o5x7 =>
    exact held_run free_wide rfl (by rfl) BelowR.refl fun xH w' kH hR => ⟨_, run_pickOr rfl (pT 3 (by kernel_rfl) (by kernel_rfl) (kH 3 (by decide))) rfl (fun h => pT 6 (by kernel_rfl) (by kernel_rfl) (cdAt (kH 6 (by decide)) rfl (And.intro trivial h))), (congrArg Value.bool qeo57)⟩
  case o5x8 =>
    exact held_move free_wide rfl BelowR.refl (.tmp 16) (.inl rfl) fun xH w' kH _ => (pT 7 (by kernel_rfl) (by kernel_rfl) (kH 7 (by decide)))
  case o5x9 =>
    refine held_guard free_wide 8 17 false True eo57 BelowR.refl rfl (by kernel_rfl) (by kernel_rfl) (by kernel_rfl) (fun xH w' kH => .inl ⟨trivial, kH 8 (by decide)⟩) (fun hC hG => ?_) (fun hN w' => .inr ⟨hN, rfl⟩)
    exact held_loadG free_wide hG BelowR.refl 31 (.tmp 4) rfl fun xH w' kH hR => ⟨_, _, (pO (by kernel_rfl) rfl), ldS OW hR 0 rfl 8 rfl Try.underlying31 rfl rfl (by kernel_rfl), (.inl ⟨hC, rfl⟩)⟩
  case o5x10 =>
    refine held_guard free_wide 8 17 false True eo57 BelowR.refl rfl (by kernel_rfl) (by kernel_rfl) (by kernel_rfl) (fun xH w' kH => .inl ⟨trivial, kH 8 (by decide)⟩) (fun hC hG => ?_) (fun hN w' => .inr ⟨hN, rfl⟩)
    exact held_loadG free_wide hG BelowR.refl 29 (.tmp 6) rfl fun xH w' kH hR => ⟨_, _, (pO (by kernel_rfl) rfl), ldS OW hR 1 rfl 4 rfl Try.underlying29 rfl rfl (by kernel_rfl), (.inl ⟨hC, rfl⟩)⟩
  case o5x11 =>
    refine held_guard free_wide 8 17 false True eo57 BelowR.refl rfl (by kernel_rfl) (by kernel_rfl) (by kernel_rfl) (fun xH w' kH => .inl ⟨trivial, kH 8 (by decide)⟩) (fun hC hG => ?_) (fun hN w' => .inr ⟨hN, rfl⟩)
    refine held_callG free_wide hG 21 _ _ rfl (enters_of Try.func21 (by kernel_rfl) rfl) fun xH w' kH hR => ⟨_, mapE2 (pT 9 (by kernel_rfl) (by kernel_rfl) (cdAt (kH 9 (by decide)) rfl hC)) (pT 10 (by kernel_rfl) (by kernel_rfl) (cdAt (kH 10 (by decide)) rfl hC)), ?_⟩
    refine (callsIn_wide.2 (flies11_any k p0 p1 p2 p3 c b v q0 q1 q2 q3 _)).mono ?_
    rintro e w2 ⟨rfl, h2⟩
    exact ⟨_, rfl, (.inl ⟨hC, congrArg Value.bool qeo511⟩), h2⟩
  case o5x12 =>
    refine held_guard free_wide 8 17 false True eo57 BelowR.refl rfl (by kernel_rfl) (by kernel_rfl) (by kernel_rfl) (fun xH w' kH => .inl ⟨trivial, kH 8 (by decide)⟩) (fun hC hG => ?_) (fun hN w' => .inr ⟨hN, rfl⟩)
    exact held_runG free_wide hG (by rfl) BelowR.refl fun xH w' kH hR => ⟨_, run_unO rfl (pT 11 (by kernel_rfl) (by kernel_rfl) (cdAt (kH 11 (by decide)) rfl hC)) rfl, (.inl ⟨hC, rfl⟩)⟩
  case o5x13 =>
    exact held_run free_wide rfl (by rfl) BelowR.refl fun xH w' kH hR => ⟨_, run_pickOr rfl (pT 8 (by kernel_rfl) (by kernel_rfl) (kH 8 (by decide))) rfl (fun h => pT 12 (by kernel_rfl) (by kernel_rfl) (cdAt (kH 12 (by decide)) rfl (And.intro trivial h))), (congrArg Value.bool qeo513)⟩
  intro xH w' hv hR
  subst qeo513 qeo511 qeo57 qeo56 qeo52
  have h0 : xH 0 = _ := hv 0 (by omega)
  have h1 : xH 1 = _ := hv 1 (by omega)
  have h2 : xH 2 = _ := hv 2 (by omega)
  have h3 : xH 3 = _ := hv 3 (by omega)
  have h7 : xH 7 = _ := hv 7 (by omega)
  have h8 : xH 8 = _ := hv 8 (by omega)
  have h13 : xH 13 = _ := hv 13 (by omega)
  simp only [List.take_succ_cons, List.take_zero, List.drop_succ_cons, List.drop_zero, putsH, Act.put, List.setIfInBounds_toArray, List.set_cons_succ, List.set_cons_zero, h0, h1, h2, h3, h7, h8, h13]
  have OW2 := Lib.hid (OW.out.step hR)
  clear hv hR OW OZ h0 h1 h2 h3 h7 h8 h13
  have OW := OW2
  clear OW2
  obtain ⟨g6, OZ⟩ := own_size OW HB0
  cases hB7 : (((decide (k < 2)) || (decide (5 < k))) || (!(flies11 k p0 p1 p2 p3 c b v q0 q1 q2 q3)))
  case true =>
    gi_wp2_with (first | (refine own_loadRowV 23 2 40 (.tmp 7) rfl rfl rfl rfl rfl _ Try.underlying40 rfl (by rw [rawV_size, (show (xs).length = 72 from lx)]; exact infoRaw2) OW ?_) | (refine own_storeRow 3 40 (.tmp 8) (.tmp 23) rfl rfl rfl rfl (rawV xs) rfl (by rw [rawV_size, rawV_size, (show (xs).length = 72 from lx), (show (zero72).length = 72 from (show zero72.length = 72 from rfl))]) (rawV_one _) (by rw [rawV_size, (show (xs).length = 72 from lx)]; exact infoRaw2) _ rfl OW OZ ?_; clear OW OZ; intro W OW OZ))
    refine leaves_own [] _ (Nat.le_of_eq HB0.out) (by simpa using OW.out) ?_
    intro W' hO
    exact ⟨.agg (rawV xs), results_ownRow hO 3 rfl rfl rfl Try.underlying40 rfl (by rw [rawV_size, (show (xs).length = 72 from lx)]; exact infoRaw2), (by simp only [fapply11, hB7, cond_true, cond_false]), hO.done HB0⟩
  gi_upto_region 3 with fail
  refine wpIn_region_heldL 3 (atD [[], [0], [1]]) (atV [fun vH _ => vH = .pointer (some ⟨b0, 0, none⟩), fun vH _ => vH = .int .i64 k, fun vH _ => vH = .bool (k == 2)]) BelowR (by kernel_rfl) BelowR.trans (BelowR.refl _)
    (StV.atV (.const _ (.const _ (.const _ .nil))))
    ⟨?o8x0, ?o8x1, ?o8x2, trivial⟩ ?_
  case o8x0 =>
    exact held_run free_wide rfl (by rfl) BelowR.refl fun xH w' kH hR => ⟨_, run_fldO rfl (pO (by kernel_rfl) rfl) (by kernel_rfl), rfl⟩
  case o8x1 =>
    exact held_load free_wide rfl BelowR.refl 3 (.tmp 24) rfl fun xH w' kH hR => ⟨_, _, (pT 0 (by kernel_rfl) (by kernel_rfl) (kH 0 (by decide))), ldC OW hR 0 rfl rfl naInt, rfl⟩
  case o8x2 =>
    exact held_run free_wide rfl (by rfl) BelowR.refl fun xH w' kH hR => ⟨_, run_binO rfl (pT 1 (by kernel_rfl) (by kernel_rfl) (kH 1 (by decide))) rfl bin_eql, rfl⟩
  intro xH w' hv hR
  have h0 : xH 0 = _ := hv 0 (by omega)
  have h1 : xH 1 = _ := hv 1 (by omega)
  have h2 : xH 2 = _ := hv 2 (by omega)
  simp only [List.take_succ_cons, List.take_zero, List.drop_succ_cons, List.drop_zero, putsH, Act.put, List.setIfInBounds_toArray, List.set_cons_succ, List.set_cons_zero, h0, h1, h2]
  have OW2 := Lib.hid (OW.out.step hR)
  clear hv hR OW OZ h0 h1 h2
  have OW := OW2
  clear OW2
  obtain ⟨g9, OZ⟩ := own_size OW HB0
  cases hB10 : (k == 2)
  case true =>
    gi_wp2_with (first | (refine own_loadRowV 27 2 40 (.tmp 7) rfl rfl rfl rfl rfl _ Try.underlying40 rfl (by rw [rawV_size, (show (xs).length = 72 from lx)]; exact infoRaw2) OW ?_) | (refine own_loadV 29 0 3 (.tmp 28) rfl rfl rfl rfl rfl (.int .i64 b) rfl naInt OW ?_) | (refine own_loadV 31 0 3 (.tmp 30) rfl rfl rfl rfl rfl (.int .i64 v) rfl naInt OW ?_))
    refine ⟨trivial, ?_⟩
    refine (callsIn_wide.2 (refForce_any xs (show (xs).length = 72 from lx) b v (by omega) (by omega) _)).mono ?_
    rintro e Wg11 ⟨rfl, hbw⟩
    obtain ⟨g11, OW2, OZ2⟩ := own_call OW OZ hbw
    clear hbw OW OZ
    have OW := OW2
    have OZ := OZ2
    clear OW2 OZ2
    gi_wp2_with (first | (refine own_storeRow 3 40 (.tmp 8) (.tmp 32) rfl rfl rfl rfl (rawV (forceI xs b v)) rfl (by rw [rawV_size, rawV_size, (show ((forceI xs b v)).length = 72 by simp only [forceI_len, chipB_ln, lx]), (show (zero72).length = 72 from (show zero72.length = 72 from rfl))]) (rawV_one _) (by rw [rawV_size, (show ((forceI xs b v)).length = 72 by simp only [forceI_len, chipB_ln, lx])]; exact infoRaw2) _ rfl OW OZ ?_; clear OW OZ; intro W OW OZ))
    refine leaves_own [] _ (Nat.le_of_eq HB0.out) (by simpa using OW.out) ?_
    intro W' hO
    exact ⟨.agg (rawV (forceI xs b v)), results_ownRow hO 3 rfl rfl rfl Try.underlying40 rfl (by rw [rawV_size, (show ((forceI xs b v)).length = 72 by simp only [forceI_len, chipB_ln, lx])]; exact infoRaw2), (by simp only [fapply11, hB7, hB10, cond_true, cond_false]), hO.done HB0⟩
  gi_wp2_with (first | (refine own_loadRowV 34 2 40 (.tmp 7) rfl rfl rfl rfl rfl _ Try.underlying40 rfl (by rw [rawV_size, (show (xs).length = 72 from lx)]; exact infoRaw2) OW ?_) | (refine own_loadV 36 0 3 (.tmp 35) rfl rfl rfl rfl rfl (.int .i64 c) rfl naInt OW ?_) | (refine own_loadV 38 0 3 (.tmp 37) rfl rfl rfl rfl rfl (.int .i64 v) rfl naInt OW ?_) | (refine own_valV 39 rfl rfl rfl (.int .u8 ((u8I v).toNat : Int)) (run_cvtO rfl rfl (cvt_u8 Try.underlying3 Try.underlying5)) ?_))
  refine ⟨trivial, ?_⟩
  refine (callsIn_wide.2 (refChip_any mode xs (show (xs).length = 72 from lx) c (u8I v) _)).mono ?_
  rintro e Wg12 ⟨rfl, hbw⟩
  obtain ⟨g12, OW2, OZ2⟩ := own_call OW OZ hbw
  clear hbw OW OZ
  have OW := OW2
  have OZ := OZ2
  clear OW2 OZ2
  gi_wp2_with (first | (refine own_storeRow 3 40 (.tmp 8) (.tmp 40) rfl rfl rfl rfl (rawV (chipB mode xs c (u8I v))) rfl (by rw [rawV_size, rawV_size, (show ((chipB mode xs c (u8I v))).length = 72 by simp only [forceI_len, chipB_ln, lx]), (show (zero72).length = 72 from (show zero72.length = 72 from rfl))]) (rawV_one _) (by rw [rawV_size, (show ((chipB mode xs c (u8I v))).length = 72 by simp only [forceI_len, chipB_ln, lx])]; exact infoRaw2) _ rfl OW OZ ?_; clear OW OZ; intro W OW OZ))
  refine leaves_own [] _ (Nat.le_of_eq HB0.out) (by simpa using OW.out) ?_
  intro W' hO
  exact ⟨.agg (rawV (chipB mode xs c (u8I v))), results_ownRow hO 3 rfl rfl rfl Try.underlying40 rfl (by rw [rawV_size, (show ((chipB mode xs c (u8I v))).length = 72 by simp only [forceI_len, chipB_ln, lx])]; exact infoRaw2), (by simp only [fapply11, hB7, hB10, cond_true, cond_false]), hO.done HB0⟩
end Go.Proofs.Ytckhkagkpldoiaa
