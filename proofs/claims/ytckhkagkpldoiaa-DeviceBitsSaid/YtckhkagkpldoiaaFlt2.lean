/- Faults: walks, further ones. -/
import Derived.Test.YtckhkagkpldoiaaFlt
import Derived.Test.YtckhkagkpldoiaaRvX
import Derived.WalkKit
import Derived.Sort.CutIn
import Derived.IntWalk
namespace Go.Proofs.Ytckhkagkpldoiaa
open Go.RowKit Go.Shelf
attribute [local go_sem] Oper.semAt_some
set_option linter.unusedVariables false
set_option linter.unusedSimpArgs false


theorem chipB_ln (m c : Int) (xs : List UInt8) (v : UInt8) : (chipB m xs c v).length = xs.length := set_len v _ _

def fright (k p0 p1 p2 p3 c b v r s n m l mode : Int) : Bool := (bif k == 2 then ((((((((decide (1 ≤ k)) && (decide (k ≤ 7))) && (rightB mode)) && (decide ([k, p0, p1, p2, p3, c, b, v] = [k, (fbare_1 k p0 p1 p2 p3 c b v), (fbare_2 k p0 p1 p2 p3 c b v), (fbare_3 k p0 p1 p2 p3 c b v), (fbare_4 k p0 p1 p2 p3 c b v), (fbare_5 k p0 p1 p2 p3 c b v), (fbare_6 k p0 p1 p2 p3 c b v), (fbare_7 k p0 p1 p2 p3 c b v)]))) && (gholds r s n m l p0 p1 p2 p3)) && (fbelow b 576)) && (fbelow c ((chN mode : Nat) : Int))) && (fbelow v 2)) else ((((((((decide (1 ≤ k)) && (decide (k ≤ 7))) && (rightB mode)) && (decide ([k, p0, p1, p2, p3, c, b, v] = [k, (fbare_1 k p0 p1 p2 p3 c b v), (fbare_2 k p0 p1 p2 p3 c b v), (fbare_3 k p0 p1 p2 p3 c b v), (fbare_4 k p0 p1 p2 p3 c b v), (fbare_5 k p0 p1 p2 p3 c b v), (fbare_6 k p0 p1 p2 p3 c b v), (fbare_7 k p0 p1 p2 p3 c b v)]))) && (gholds r s n m l p0 p1 p2 p3)) && (fbelow b 576)) && (fbelow c ((chN mode : Nat) : Int))) && (fbelow v 256)))
set_option maxRecDepth 100000 in
set_option maxHeartbeats 1000000 in
theorem fright_any (k p0 p1 p2 p3 c b v r s n m l mode : Int) (w : World) : Calls Try.prog 17 #[.agg #[.int .i64 k, .int .i64 p0, .int .i64 p1, .int .i64 p2, .int .i64 p3, .int .i64 c, .int .i64 b, .int .i64 v], .agg #[.int .i64 r, .int .i64 s, .int .i64 n, .int .i64 m, .int .i64 l], .int .i64 mode] w fun e w' => e = .returned (.bool (fright k p0 p1 p2 p3 c b v r s n m l mode)) ∧ Below w.heap.size w w' := by
  obtain ⟨b0, hb0⟩ : ∃ b0, w.heap.size = b0 := ⟨_, rfl⟩
  have HB0 := Lib.hid hb0
  have OW := Lib.hid (Own.start b0 w)
  have OZ := Lib.hid (And.intro hb0 (Nat.le_refl b0))
  clear hb0
  refine (callsIn_wide (n := 6)).1 ?_
  refine callsIn_of_wp_marks Try.func17 rfl trivial ?_ rfl
  simp only [Try.ntmps17, List.size_toArray, List.length_cons, List.length_nil, Nat.reduceAdd, Nat.reduceSub, Array.replicate_succ, Array.replicate_zero, List.push_toArray, List.append_toArray, List.nil_append, List.cons_append]
  gi_upto_region 2 with (first | (refine own_boxV 3 25 (.tmp 0) rfl rfl rfl (.agg #[.int .i64 k, .int .i64 p0, .int .i64 p1, .int .i64 p2, .int .i64 p3, .int .i64 c, .int .i64 b, .int .i64 v]) rfl #[.int .i64 k, .int .i64 p0, .int .i64 p1, .int .i64 p2, .int .i64 p3, .int .i64 c, .int .i64 b, .int .i64 v] rfl OW OZ ?_; clear OW OZ; intro W g1 OW OZ) | (refine own_boxV 4 27 (.tmp 1) rfl rfl rfl (.agg #[.int .i64 r, .int .i64 s, .int .i64 n, .int .i64 m, .int .i64 l]) rfl #[.int .i64 r, .int .i64 s, .int .i64 n, .int .i64 m, .int .i64 l] rfl OW OZ ?_; clear OW OZ; intro W g2 OW OZ))
  refine wpIn_region_heldL 3 (atD [[], [0], [1]]) (atV [fun vH _ => vH = .pointer (some ⟨b0, 0, none⟩), fun vH _ => vH = .int .i64 k, fun vH _ => vH = .bool (k == 2)]) BelowR (by kernel_rfl) BelowR.trans (BelowR.refl _)
    (StV.atV (.const _ (.const _ (.const _ .nil))))
    ⟨?o3x0, ?o3x1, ?o3x2, trivial⟩ ?_
  case o3x0 =>
    exact held_run free_wide rfl (by rfl) BelowR.refl fun xH w' kH hR => ⟨_, run_fldO rfl (pO (by kernel_rfl) rfl) (by kernel_rfl), rfl⟩
  case o3x1 =>
    exact held_load free_wide rfl BelowR.refl 3 (.tmp 8) rfl fun xH w' kH hR => ⟨_, _, (pT 0 (by kernel_rfl) (by kernel_rfl) (kH 0 (by decide))), ldC OW hR 0 rfl rfl naInt, rfl⟩
  case o3x2 =>
    exact held_run free_wide rfl (by rfl) BelowR.refl fun xH w' kH hR => ⟨_, run_binO rfl (pT 1 (by kernel_rfl) (by kernel_rfl) (kH 1 (by decide))) rfl bin_eql, rfl⟩
  intro xH w' hv hR
  have h0 : xH 0 = _ := hv 0 (by omega)
  have h1 : xH 1 = _ := hv 1 (by omega)
  have h2 : xH 2 = _ := hv 2 (by omega)
  simp only [List.take_succ_cons, List.take_zero, List.drop_succ_cons, List.drop_zero, putsH, Act.put, List.setIfInBounds_toArray, List.set_cons_succ, List.set_cons_zero, h0, h1, h2]
  have OW2 := Lib.hid (OW.out.step hR)
  clear hv hR OW OZ h0 h1 h2
  have OW := OW2
  clear OW2
  obtain ⟨g4, OZ⟩ := own_size OW HB0
  cases hB5 : (k == 2)
  case true =>
    gi_upto_region 4 with fail
    obtain ⟨eo62, qeo62⟩ : ∃ e, (decide (1 ≤ k)) = e := ⟨_, rfl⟩
    obtain ⟨eo66, qeo66⟩ : ∃ e, (decide (k ≤ 7)) = e := ⟨_, rfl⟩
    obtain ⟨eo67, qeo67⟩ : ∃ e, (eo62 && eo66) = e := ⟨_, rfl⟩
    obtain ⟨eo611, qeo611⟩ : ∃ e, (eo67 && (rightB mode)) = e := ⟨_, rfl⟩
    obtain ⟨eo616, qeo616⟩ : ∃ e, (decide ([k, p0, p1, p2, p3, c, b, v] = [k, (fbare_1 k p0 p1 p2 p3 c b v), (fbare_2 k p0 p1 p2 p3 c b v), (fbare_3 k p0 p1 p2 p3 c b v), (fbare_4 k p0 p1 p2 p3 c b v), (fbare_5 k p0 p1 p2 p3 c b v), (fbare_6 k p0 p1 p2 p3 c b v), (fbare_7 k p0 p1 p2 p3 c b v)])) = e := ⟨_, rfl⟩
    obtain ⟨eo617, qeo617⟩ : ∃ e, (eo611 && eo616) = e := ⟨_, rfl⟩
    obtain ⟨eo622, qeo622⟩ : ∃ e, (gholds r s n m l p0 p1 p2 p3) = e := ⟨_, rfl⟩
    obtain ⟨eo623, qeo623⟩ : ∃ e, (eo617 && eo622) = e := ⟨_, rfl⟩
    obtain ⟨eo628, qeo628⟩ : ∃ e, (eo623 && (fbelow b 576)) = e := ⟨_, rfl⟩
    obtain ⟨eo634, qeo634⟩ : ∃ e, (fbelow c ((chN mode : Nat) : Int)) = e := ⟨_, rfl⟩
    obtain ⟨eo635, qeo635⟩ : ∃ e, (eo628 && eo634) = e := ⟨_, rfl⟩
    obtain ⟨eo641, qeo641⟩ : ∃ e, (eo635 && (fbelow v 2)) = e := ⟨_, rfl⟩
    refine wpIn_region_held 43 (atD [[], [0], [1], [2], [3], [3, 4], [3, 5], [3, 6], [7], [8], [8, 9], [8, 10], [11], [12], [12], [12, 14], [12, 13, 15], [12, 16], [17], [18], [18], [18, 20], [18, 19, 21], [18, 22], [23], [24], [24, 25], [24, 26], [24, 27], [28], [29], [29, 30], [29], [29, 32], [29, 31, 33], [29, 34], [35], [36], [36, 37], [36], [36, 38, 39], [36, 40], [41]]) (atV [fun vH _ => vH = .pointer (some ⟨b0, 0, none⟩), fun vH _ => vH = .int .i64 k, fun vH _ => vH = .bool eo62, fun vH _ => vH = .bool eo62, cdV (True ∧ eo62 = true) (fun vH _ => vH = .pointer (some ⟨b0, 0, none⟩)), cdV (True ∧ eo62 = true) (fun vH _ => vH = .int .i64 k), cdV (True ∧ eo62 = true) (fun vH _ => vH = .bool eo66), fun vH _ => vH = .bool eo67, fun vH _ => vH = .bool eo67, cdV (True ∧ eo67 = true) (fun vH _ => vH = .int .i64 mode), cdV (True ∧ eo67 = true) (fun vH _ => vH = .bool (rightB mode)), fun vH _ => vH = .bool eo611, fun vH _ => vH = .bool eo611, cdV (True ∧ eo611 = true) (fun vH _ => vH = .agg #[.int .i64 k, .int .i64 p0, .int .i64 p1, .int .i64 p2, .int .i64 p3, .int .i64 c, .int .i64 b, .int .i64 v]), cdV (True ∧ eo611 = true) (fun vH _ => vH = .agg #[.int .i64 k, .int .i64 p0, .int .i64 p1, .int .i64 p2, .int .i64 p3, .int .i64 c, .int .i64 b, .int .i64 v]), cdV (True ∧ eo611 = true) (fun vH _ => vH = .agg #[.int .i64 k, .int .i64 (fbare_1 k p0 p1 p2 p3 c b v), .int .i64 (fbare_2 k p0 p1 p2 p3 c b v), .int .i64 (fbare_3 k p0 p1 p2 p3 c b v), .int .i64 (fbare_4 k p0 p1 p2 p3 c b v), .int .i64 (fbare_5 k p0 p1 p2 p3 c b v), .int .i64 (fbare_6 k p0 p1 p2 p3 c b v), .int .i64 (fbare_7 k p0 p1 p2 p3 c b v)]), cdV (True ∧ eo611 = true) (fun vH _ => vH = .bool eo616), fun vH _ => vH = .bool eo617, fun vH _ => vH = .bool eo617, cdV (True ∧ eo617 = true) (fun vH _ => vH = .agg #[.int .i64 r, .int .i64 s, .int .i64 n, .int .i64 m, .int .i64 l]), cdV (True ∧ eo617 = true) (fun vH _ => vH = .pointer (some ⟨b0, 1, none⟩)), cdV (True ∧ eo617 = true) (fun vH _ => vH = .agg #[.int .i64 p0, .int .i64 p1, .int .i64 p2, .int .i64 p3]), cdV (True ∧ eo617 = true) (fun vH _ => vH = .bool eo622), fun vH _ => vH = .bool eo623, fun vH _ => vH = .bool eo623, cdV (True ∧ eo623 = true) (fun vH _ => vH = .pointer (some ⟨b0, 6, none⟩)), cdV (True ∧ eo623 = true) (fun vH _ => vH = .int .i64 b), cdV (True ∧ eo623 = true) (fun vH _ => vH = .bool (fbelow b 576)), fun vH _ => vH = .bool eo628, fun vH _ => vH = .bool eo628, cdV (True ∧ eo628 = true) (fun vH _ => vH = .pointer (some ⟨b0, 5, none⟩)), cdV (True ∧ eo628 = true) (fun vH _ => vH = .int .i64 c), cdV (True ∧ eo628 = true) (fun vH _ => vH = .int .i64 mode), cdV (True ∧ eo628 = true) (fun vH _ => vH = .int .i64 ((chN mode : Nat) : Int)), cdV (True ∧ eo628 = true) (fun vH _ => vH = .bool eo634), fun vH _ => vH = .bool eo635, fun vH _ => vH = .bool eo635, cdV (True ∧ eo635 = true) (fun vH _ => vH = .pointer (some ⟨b0, 7, none⟩)), cdV (True ∧ eo635 = true) (fun vH _ => vH = .int .i64 v), cdV (True ∧ eo635 = true) (fun vH _ => vH = .int .i64 2), cdV (True ∧ eo635 = true) (fun vH _ => vH = .bool (fbelow v 2)), fun vH _ => vH = .bool eo641, fun vH _ => vH = .bool eo641]) BelowR (by kernel_rfl) (by kernel_rfl) BelowR.trans (BelowR.drew _)
      (StV.atV (.const _ (.const _ (.const _ (.const _ (.cons (fun v x y h _ => h) (.cons (fun v x y h _ => h) (.cons (fun v x y h _ => h) (.const _ (.const _ (.cons (fun v x y h _ => h) (.cons (fun v x y h _ => h) (.const _ (.const _ (.cons (fun v x y h _ => h) (.cons (fun v x y h _ => h) (.cons (fun v x y h _ => h) (.cons (fun v x y h _ => h) (.const _ (.const _ (.cons (fun v x y h _ => h) (.cons (fun v x y h _ => h) (.cons (fun v x y h _ => h) (.cons (fun v x y h _ => h) (.const _ (.const _ (.cons (fun v x y h _ => h) (.cons (fun v x y h _ => h) (.cons (fun v x y h _ => h) (.const _ (.const _ (.cons (fun v x y h _ => h) (.cons (fun v x y h _ => h) (.cons (fun v x y h _ => h) (.cons (fun v x y h _ => h) (.cons (fun v x y h _ => h) (.const _ (.const _ (.cons (fun v x y h _ => h) (.cons (fun v x y h _ => h) (.cons (fun v x y h _ => h) (.cons (fun v x y h _ => h) (.const _ (.const _ .nil))))))))))))))))))))))))))))))))))))))))))))
      ⟨?o6x0, ?o6x1, ?o6x2, ?o6x3, ?o6x4, ?o6x5, ?o6x6, ?o6x7, ?o6x8, ?o6x9, ?o6x10, ?o6x11, ?o6x12, ?o6x13, ?o6x14, ?o6x15, ?o6x16, ?o6x17, ?o6x18, ?o6x19, ?o6x20, ?o6x21, ?o6x22, ?o6x23, ?o6x24, ?o6x25, ?o6x26, ?o6x27, ?o6x28, ?o6x29, ?o6x30, ?o6x31, ?o6x32, ?o6x33, ?o6x34, ?o6x35, ?o6x36, ?o6x37, ?o6x38, ?o6x39, ?o6x40, ?o6x41, ?o6x42, trivial⟩ ?_
    case o6x0 =>
      exact held_run free_wide rfl (by rfl) BelowR.refl fun xH w' kH hR => ⟨_, run_fldO rfl (pO (by kernel_rfl) rfl) (by kernel_rfl), rfl⟩
    case o6x1 =>
      exact held_load free_wide rfl BelowR.refl 3 (.tmp 11) rfl fun xH w' kH hR => ⟨_, _, (pT 0 (by kernel_rfl) (by kernel_rfl) (kH 0 (by decide))), ldC OW hR 0 rfl rfl naInt, rfl⟩
    case o6x2 =>
      exact held_run free_wide rfl (by rfl) BelowR.refl fun xH w' kH hR => ⟨_, run_binO rfl (pT 1 (by kernel_rfl) (by kernel_rfl) (kH 1 (by decide))) rfl bin_geq, (congrArg Value.bool qeo62)⟩
    case o6x3 =>
      exact held_move free_wide rfl BelowR.refl (.tmp 13) (.inl rfl) fun xH w' kH _ => (pT 2 (by kernel_rfl) (by kernel_rfl) (kH 2 (by decide)))
    case o6x4 =>
      refine held_guard free_wide 3 14 true True eo62 BelowR.refl rfl (by kernel_rfl) (by kernel_rfl) (by kernel_rfl) (fun xH w' kH => .inl ⟨trivial, kH 3 (by decide)⟩) (fun hC hG => ?_) (fun hN w' => .inr ⟨hN, rfl⟩)
      exact held_runG free_wide hG (by rfl) BelowR.refl fun xH w' kH hR => ⟨_, run_fldO rfl (pO (by kernel_rfl) rfl) (by kernel_rfl), (.inl ⟨hC, rfl⟩)⟩
    case o6x5 =>
      refine held_guard free_wide 3 14 true True eo62 BelowR.refl rfl (by kernel_rfl) (by kernel_rfl) (by kernel_rfl) (fun xH w' kH => .inl ⟨trivial, kH 3 (by decide)⟩) (fun hC hG => ?_) (fun hN w' => .inr ⟨hN, rfl⟩)
      exact held_loadG free_wide hG BelowR.refl 3 (.tmp 15) rfl fun xH w' kH hR => ⟨_, _, (pT 4 (by kernel_rfl) (by kernel_rfl) (cdAt (kH 4 (by decide)) rfl hC)), ldC OW hR 0 rfl rfl naInt, (.inl ⟨hC, rfl⟩)⟩
    case o6x6 =>
      refine held_guard free_wide 3 14 true True eo62 BelowR.refl rfl (by kernel_rfl) (by kernel_rfl) (by kernel_rfl) (fun xH w' kH => .inl ⟨trivial, kH 3 (by decide)⟩) (fun hC hG => ?_) (fun hN w' => .inr ⟨hN, rfl⟩)
      exact held_runG free_wide hG (by rfl) BelowR.refl fun xH w' kH hR => ⟨_, run_binO rfl (pT 5 (by kernel_rfl) (by kernel_rfl) (cdAt (kH 5 (by decide)) rfl hC)) rfl bin_leq, (.inl ⟨hC, congrArg Value.bool qeo66⟩)⟩
    case o6x7 =>
      exact held_run free_wide rfl (by rfl) BelowR.refl fun xH w' kH hR => ⟨_, run_pickAnd rfl (pT 3 (by kernel_rfl) (by kernel_rfl) (kH 3 (by decide))) rfl (fun h => pT 6 (by kernel_rfl) (by kernel_rfl) (cdAt (kH 6 (by decide)) rfl (And.intro trivial h))), (congrArg Value.bool qeo67)⟩
    case o6x8 =>
      exact held_move free_wide rfl BelowR.refl (.tmp 18) (.inl rfl) fun xH w' kH _ => (pT 7 (by kernel_rfl) (by kernel_rfl) (kH 7 (by decide)))
    case o6x9 =>
      refine held_guard free_wide 8 19 true True eo67 BelowR.refl rfl (by kernel_rfl) (by kernel_rfl) (by kernel_rfl) (fun xH w' kH => .inl ⟨trivial, kH 8 (by decide)⟩) (fun hC hG => ?_) (fun hN w' => .inr ⟨hN, rfl⟩)
      exact held_moveG free_wide hG BelowR.refl (.tmp 2) (.inl rfl) fun xH w' kH _ => .inl ⟨hC, (pO (by kernel_rfl) rfl)⟩
    case o6x10 =>
      refine held_guard free_wide 8 19 true True eo67 BelowR.refl rfl (by kernel_rfl) (by kernel_rfl) (by kernel_rfl) (fun xH w' kH => .inl ⟨trivial, kH 8 (by decide)⟩) (fun hC hG => ?_) (fun hN w' => .inr ⟨hN, rfl⟩)
      refine held_callG free_wide hG 60 _ _ rfl (enters_of Try.func60 (by kernel_rfl) rfl) fun xH w' kH hR => ⟨_, mapE1 (pT 9 (by kernel_rfl) (by kernel_rfl) (cdAt (kH 9 (by decide)) rfl hC)), ?_⟩
      refine (callsIn_wide.2 (right_any mode _)).mono ?_
      rintro e w2 ⟨rfl, rfl⟩
      exact ⟨_, rfl, (.inl ⟨hC, rfl⟩), BelowR.refl _⟩
    case o6x11 =>
      exact held_run free_wide rfl (by rfl) BelowR.refl fun xH w' kH hR => ⟨_, run_pickAnd rfl (pT 8 (by kernel_rfl) (by kernel_rfl) (kH 8 (by decide))) rfl (fun h => pT 10 (by kernel_rfl) (by kernel_rfl) (cdAt (kH 10 (by decide)) rfl (And.intro trivial h))), (congrArg Value.bool qeo611)⟩
    case o6x12 =>
      exact held_move free_wide rfl BelowR.refl (.tmp 22) (.inl rfl) fun xH w' kH _ => (pT 11 (by kernel_rfl) (by kernel_rfl) (kH 11 (by decide)))
    case o6x13 =>
      refine held_guard free_wide 12 23 true True eo611 BelowR.refl rfl (by kernel_rfl) (by kernel_rfl) (by kernel_rfl) (fun xH w' kH => .inl ⟨trivial, kH 12 (by decide)⟩) (fun hC hG => ?_) (fun hN w' => .inr ⟨hN, rfl⟩)
      exact held_loadG free_wide hG BelowR.refl 25 (.tmp 3) rfl fun xH w' kH hR => ⟨_, _, (pO (by kernel_rfl) rfl), ldS OW hR 0 rfl 8 rfl Try.underlying25 rfl rfl (by kernel_rfl), (.inl ⟨hC, rfl⟩)⟩
    case o6x14 =>
      refine held_guard free_wide 12 23 true True eo611 BelowR.refl rfl (by kernel_rfl) (by kernel_rfl) (by kernel_rfl) (fun xH w' kH => .inl ⟨trivial, kH 12 (by decide)⟩) (fun hC hG => ?_) (fun hN w' => .inr ⟨hN, rfl⟩)
      exact held_loadG free_wide hG BelowR.refl 25 (.tmp 3) rfl fun xH w' kH hR => ⟨_, _, (pO (by kernel_rfl) rfl), ldS OW hR 0 rfl 8 rfl Try.underlying25 rfl rfl (by kernel_rfl), (.inl ⟨hC, rfl⟩)⟩
    case o6x15 =>
      refine held_guard free_wide 12 23 true True eo611 BelowR.refl rfl (by kernel_rfl) (by kernel_rfl) (by kernel_rfl) (fun xH w' kH => .inl ⟨trivial, kH 12 (by decide)⟩) (fun hC hG => ?_) (fun hN w' => .inr ⟨hN, rfl⟩)
      refine held_callG free_wide hG 61 _ _ rfl (enters_of Try.func61 (by kernel_rfl) rfl) fun xH w' kH hR => ⟨_, mapE1 (pT 14 (by kernel_rfl) (by kernel_rfl) (cdAt (kH 14 (by decide)) rfl hC)), ?_⟩
      refine (callsIn_wide.2 (fbare_any k p0 p1 p2 p3 c b v _)).mono ?_
      rintro e w2 ⟨rfl, h2⟩
      exact ⟨_, rfl, (.inl ⟨hC, rfl⟩), h2⟩
    case o6x16 =>
      refine held_guard free_wide 12 23 true True eo611 BelowR.refl rfl (by kernel_rfl) (by kernel_rfl) (by kernel_rfl) (fun xH w' kH => .inl ⟨trivial, kH 12 (by decide)⟩) (fun hC hG => ?_) (fun hN w' => .inr ⟨hN, rfl⟩)
      exact held_runG free_wide hG (by rfl) BelowR.refl fun xH w' kH hR => ⟨_, run_binO rfl (pT 13 (by kernel_rfl) (by kernel_rfl) (cdAt (kH 13 (by decide)) rfl hC)) (pT 15 (by kernel_rfl) (by kernel_rfl) (cdAt (kH 15 (by decide)) rfl hC)) (eql_Fault (l := [k, p0, p1, p2, p3, c, b, v]) (m := [k, (fbare_1 k p0 p1 p2 p3 c b v), (fbare_2 k p0 p1 p2 p3 c b v), (fbare_3 k p0 p1 p2 p3 c b v), (fbare_4 k p0 p1 p2 p3 c b v), (fbare_5 k p0 p1 p2 p3 c b v), (fbare_6 k p0 p1 p2 p3 c b v), (fbare_7 k p0 p1 p2 p3 c b v)]) rfl rfl), (.inl ⟨hC, congrArg Value.bool qeo616⟩)⟩
    case o6x17 =>
      exact held_run free_wide rfl (by rfl) BelowR.refl fun xH w' kH hR => ⟨_, run_pickAnd rfl (pT 12 (by kernel_rfl) (by kernel_rfl) (kH 12 (by decide))) rfl (fun h => pT 16 (by kernel_rfl) (by kernel_rfl) (cdAt (kH 16 (by decide)) rfl (And.intro trivial h))), (congrArg Value.bool qeo617)⟩
    case o6x18 =>
      exact held_move free_wide rfl BelowR.refl (.tmp 28) (.inl rfl) fun xH w' kH _ => (pT 17 (by kernel_rfl) (by kernel_rfl) (kH 17 (by decide)))
    case o6x19 =>
      refine held_guard free_wide 18 29 true True eo617 BelowR.refl rfl (by kernel_rfl) (by kernel_rfl) (by kernel_rfl) (fun xH w' kH => .inl ⟨trivial, kH 18 (by decide)⟩) (fun hC hG => ?_) (fun hN w' => .inr ⟨hN, rfl⟩)
      exact held_loadG free_wide hG BelowR.refl 27 (.tmp 4) rfl fun xH w' kH hR => ⟨_, _, (pO (by kernel_rfl) rfl), ldS OW hR 1 rfl 5 rfl Try.underlying27 rfl rfl (by kernel_rfl), (.inl ⟨hC, rfl⟩)⟩
    case o6x20 =>
      refine held_guard free_wide 18 29 true True eo617 BelowR.refl rfl (by kernel_rfl) (by kernel_rfl) (by kernel_rfl) (fun xH w' kH => .inl ⟨trivial, kH 18 (by decide)⟩) (fun hC hG => ?_) (fun hN w' => .inr ⟨hN, rfl⟩)
      exact held_runG free_wide hG (by rfl) BelowR.refl fun xH w' kH hR => ⟨_, run_fldO rfl (pO (by kernel_rfl) rfl) (by kernel_rfl), (.inl ⟨hC, rfl⟩)⟩
    case o6x21 =>
      refine held_guard free_wide 18 29 true True eo617 BelowR.refl rfl (by kernel_rfl) (by kernel_rfl) (by kernel_rfl) (fun xH w' kH => .inl ⟨trivial, kH 18 (by decide)⟩) (fun hC hG => ?_) (fun hN w' => .inr ⟨hN, rfl⟩)
      exact held_loadG free_wide hG BelowR.refl 23 (.tmp 31) rfl fun xH w' kH hR => ⟨_, _, (pT 20 (by kernel_rfl) (by kernel_rfl) (cdAt (kH 20 (by decide)) rfl hC)), ldS OW hR 0 rfl 4 rfl Try.underlying23 rfl rfl (by kernel_rfl), (.inl ⟨hC, rfl⟩)⟩
    case o6x22 =>
      refine held_guard free_wide 18 29 true True eo617 BelowR.refl rfl (by kernel_rfl) (by kernel_rfl) (by kernel_rfl) (fun xH w' kH => .inl ⟨trivial, kH 18 (by decide)⟩) (fun hC hG => ?_) (fun hN w' => .inr ⟨hN, rfl⟩)
      refine held_callG free_wide hG 62 _ _ rfl (enters_of Try.func62 (by kernel_rfl) rfl) fun xH w' kH hR => ⟨_, mapE2 (pT 19 (by kernel_rfl) (by kernel_rfl) (cdAt (kH 19 (by decide)) rfl hC)) (pT 21 (by kernel_rfl) (by kernel_rfl) (cdAt (kH 21 (by decide)) rfl hC)), ?_⟩
      refine (callsIn_wide.2 (gholds_any r s n m l p0 p1 p2 p3 _)).mono ?_
      rintro e w2 ⟨rfl, h2⟩
      exact ⟨_, rfl, (.inl ⟨hC, congrArg Value.bool qeo622⟩), h2⟩
    case o6x23 =>
      exact held_run free_wide rfl (by rfl) BelowR.refl fun xH w' kH hR => ⟨_, run_pickAnd rfl (pT 18 (by kernel_rfl) (by kernel_rfl) (kH 18 (by decide))) rfl (fun h => pT 22 (by kernel_rfl) (by kernel_rfl) (cdAt (kH 22 (by decide)) rfl (And.intro trivial h))), (congrArg Value.bool qeo623)⟩
    case o6x24 =>
      exact held_move free_wide rfl BelowR.refl (.tmp 34) (.inl rfl) fun xH w' kH _ => (pT 23 (by kernel_rfl) (by kernel_rfl) (kH 23 (by decide)))
    case o6x25 =>
      refine held_guard free_wide 24 35 true True eo623 BelowR.refl rfl (by kernel_rfl) (by kernel_rfl) (by kernel_rfl) (fun xH w' kH => .inl ⟨trivial, kH 24 (by decide)⟩) (fun hC hG => ?_) (fun hN w' => .inr ⟨hN, rfl⟩)
      exact held_runG free_wide hG (by rfl) BelowR.refl fun xH w' kH hR => ⟨_, run_fldO rfl (pO (by kernel_rfl) rfl) (by kernel_rfl), (.inl ⟨hC, rfl⟩)⟩
    case o6x26 =>
      refine held_guard free_wide 24 35 true True eo623 BelowR.refl rfl (by kernel_rfl) (by kernel_rfl) (by kernel_rfl) (fun xH w' kH => .inl ⟨trivial, kH 24 (by decide)⟩) (fun hC hG => ?_) (fun hN w' => .inr ⟨hN, rfl⟩)
      exact held_loadG free_wide hG BelowR.refl 3 (.tmp 36) rfl fun xH w' kH hR => ⟨_, _, (pT 25 (by kernel_rfl) (by kernel_rfl) (cdAt (kH 25 (by decide)) rfl hC)), ldC OW hR 0 rfl rfl naInt, (.inl ⟨hC, rfl⟩)⟩
    case o6x27 =>
      refine held_guard free_wide 24 35 true True eo623 BelowR.refl rfl (by kernel_rfl) (by kernel_rfl) (by kernel_rfl) (fun xH w' kH => .inl ⟨trivial, kH 24 (by decide)⟩) (fun hC hG => ?_) (fun hN w' => .inr ⟨hN, rfl⟩)
      refine held_callG free_wide hG 63 _ _ rfl (enters_of Try.func63 (by kernel_rfl) rfl) fun xH w' kH hR => ⟨_, mapE2 (pT 26 (by kernel_rfl) (by kernel_rfl) (cdAt (kH 26 (by decide)) rfl hC)) rfl, ?_⟩
      refine (callsIn_wide.2 (fbelow_any b 576 _)).mono ?_
      rintro e w2 ⟨rfl, h2⟩
      exact ⟨_, rfl, (.inl ⟨hC, rfl⟩), h2⟩
    case o6x28 =>
      exact held_run free_wide rfl (by rfl) BelowR.refl fun xH w' kH hR => ⟨_, run_pickAnd rfl (pT 24 (by kernel_rfl) (by kernel_rfl) (kH 24 (by decide))) rfl (fun h => pT 27 (by kernel_rfl) (by kernel_rfl) (cdAt (kH 27 (by decide)) rfl (And.intro trivial h))), (congrArg Value.bool qeo628)⟩
    case o6x29 =>
      exact held_move free_wide rfl BelowR.refl (.tmp 39) (.inl rfl) fun xH w' kH _ => (pT 28 (by kernel_rfl) (by kernel_rfl) (kH 28 (by decide)))
    case o6x30 =>
      refine held_guard free_wide 29 40 true True eo628 BelowR.refl rfl (by kernel_rfl) (by kernel_rfl) (by kernel_rfl) (fun xH w' kH => .inl ⟨trivial, kH 29 (by decide)⟩) (fun hC hG => ?_) (fun hN w' => .inr ⟨hN, rfl⟩)
      exact held_runG free_wide hG (by rfl) BelowR.refl fun xH w' kH hR => ⟨_, run_fldO rfl (pO (by kernel_rfl) rfl) (by kernel_rfl), (.inl ⟨hC, rfl⟩)⟩
    case o6x31 =>
      refine held_guard free_wide 29 40 true True eo628 BelowR.refl rfl (by kernel_rfl) (by kernel_rfl) (by kernel_rfl) (fun xH w' kH => .inl ⟨trivial, kH 29 (by decide)⟩) (fun hC hG => ?_) (fun hN w' => .inr ⟨hN, rfl⟩)
      exact held_loadG free_wide hG BelowR.refl 3 (.tmp 41) rfl fun xH w' kH hR => ⟨_, _, (pT 30 (by kernel_rfl) (by kernel_rfl) (cdAt (kH 30 (by decide)) rfl hC)), ldC OW hR 0 rfl rfl naInt, (.inl ⟨hC, rfl⟩)⟩
    case o6x32 =>
      refine held_guard free_wide 29 40 true True eo628 BelowR.refl rfl (by kernel_rfl) (by kernel_rfl) (by kernel_rfl) (fun xH w' kH => .inl ⟨trivial, kH 29 (by decide)⟩) (fun hC hG => ?_) (fun hN w' => .inr ⟨hN, rfl⟩)
      exact held_moveG free_wide hG BelowR.refl (.tmp 2) (.inl rfl) fun xH w' kH _ => .inl ⟨hC, (pO (by kernel_rfl) rfl)⟩
    case o6x33 =>
      refine held_guard free_wide 29 40 true True eo628 BelowR.refl rfl (by kernel_rfl) (by kernel_rfl) (by kernel_rfl) (fun xH w' kH => .inl ⟨trivial, kH 29 (by decide)⟩) (fun hC hG => ?_) (fun hN w' => .inr ⟨hN, rfl⟩)
      refine held_callG free_wide hG 64 _ _ rfl (enters_of Try.func64 (by kernel_rfl) rfl) fun xH w' kH hR => ⟨_, mapE1 (pT 32 (by kernel_rfl) (by kernel_rfl) (cdAt (kH 32 (by decide)) rfl hC)), ?_⟩
      refine (callsIn_wide.2 (chips_any mode _)).mono ?_
      rintro e w2 ⟨rfl, rfl⟩
      exact ⟨_, rfl, (.inl ⟨hC, rfl⟩), BelowR.refl _⟩
    case o6x34 =>
      refine held_guard free_wide 29 40 true True eo628 BelowR.refl rfl (by kernel_rfl) (by kernel_rfl) (by kernel_rfl) (fun xH w' kH => .inl ⟨trivial, kH 29 (by decide)⟩) (fun hC hG => ?_) (fun hN w' => .inr ⟨hN, rfl⟩)
      refine held_callG free_wide hG 63 _ _ rfl (enters_of Try.func63 (by kernel_rfl) rfl) fun xH w' kH hR => ⟨_, mapE2 (pT 31 (by kernel_rfl) (by kernel_rfl) (cdAt (kH 31 (by decide)) rfl hC)) (pT 33 (by kernel_rfl) (by kernel_rfl) (cdAt (kH 33 (by decide)) rfl hC)), ?_⟩
      refine (callsIn_wide.2 (fbelow_any c ((chN mode : Nat) : Int) _)).mono ?_
      rintro e w2 ⟨rfl, h2⟩
      exact ⟨_, rfl, (.inl ⟨hC, congrArg Value.bool qeo634⟩), h2⟩
    case o6x35 =>
      exact held_run free_wide rfl (by rfl) BelowR.refl fun xH w' kH hR => ⟨_, run_pickAnd rfl (pT 29 (by kernel_rfl) (by kernel_rfl) (kH 29 (by decide))) rfl (fun h => pT 34 (by kernel_rfl) (by kernel_rfl) (cdAt (kH 34 (by decide)) rfl (And.intro trivial h))), (congrArg Value.bool qeo635)⟩
    case o6x36 =>
      exact held_move free_wide rfl BelowR.refl (.tmp 46) (.inl rfl) fun xH w' kH _ => (pT 35 (by kernel_rfl) (by kernel_rfl) (kH 35 (by decide)))
    case o6x37 =>
      refine held_guard free_wide 36 47 true True eo635 BelowR.refl rfl (by kernel_rfl) (by kernel_rfl) (by kernel_rfl) (fun xH w' kH => .inl ⟨trivial, kH 36 (by decide)⟩) (fun hC hG => ?_) (fun hN w' => .inr ⟨hN, rfl⟩)
      exact held_runG free_wide hG (by rfl) BelowR.refl fun xH w' kH hR => ⟨_, run_fldO rfl (pO (by kernel_rfl) rfl) (by kernel_rfl), (.inl ⟨hC, rfl⟩)⟩
    case o6x38 =>
      refine held_guard free_wide 36 47 true True eo635 BelowR.refl rfl (by kernel_rfl) (by kernel_rfl) (by kernel_rfl) (fun xH w' kH => .inl ⟨trivial, kH 36 (by decide)⟩) (fun hC hG => ?_) (fun hN w' => .inr ⟨hN, rfl⟩)
      exact held_loadG free_wide hG BelowR.refl 3 (.tmp 48) rfl fun xH w' kH hR => ⟨_, _, (pT 37 (by kernel_rfl) (by kernel_rfl) (cdAt (kH 37 (by decide)) rfl hC)), ldC OW hR 0 rfl rfl naInt, (.inl ⟨hC, rfl⟩)⟩
    case o6x39 =>
      refine held_guard free_wide 36 47 true True eo635 BelowR.refl rfl (by kernel_rfl) (by kernel_rfl) (by kernel_rfl) (fun xH w' kH => .inl ⟨trivial, kH 36 (by decide)⟩) (fun hC hG => ?_) (fun hN w' => .inr ⟨hN, rfl⟩)
      exact held_moveG free_wide hG BelowR.refl (.tmp 7) (.inl rfl) fun xH w' kH _ => .inl ⟨hC, (pO (by kernel_rfl) rfl)⟩
    case o6x40 =>
      refine held_guard free_wide 36 47 true True eo635 BelowR.refl rfl (by kernel_rfl) (by kernel_rfl) (by kernel_rfl) (fun xH w' kH => .inl ⟨trivial, kH 36 (by decide)⟩) (fun hC hG => ?_) (fun hN w' => .inr ⟨hN, rfl⟩)
      refine held_callG free_wide hG 63 _ _ rfl (enters_of Try.func63 (by kernel_rfl) rfl) fun xH w' kH hR => ⟨_, mapE2 (pT 38 (by kernel_rfl) (by kernel_rfl) (cdAt (kH 38 (by decide)) rfl hC)) (pT 39 (by kernel_rfl) (by kernel_rfl) (cdAt (kH 39 (by decide)) rfl hC)), ?_⟩
      refine (callsIn_wide.2 (fbelow_any v 2 _)).mono ?_
      rintro e w2 ⟨rfl, h2⟩
      exact ⟨_, rfl, (.inl ⟨hC, rfl⟩), h2⟩
    case o6x41 =>
      exact held_run free_wide rfl (by rfl) BelowR.refl fun xH w' kH hR => ⟨_, run_pickAnd rfl (pT 36 (by kernel_rfl) (by kernel_rfl) (kH 36 (by decide))) rfl (fun h => pT 40 (by kernel_rfl) (by kernel_rfl) (cdAt (kH 40 (by decide)) rfl (And.intro trivial h))), (congrArg Value.bool qeo641)⟩
    case o6x42 =>
      exact held_move free_wide rfl BelowR.refl (.tmp 52) (.inr rfl) fun xH w' kH _ => (pT 41 (by kernel_rfl) (by kernel_rfl) (kH 41 (by decide)))
    intro xH w' hv hR
    subst qeo641 qeo635 qeo634 qeo628 qeo623 qeo622 qeo617 qeo616 qeo611 qeo67 qeo66 qeo62
    have h0 : xH 0 = _ := hv 0 (by omega)
    have h1 : xH 1 = _ := hv 1 (by omega)
    have h2 : xH 2 = _ := hv 2 (by omega)
    have h3 : xH 3 = _ := hv 3 (by omega)
    have h7 : xH 7 = _ := hv 7 (by omega)
    have h8 : xH 8 = _ := hv 8 (by omega)
    have h11 : xH 11 = _ := hv 11 (by omega)
    have h12 : xH 12 = _ := hv 12 (by omega)
    have h17 : xH 17 = _ := hv 17 (by omega)
    have h18 : xH 18 = _ := hv 18 (by omega)
    have h23 : xH 23 = _ := hv 23 (by omega)
    have h24 : xH 24 = _ := hv 24 (by omega)
    have h28 : xH 28 = _ := hv 28 (by omega)
    have h29 : xH 29 = _ := hv 29 (by omega)
    have h35 : xH 35 = _ := hv 35 (by omega)
    have h36 : xH 36 = _ := hv 36 (by omega)
    have h41 : xH 41 = _ := hv 41 (by omega)
    have h42 : xH 42 = _ := hv 42 (by omega)
    simp only [List.take_succ_cons, List.take_zero, List.drop_succ_cons, List.drop_zero, putsH, Act.put, List.setIfInBounds_toArray, List.set_cons_succ, List.set_cons_zero, h0, h1, h2, h3, h7, h8, h11, h12, h17, h18, h23, h24, h28, h29, h35, h36, h41, h42]
    have OW2 := Lib.hid (OW.out.step hR)
    clear hv hR OW OZ h0 h1 h2 h3 h7 h8 h11 h12 h17 h18 h23 h24 h28 h29 h35 h36 h41 h42
    have OW := OW2
    clear OW2
    obtain ⟨g7, OZ⟩ := own_size OW HB0
    gi_wp2
    refine leaves_own [] _ (Nat.le_of_eq HB0.out) (by simpa using OW.out) ?_
    intro W' hO
    exact ⟨.bool ((((((((decide (1 ≤ k)) && (decide (k ≤ 7))) && (rightB mode)) && (decide ([k, p0, p1, p2, p3, c, b, v] = [k, (fbare_1 k p0 p1 p2 p3 c b v), (fbare_2 k p0 p1 p2 p3 c b v), (fbare_3 k p0 p1 p2 p3 c b v), (fbare_4 k p0 p1 p2 p3 c b v), (fbare_5 k p0 p1 p2 p3 c b v), (fbare_6 k p0 p1 p2 p3 c b v), (fbare_7 k p0 p1 p2 p3 c b v)]))) && (gholds r s n m l p0 p1 p2 p3)) && (fbelow b 576)) && (fbelow c ((chN mode : Nat) : Int))) && (fbelow v 2)), by simp [results, Try.results17, go_sem], (by simp only [fright, hB5, cond_true, cond_false]), hO.done HB0⟩
  gi_upto_region 4 with fail
  obtain ⟨eo82, qeo82⟩ : ∃ e, (decide (1 ≤ k)) = e := ⟨_, rfl⟩
  obtain ⟨eo86, qeo86⟩ : ∃ e, (decide (k ≤ 7)) = e := ⟨_, rfl⟩
  obtain ⟨eo87, qeo87⟩ : ∃ e, (eo82 && eo86) = e := ⟨_, rfl⟩
  obtain ⟨eo811, qeo811⟩ : ∃ e, (eo87 && (rightB mode)) = e := ⟨_, rfl⟩
  obtain ⟨eo816, qeo816⟩ : ∃ e, (decide ([k, p0, p1, p2, p3, c, b, v] = [k, (fbare_1 k p0 p1 p2 p3 c b v), (fbare_2 k p0 p1 p2 p3 c b v), (fbare_3 k p0 p1 p2 p3 c b v), (fbare_4 k p0 p1 p2 p3 c b v), (fbare_5 k p0 p1 p2 p3 c b v), (fbare_6 k p0 p1 p2 p3 c b v), (fbare_7 k p0 p1 p2 p3 c b v)])) = e := ⟨_, rfl⟩
  obtain ⟨eo817, qeo817⟩ : ∃ e, (eo811 && eo816) = e := ⟨_, rfl⟩
  obtain ⟨eo822, qeo822⟩ : ∃ e, (gholds r s n m l p0 p1 p2 p3) = e := ⟨_, rfl⟩
  obtain ⟨eo823, qeo823⟩ : ∃ e, (eo817 && eo822) = e := ⟨_, rfl⟩
  obtain ⟨eo828, qeo828⟩ : ∃ e, (eo823 && (fbelow b 576)) = e := ⟨_, rfl⟩
  obtain ⟨eo834, qeo834⟩ : ∃ e, (fbelow c ((chN mode : Nat) : Int)) = e := ⟨_, rfl⟩
  obtain ⟨eo835, qeo835⟩ : ∃ e, (eo828 && eo834) = e := ⟨_, rfl⟩
  obtain ⟨eo841, qeo841⟩ : ∃ e, (eo835 && (fbelow v 256)) = e := ⟨_, rfl⟩
  refine wpIn_region_held 43 (atD [[], [0], [1], [2], [3], [3, 4], [3, 5], [3, 6], [7], [8], [8, 9], [8, 10], [11], [12], [12], [12, 14], [12, 13, 15], [12, 16], [17], [18], [18], [18, 20], [18, 19, 21], [18, 22], [23], [24], [24, 25], [24, 26], [24, 27], [28], [29], [29, 30], [29], [29, 32], [29, 31, 33], [29, 34], [35], [36], [36, 37], [36], [36, 38, 39], [36, 40], [41]]) (atV [fun vH _ => vH = .pointer (some ⟨b0, 0, none⟩), fun vH _ => vH = .int .i64 k, fun vH _ => vH = .bool eo82, fun vH _ => vH = .bool eo82, cdV (True ∧ eo82 = true) (fun vH _ => vH = .pointer (some ⟨b0, 0, none⟩)), cdV (True ∧ eo82 = true) (fun vH _ => vH = .int .i64 k), cdV (True ∧ eo82 = true) (fun vH _ => vH = .bool eo86), fun vH _ => vH = .bool eo87, fun vH _ => vH = .bool eo87, cdV (True ∧ eo87 = true) (fun vH _ => vH = .int .i64 mode), cdV (True ∧ eo87 = true) (fun vH _ => vH = .bool (rightB mode)), fun vH _ => vH = .bool eo811, fun vH _ => vH = .bool eo811, cdV (True ∧ eo811 = true) (fun vH _ => vH = .agg #[.int .i64 k, .int .i64 p0, .int .i64 p1, .int .i64 p2, .int .i64 p3, .int .i64 c, .int .i64 b, .int .i64 v]), cdV (True ∧ eo811 = true) (fun vH _ => vH = .agg #[.int .i64 k, .int .i64 p0, .int .i64 p1, .int .i64 p2, .int .i64 p3, .int .i64 c, .int .i64 b, .int .i64 v]), cdV (True ∧ eo811 = true) (fun vH _ => vH = .agg #[.int .i64 k, .int .i64 (fbare_1 k p0 p1 p2 p3 c b v), .int .i64 (fbare_2 k p0 p1 p2 p3 c b v), .int .i64 (fbare_3 k p0 p1 p2 p3 c b v), .int .i64 (fbare_4 k p0 p1 p2 p3 c b v), .int .i64 (fbare_5 k p0 p1 p2 p3 c b v), .int .i64 (fbare_6 k p0 p1 p2 p3 c b v), .int .i64 (fbare_7 k p0 p1 p2 p3 c b v)]), cdV (True ∧ eo811 = true) (fun vH _ => vH = .bool eo816), fun vH _ => vH = .bool eo817, fun vH _ => vH = .bool eo817, cdV (True ∧ eo817 = true) (fun vH _ => vH = .agg #[.int .i64 r, .int .i64 s, .int .i64 n, .int .i64 m, .int .i64 l]), cdV (True ∧ eo817 = true) (fun vH _ => vH = .pointer (some ⟨b0, 1, none⟩)), cdV (True ∧ eo817 = true) (fun vH _ => vH = .agg #[.int .i64 p0, .int .i64 p1, .int .i64 p2, .int .i64 p3]), cdV (True ∧ eo817 = true) (fun vH _ => vH = .bool eo822), fun vH _ => vH = .bool eo823, fun vH _ => vH = .bool eo823, cdV (True ∧ eo823 = true) (fun vH _ => vH = .pointer (some ⟨b0, 6, none⟩)), cdV (True ∧ eo823 = true) (fun vH _ => vH = .int .i64 b), cdV (True ∧ eo823 = true) (fun vH _ => vH = .bool (fbelow b 576)), fun vH _ => vH = .bool eo828, fun vH _ => vH = .bool eo828, cdV (True ∧ eo828 = true) (fun vH _ => vH = .pointer (some ⟨b0, 5, none⟩)), cdV (True ∧ eo828 = true) (fun vH _ => vH = .int .i64 c), cdV (True ∧ eo828 = true) (fun vH _ => vH = .int .i64 mode), cdV (True ∧ eo828 = true) (fun vH _ => vH = .int .i64 ((chN mode : Nat) : Int)), cdV (True ∧ eo828 = true) (fun vH _ => vH = .bool eo834), fun vH _ => vH = .bool eo835, fun vH _ => vH = .bool eo835, cdV (True ∧ eo835 = true) (fun vH _ => vH = .pointer (some ⟨b0, 7, none⟩)), cdV (True ∧ eo835 = true) (fun vH _ => vH = .int .i64 v), cdV (True ∧ eo835 = true) (fun vH _ => vH = .int .i64 256), cdV (True ∧ eo835 = true) (fun vH _ => vH = .bool (fbelow v 256)), fun vH _ => vH = .bool eo841, fun vH _ => vH = .bool eo841]) BelowR (by kernel_rfl) (by kernel_rfl) BelowR.trans (BelowR.drew _)
    (StV.atV (.const _ (.const _ (.const _ (.const _ (.cons (fun v x y h _ => h) (.cons (fun v x y h _ => h) (.cons (fun v x y h _ => h) (.const _ (.const _ (.cons (fun v x y h _ => h) (.cons (fun v x y h _ => h) (.const _ (.const _ (.cons (fun v x y h _ => h) (.cons (fun v x y h _ => h) (.cons (fun v x y h _ => h) (.cons (fun v x y h _ => h) (.const _ (.const _ (.cons (fun v x y h _ => h) (.cons (fun v x y h _ => h) (.cons (fun v x y h _ => h) (.cons (fun v x y h _ => h) (.const _ (.const _ (.cons (fun v x y h _ => h) (.cons (fun v x y h _ => h) (.cons (fun v x y h _ => h) (.const _ (.const _ (.cons (fun v x y h _ => h) (.cons (fun v x y h _ => h) (.cons (fun v x y h _ => h) (.cons (fun v x y h _ => h) (.cons (fun v x y h _ => h) (.const _ (.const _ (.cons (fun v x y h _ => h) (.cons (fun v x y h _ => h) (.cons (fun v x y h _ => h) (.cons (fun v x y h _ => h) (.const _ (.const _ .nil))))))))))))))))))))))))))))))))))))))))))))
    ⟨?o8x0, ?o8x1, ?o8x2, ?o8x3, ?o8x4, ?o8x5, ?o8x6, ?o8x7, ?o8x8, ?o8x9, ?o8x10, ?o8x11, ?o8x12, ?o8x13, ?o8x14, ?o8x15, ?o8x16, ?o8x17, ?o8x18, ?o8x19, ?o8x20, ?o8x21, ?o8x22, ?o8x23, ?o8x24, ?o8x25, ?o8x26, ?o8x27, ?o8x28, ?o8x29, ?o8x30, ?o8x31, ?o8x32, ?o8x33, ?o8x34, ?o8x35, ?o8x36, ?o8x37, ?o8x38, ?o8x39, ?o8x40, ?o8x41, ?o8x42, trivial⟩ ?_
  case o8x0 =>
    exact held_run free_wide rfl (by rfl) BelowR.refl fun xH w' kH hR => ⟨_, run_fldO rfl (pO (by kernel_rfl) rfl) (by kernel_rfl), rfl⟩
  case o8x1 =>
    exact held_load free_wide rfl BelowR.refl 3 (.tmp 11) rfl fun xH w' kH hR => ⟨_, _, (pT 0 (by kernel_rfl) (by kernel_rfl) (kH 0 (by decide))), ldC OW hR 0 rfl rfl naInt, rfl⟩
  case o8x2 =>
    exact held_run free_wide rfl (by rfl) BelowR.refl fun xH w' kH hR => ⟨_, run_binO rfl (pT 1 (by kernel_rfl) (by kernel_rfl) (kH 1 (by decide))) rfl bin_geq, (congrArg Value.bool qeo82)⟩
  case o8x3 =>
    exact held_move free_wide rfl BelowR.refl (.tmp 13) (.inl rfl) fun xH w' kH _ => (pT 2 (by kernel_rfl) (by kernel_rfl) (kH 2 (by decide)))
  case o8x4 =>
    refine held_guard free_wide 3 14 true True eo82 BelowR.refl rfl (by kernel_rfl) (by kernel_rfl) (by kernel_rfl) (fun xH w' kH => .inl ⟨trivial, kH 3 (by decide)⟩) (fun hC hG => ?_) (fun hN w' => .inr ⟨hN, rfl⟩)
    exact held_runG free_wide hG (by rfl) BelowR.refl fun xH w' kH hR => ⟨_, run_fldO rfl (pO (by kernel_rfl) rfl) (by kernel_rfl), (.inl ⟨hC, rfl⟩)⟩
  case o8x5 =>
    refine held_guard free_wide 3 14 true True eo82 BelowR.refl rfl (by kernel_rfl) (by kernel_rfl) (by kernel_rfl) (fun xH w' kH => .inl ⟨trivial, kH 3 (by decide)⟩) (fun hC hG => ?_) (fun hN w' => .inr ⟨hN, rfl⟩)
    exact held_loadG free_wide hG BelowR.refl 3 (.tmp 15) rfl fun xH w' kH hR => ⟨_, _, (pT 4 (by kernel_rfl) (by kernel_rfl) (cdAt (kH 4 (by decide)) rfl hC)), ldC OW hR 0 rfl rfl naInt, (.inl ⟨hC, rfl⟩)⟩
  case o8x6 =>
    refine held_guard free_wide 3 14 true True eo82 BelowR.refl rfl (by kernel_rfl) (by kernel_rfl) (by kernel_rfl) (fun xH w' kH => .inl ⟨trivial, kH 3 (by decide)⟩) (fun hC hG => ?_) (fun hN w' => .inr ⟨hN, rfl⟩)
    exact held_runG free_wide hG (by rfl) BelowR.refl fun xH w' kH hR => ⟨_, run_binO rfl (pT 5 (by kernel_rfl) (by kernel_rfl) (cdAt (kH 5 (by decide)) rfl hC)) rfl bin_leq, (.inl ⟨hC, congrArg Value.bool qeo86⟩)⟩
  case o8x7 =>
    exact held_run free_wide rfl (by rfl) BelowR.refl fun xH w' kH hR => ⟨_, run_pickAnd rfl (pT 3 (by kernel_rfl) (by kernel_rfl) (kH 3 (by decide))) rfl (fun h => pT 6 (by kernel_rfl) (by kernel_rfl) (cdAt (kH 6 (by decide)) rfl (And.intro trivial h))), (congrArg Value.bool qeo87)⟩
  case o8x8 =>
    exact held_move free_wide rfl BelowR.refl (.tmp 18) (.inl rfl) fun xH w' kH _ => (pT 7 (by kernel_rfl) (by kernel_rfl) (kH 7 (by decide)))
  case o8x9 =>
    refine held_guard free_wide 8 19 true True eo87 BelowR.refl rfl (by kernel_rfl) (by kernel_rfl) (by kernel_rfl) (fun xH w' kH => .inl ⟨trivial, kH 8 (by decide)⟩) (fun hC hG => ?_) (fun hN w' => .inr ⟨hN, rfl⟩)
    exact held_moveG free_wide hG BelowR.refl (.tmp 2) (.inl rfl) fun xH w' kH _ => .inl ⟨hC, (pO (by kernel_rfl) rfl)⟩
  case o8x10 =>
    refine held_guard free_wide 8 19 true True eo87 BelowR.refl rfl (by kernel_rfl) (by kernel_rfl) (by kernel_rfl) (fun xH w' kH => .inl ⟨trivial, kH 8 (by decide)⟩) (fun hC hG => ?_) (fun hN w' => .inr ⟨hN, rfl⟩)
    refine held_callG free_wide hG 60 _ _ rfl (enters_of Try.func60 (by kernel_rfl) rfl) fun xH w' kH hR => ⟨_, mapE1 (pT 9 (by kernel_rfl) (by kernel_rfl) (cdAt (kH 9 (by decide)) rfl hC)), ?_⟩
    refine (callsIn_wide.2 (right_any mode _)).mono ?_
    rintro e w2 ⟨rfl, rfl⟩
    exact ⟨_, rfl, (.inl ⟨hC, rfl⟩), BelowR.refl _⟩
  case o8x11 =>
    exact held_run free_wide rfl (by rfl) BelowR.refl fun xH w' kH hR => ⟨_, run_pickAnd rfl (pT 8 (by kernel_rfl) (by kernel_rfl) (kH 8 (by decide))) rfl (fun h => pT 10 (by kernel_rfl) (by kernel_rfl) (cdAt (kH 10 (by decide)) rfl (And.intro trivial h))), (congrArg Value.bool qeo811)⟩
  case o8x12 =>
    exact held_move free_wide rfl BelowR.refl (.tmp 22) (.inl rfl) fun xH w' kH _ => (pT 11 (by kernel_rfl) (by kernel_rfl) (kH 11 (by decide)))
  case o8x13 =>
    refine held_guard free_wide 12 23 true True eo811 BelowR.refl rfl (by kernel_rfl) (by kernel_rfl) (by kernel_rfl) (fun xH w' kH => .inl ⟨trivial, kH 12 (by decide)⟩) (fun hC hG => ?_) (fun hN w' => .inr ⟨hN, rfl⟩)
    exact held_loadG free_wide hG BelowR.refl 25 (.tmp 3) rfl fun xH w' kH hR => ⟨_, _, (pO (by kernel_rfl) rfl), ldS OW hR 0 rfl 8 rfl Try.underlying25 rfl rfl (by kernel_rfl), (.inl ⟨hC, rfl⟩)⟩
  case o8x14 =>
    refine held_guard free_wide 12 23 true True eo811 BelowR.refl rfl (by kernel_rfl) (by kernel_rfl) (by kernel_rfl) (fun xH w' kH => .inl ⟨trivial, kH 12 (by decide)⟩) (fun hC hG => ?_) (fun hN w' => .inr ⟨hN, rfl⟩)
    exact held_loadG free_wide hG BelowR.refl 25 (.tmp 3) rfl fun xH w' kH hR => ⟨_, _, (pO (by kernel_rfl) rfl), ldS OW hR 0 rfl 8 rfl Try.underlying25 rfl rfl (by kernel_rfl), (.inl ⟨hC, rfl⟩)⟩
  case o8x15 =>
    refine held_guard free_wide 12 23 true True eo811 BelowR.refl rfl (by kernel_rfl) (by kernel_rfl) (by kernel_rfl) (fun xH w' kH => .inl ⟨trivial, kH 12 (by decide)⟩) (fun hC hG => ?_) (fun hN w' => .inr ⟨hN, rfl⟩)
    refine held_callG free_wide hG 61 _ _ rfl (enters_of Try.func61 (by kernel_rfl) rfl) fun xH w' kH hR => ⟨_, mapE1 (pT 14 (by kernel_rfl) (by kernel_rfl) (cdAt (kH 14 (by decide)) rfl hC)), ?_⟩
    refine (callsIn_wide.2 (fbare_any k p0 p1 p2 p3 c b v _)).mono ?_
    rintro e w2 ⟨rfl, h2⟩
    exact ⟨_, rfl, (.inl ⟨hC, rfl⟩), h2⟩
  case o8x16 =>
    refine held_guard free_wide 12 23 true True eo811 BelowR.refl rfl (by kernel_rfl) (by kernel_rfl) (by kernel_rfl) (fun xH w' kH => .inl ⟨trivial, kH 12 (by decide)⟩) (fun hC hG => ?_) (fun hN w' => .inr ⟨hN, rfl⟩)
    exact held_runG free_wide hG (by rfl) BelowR.refl fun xH w' kH hR => ⟨_, run_binO rfl (pT 13 (by kernel_rfl) (by kernel_rfl) (cdAt (kH 13 (by decide)) rfl hC)) (pT 15 (by kernel_rfl) (by kernel_rfl) (cdAt (kH 15 (by decide)) rfl hC)) (eql_Fault (l := [k, p0, p1, p2, p3, c, b, v]) (m := [k, (fbare_1 k p0 p1 p2 p3 c b v), (fbare_2 k p0 p1 p2 p3 c b v), (fbare_3 k p0 p1 p2 p3 c b v), (fbare_4 k p0 p1 p2 p3 c b v), (fbare_5 k p0 p1 p2 p3 c b v), (fbare_6 k p0 p1 p2 p3 c b v), (fbare_7 k p0 p1 p2 p3 c b v)]) rfl rfl), (.inl ⟨hC, congrArg Value.bool qeo816⟩)⟩
  case o8x17 =>
    exact held_run free_wide rfl (by rfl) BelowR.refl fun xH w' kH hR => ⟨_, run_pickAnd rfl (pT 12 (by kernel_rfl) (by kernel_rfl) (kH 12 (by decide))) rfl (fun h => pT 16 (by kernel_rfl) (by kernel_rfl) (cdAt (kH 16 (by decide)) rfl (And.intro trivial h))), (congrArg Value.bool qeo817)⟩
  case o8x18 =>
    exact held_move free_wide rfl BelowR.refl (.tmp 28) (.inl rfl) fun xH w' kH _ => (pT 17 (by kernel_rfl) (by kernel_rfl) (kH 17 (by decide)))
  case o8x19 =>
    refine held_guard free_wide 18 29 true True eo817 BelowR.refl rfl (by kernel_rfl) (by kernel_rfl) (by kernel_rfl) (fun xH w' kH => .inl ⟨trivial, kH 18 (by decide)⟩) (fun hC hG => ?_) (fun hN w' => .inr ⟨hN, rfl⟩)
    exact held_loadG free_wide hG BelowR.refl 27 (.tmp 4) rfl fun xH w' kH hR => ⟨_, _, (pO (by kernel_rfl) rfl), ldS OW hR 1 rfl 5 rfl Try.underlying27 rfl rfl (by kernel_rfl), (.inl ⟨hC, rfl⟩)⟩
  case o8x20 =>
    refine held_guard free_wide 18 29 true True eo817 BelowR.refl rfl (by kernel_rfl) (by kernel_rfl) (by kernel_rfl) (fun xH w' kH => .inl ⟨trivial, kH 18 (by decide)⟩) (fun hC hG => ?_) (fun hN w' => .inr ⟨hN, rfl⟩)
    exact held_runG free_wide hG (by rfl) BelowR.refl fun xH w' kH hR => ⟨_, run_fldO rfl (pO (by kernel_rfl) rfl) (by kernel_rfl), (.inl ⟨hC, rfl⟩)⟩
  case o8x21 =>
    refine held_guard free_wide 18 29 true True eo817 BelowR.refl rfl (by kernel_rfl) (by kernel_rfl) (by kernel_rfl) (fun xH w' kH => .inl ⟨trivial, kH 18 (by decide)⟩) (fun hC hG => ?_) (fun hN w' => .inr ⟨hN, rfl⟩)
    exact held_loadG free_wide hG BelowR.refl 23 (.tmp 31) rfl fun xH w' kH hR => ⟨_, _, (pT 20 (by kernel_rfl) (by kernel_rfl) (cdAt (kH 20 (by decide)) rfl hC)), ldS OW hR 0 rfl 4 rfl Try.underlying23 rfl rfl (by kernel_rfl), (.inl ⟨hC, rfl⟩)⟩
  case o8x22 =>
    refine held_guard free_wide 18 29 true True eo817 BelowR.refl rfl (by kernel_rfl) (by kernel_rfl) (by kernel_rfl) (fun xH w' kH => .inl ⟨trivial, kH 18 (by decide)⟩) (fun hC hG => ?_) (fun hN w' => .inr ⟨hN, rfl⟩)
    refine held_callG free_wide hG 62 _ _ rfl (enters_of Try.func62 (by kernel_rfl) rfl) fun xH w' kH hR => ⟨_, mapE2 (pT 19 (by kernel_rfl) (by kernel_rfl) (cdAt (kH 19 (by decide)) rfl hC)) (pT 21 (by kernel_rfl) (by kernel_rfl) (cdAt (kH 21 (by decide)) rfl hC)), ?_⟩
    refine (callsIn_wide.2 (gholds_any r s n m l p0 p1 p2 p3 _)).mono ?_
    rintro e w2 ⟨rfl, h2⟩
    exact ⟨_, rfl, (.inl ⟨hC, congrArg Value.bool qeo822⟩), h2⟩
  case o8x23 =>
    exact held_run free_wide rfl (by rfl) BelowR.refl fun xH w' kH hR => ⟨_, run_pickAnd rfl (pT 18 (by kernel_rfl) (by kernel_rfl) (kH 18 (by decide))) rfl (fun h => pT 22 (by kernel_rfl) (by kernel_rfl) (cdAt (kH 22 (by decide)) rfl (And.intro trivial h))), (congrArg Value.bool qeo823)⟩
  case o8x24 =>
    exact held_move free_wide rfl BelowR.refl (.tmp 34) (.inl rfl) fun xH w' kH _ => (pT 23 (by kernel_rfl) (by kernel_rfl) (kH 23 (by decide)))
  case o8x25 =>
    refine held_guard free_wide 24 35 true True eo823 BelowR.refl rfl (by kernel_rfl) (by kernel_rfl) (by kernel_rfl) (fun xH w' kH => .inl ⟨trivial, kH 24 (by decide)⟩) (fun hC hG => ?_) (fun hN w' => .inr ⟨hN, rfl⟩)
    exact held_runG free_wide hG (by rfl) BelowR.refl fun xH w' kH hR => ⟨_, run_fldO rfl (pO (by kernel_rfl) rfl) (by kernel_rfl), (.inl ⟨hC, rfl⟩)⟩
  case o8x26 =>
    refine held_guard free_wide 24 35 true True eo823 BelowR.refl rfl (by kernel_rfl) (by kernel_rfl) (by kernel_rfl) (fun xH w' kH => .inl ⟨trivial, kH 24 (by decide)⟩) (fun hC hG => ?_) (fun hN w' => .inr ⟨hN, rfl⟩)
    exact held_loadG free_wide hG BelowR.refl 3 (.tmp 36) rfl fun xH w' kH hR => ⟨_, _, (pT 25 (by kernel_rfl) (by kernel_rfl) (cdAt (kH 25 (by decide)) rfl hC)), ldC OW hR 0 rfl rfl naInt, (.inl ⟨hC, rfl⟩)⟩
  case o8x27 =>
    refine held_guard free_wide 24 35 true True eo823 BelowR.refl rfl (by kernel_rfl) (by kernel_rfl) (by kernel_rfl) (fun xH w' kH => .inl ⟨trivial, kH 24 (by decide)⟩) (fun hC hG => ?_) (fun hN w' => .inr ⟨hN, rfl⟩)
    refine held_callG free_wide hG 63 _ _ rfl (enters_of Try.func63 (by kernel_rfl) rfl) fun xH w' kH hR => ⟨_, mapE2 (pT 26 (by kernel_rfl) (by kernel_rfl) (cdAt (kH 26 (by decide)) rfl hC)) rfl, ?_⟩
    refine (callsIn_wide.2 (fbelow_any b 576 _)).mono ?_
    rintro e w2 ⟨rfl, h2⟩
    exact ⟨_, rfl, (.inl ⟨hC, rfl⟩), h2⟩
  case o8x28 =>
    exact held_run free_wide rfl (by rfl) BelowR.refl fun xH w' kH hR => ⟨_, run_pickAnd rfl (pT 24 (by kernel_rfl) (by kernel_rfl) (kH 24 (by decide))) rfl (fun h => pT 27 (by kernel_rfl) (by kernel_rfl) (cdAt (kH 27 (by decide)) rfl (And.intro trivial h))), (congrArg Value.bool qeo828)⟩
  case o8x29 =>
    exact held_move free_wide rfl BelowR.refl (.tmp 39) (.inl rfl) fun xH w' kH _ => (pT 28 (by kernel_rfl) (by kernel_rfl) (kH 28 (by decide)))
  case o8x30 =>
    refine held_guard free_wide 29 40 true True eo828 BelowR.refl rfl (by kernel_rfl) (by kernel_rfl) (by kernel_rfl) (fun xH w' kH => .inl ⟨trivial, kH 29 (by decide)⟩) (fun hC hG => ?_) (fun hN w' => .inr ⟨hN, rfl⟩)
    exact held_runG free_wide hG (by rfl) BelowR.refl fun xH w' kH hR => ⟨_, run_fldO rfl (pO (by kernel_rfl) rfl) (by kernel_rfl), (.inl ⟨hC, rfl⟩)⟩
  case o8x31 =>
    refine held_guard free_wide 29 40 true True eo828 BelowR.refl rfl (by kernel_rfl) (by kernel_rfl) (by kernel_rfl) (fun xH w' kH => .inl ⟨trivial, kH 29 (by decide)⟩) (fun hC hG => ?_) (fun hN w' => .inr ⟨hN, rfl⟩)
    exact held_loadG free_wide hG BelowR.refl 3 (.tmp 41) rfl fun xH w' kH hR => ⟨_, _, (pT 30 (by kernel_rfl) (by kernel_rfl) (cdAt (kH 30 (by decide)) rfl hC)), ldC OW hR 0 rfl rfl naInt, (.inl ⟨hC, rfl⟩)⟩
  case o8x32 =>
    refine held_guard free_wide 29 40 true True eo828 BelowR.refl rfl (by kernel_rfl) (by kernel_rfl) (by kernel_rfl) (fun xH w' kH => .inl ⟨trivial, kH 29 (by decide)⟩) (fun hC hG => ?_) (fun hN w' => .inr ⟨hN, rfl⟩)
    exact held_moveG free_wide hG BelowR.refl (.tmp 2) (.inl rfl) fun xH w' kH _ => .inl ⟨hC, (pO (by kernel_rfl) rfl)⟩
  case o8x33 =>
    refine held_guard free_wide 29 40 true True eo828 BelowR.refl rfl (by kernel_rfl) (by kernel_rfl) (by kernel_rfl) (fun xH w' kH => .inl ⟨trivial, kH 29 (by decide)⟩) (fun hC hG => ?_) (fun hN w' => .inr ⟨hN, rfl⟩)
    refine held_callG free_wide hG 64 _ _ rfl (enters_of Try.func64 (by kernel_rfl) rfl) fun xH w' kH hR => ⟨_, mapE1 (pT 32 (by kernel_rfl) (by kernel_rfl) (cdAt (kH 32 (by decide)) rfl hC)), ?_⟩
    refine (callsIn_wide.2 (chips_any mode _)).mono ?_
    rintro e w2 ⟨rfl, rfl⟩
    exact ⟨_, rfl, (.inl ⟨hC, rfl⟩), BelowR.refl _⟩
  case o8x34 =>
    refine held_guard free_wide 29 40 true True eo828 BelowR.refl rfl (by kernel_rfl) (by kernel_rfl) (by kernel_rfl) (fun xH w' kH => .inl ⟨trivial, kH 29 (by decide)⟩) (fun hC hG => ?_) (fun hN w' => .inr ⟨hN, rfl⟩)
    refine held_callG free_wide hG 63 _ _ rfl (enters_of Try.func63 (by kernel_rfl) rfl) fun xH w' kH hR => ⟨_, mapE2 (pT 31 (by kernel_rfl) (by kernel_rfl) (cdAt (kH 31 (by decide)) rfl hC)) (pT 33 (by kernel_rfl) (by kernel_rfl) (cdAt (kH 33 (by decide)) rfl hC)), ?_⟩
    refine (callsIn_wide.2 (fbelow_any c ((chN mode : Nat) : Int) _)).mono ?_
    rintro e w2 ⟨rfl, h2⟩
    exact ⟨_, rfl, (.inl ⟨hC, congrArg Value.bool qeo834⟩), h2⟩
  case o8x35 =>
    exact held_run free_wide rfl (by rfl) BelowR.refl fun xH w' kH hR => ⟨_, run_pickAnd rfl (pT 29 (by kernel_rfl) (by kernel_rfl) (kH 29 (by decide))) rfl (fun h => pT 34 (by kernel_rfl) (by kernel_rfl) (cdAt (kH 34 (by decide)) rfl (And.intro trivial h))), (congrArg Value.bool qeo835)⟩
  case o8x36 =>
    exact held_move free_wide rfl BelowR.refl (.tmp 46) (.inl rfl) fun xH w' kH _ => (pT 35 (by kernel_rfl) (by kernel_rfl) (kH 35 (by decide)))
  case o8x37 =>
    refine held_guard free_wide 36 47 true True eo835 BelowR.refl rfl (by kernel_rfl) (by kernel_rfl) (by kernel_rfl) (fun xH w' kH => .inl ⟨trivial, kH 36 (by decide)⟩) (fun hC hG => ?_) (fun hN w' => .inr ⟨hN, rfl⟩)
    exact held_runG free_wide hG (by rfl) BelowR.refl fun xH w' kH hR => ⟨_, run_fldO rfl (pO (by kernel_rfl) rfl) (by kernel_rfl), (.inl ⟨hC, rfl⟩)⟩
  case o8x38 =>
    refine held_guard free_wide 36 47 true True eo835 BelowR.refl rfl (by kernel_rfl) (by kernel_rfl) (by kernel_rfl) (fun xH w' kH => .inl ⟨trivial, kH 36 (by decide)⟩) (fun hC hG => ?_) (fun hN w' => .inr ⟨hN, rfl⟩)
    exact held_loadG free_wide hG BelowR.refl 3 (.tmp 48) rfl fun xH w' kH hR => ⟨_, _, (pT 37 (by kernel_rfl) (by kernel_rfl) (cdAt (kH 37 (by decide)) rfl hC)), ldC OW hR 0 rfl rfl naInt, (.inl ⟨hC, rfl⟩)⟩
  case o8x39 =>
    refine held_guard free_wide 36 47 true True eo835 BelowR.refl rfl (by kernel_rfl) (by kernel_rfl) (by kernel_rfl) (fun xH w' kH => .inl ⟨trivial, kH 36 (by decide)⟩) (fun hC hG => ?_) (fun hN w' => .inr ⟨hN, rfl⟩)
    exact held_moveG free_wide hG BelowR.refl (.tmp 7) (.inl rfl) fun xH w' kH _ => .inl ⟨hC, (pO (by kernel_rfl) rfl)⟩
  case o8x40 =>
    refine held_guard free_wide 36 47 true True eo835 BelowR.refl rfl (by kernel_rfl) (by kernel_rfl) (by kernel_rfl) (fun xH w' kH => .inl ⟨trivial, kH 36 (by decide)⟩) (fun hC hG => ?_) (fun hN w' => .inr ⟨hN, rfl⟩)
    refine held_callG free_wide hG 63 _ _ rfl (enters_of Try.func63 (by kernel_rfl) rfl) fun xH w' kH hR => ⟨_, mapE2 (pT 38 (by kernel_rfl) (by kernel_rfl) (cdAt (kH 38 (by decide)) rfl hC)) (pT 39 (by kernel_rfl) (by kernel_rfl) (cdAt (kH 39 (by decide)) rfl hC)), ?_⟩
    refine (callsIn_wide.2 (fbelow_any v 256 _)).mono ?_
    rintro e w2 ⟨rfl, h2⟩
    exact ⟨_, rfl, (.inl ⟨hC, rfl⟩), h2⟩
  case o8x41 =>
    exact held_run free_wide rfl (by rfl) BelowR.refl fun xH w' kH hR => ⟨_, run_pickAnd rfl (pT 36 (by kernel_rfl) (by kernel_rfl) (kH 36 (by decide))) rfl (fun h => pT 40 (by kernel_rfl) (by kernel_rfl) (cdAt (kH 40 (by decide)) rfl (And.intro trivial h))), (congrArg Value.bool qeo841)⟩
  case o8x42 =>
    exact held_move free_wide rfl BelowR.refl (.tmp 52) (.inr rfl) fun xH w' kH _ => (pT 41 (by kernel_rfl) (by kernel_rfl) (kH 41 (by decide)))
  intro xH w' hv hR
  subst qeo841 qeo835 qeo834 qeo828 qeo823 qeo822 qeo817 qeo816 qeo811 qeo87 qeo86 qeo82
  have h0 : xH 0 = _ := hv 0 (by omega)
  have h1 : xH 1 = _ := hv 1 (by omega)
  have h2 : xH 2 = _ := hv 2 (by omega)
  have h3 : xH 3 = _ := hv 3 (by omega)
  have h7 : xH 7 = _ := hv 7 (by omega)
  have h8 : xH 8 = _ := hv 8 (by omega)
  have h11 : xH 11 = _ := hv 11 (by omega)
  have h12 : xH 12 = _ := hv 12 (by omega)
  have h17 : xH 17 = _ := hv 17 (by omega)
  have h18 : xH 18 = _ := hv 18 (by omega)
  have h23 : xH 23 = _ := hv 23 (by omega)
  have h24 : xH 24 = _ := hv 24 (by omega)
  have h28 : xH 28 = _ := hv 28 (by omega)
  have h29 : xH 29 = _ := hv 29 (by omega)
  have h35 : xH 35 = _ := hv 35 (by omega)
  have h36 : xH 36 = _ := hv 36 (by omega)
  have h41 : xH 41 = _ := hv 41 (by omega)
  have h42 : xH 42 = _ := hv 42 (by omega)
  simp only [List.take_succ_cons, List.take_zero, List.drop_succ_cons, List.drop_zero, putsH, Act.put, List.setIfInBounds_toArray, List.set_cons_succ, List.set_cons_zero, h0, h1, h2, h3, h7, h8, h11, h12, h17, h18, h23, h24, h28, h29, h35, h36, h41, h42]
  have OW2 := Lib.hid (OW.out.step hR)
  clear hv hR OW OZ h0 h1 h2 h3 h7 h8 h11 h12 h17 h18 h23 h24 h28 h29 h35 h36 h41 h42
  have OW := OW2
  clear OW2
  obtain ⟨g9, OZ⟩ := own_size OW HB0
  gi_wp2
  refine leaves_own [] _ (Nat.le_of_eq HB0.out) (by simpa using OW.out) ?_
  intro W' hO
  exact ⟨.bool ((((((((decide (1 ≤ k)) && (decide (k ≤ 7))) && (rightB mode)) && (decide ([k, p0, p1, p2, p3, c, b, v] = [k, (fbare_1 k p0 p1 p2 p3 c b v), (fbare_2 k p0 p1 p2 p3 c b v), (fbare_3 k p0 p1 p2 p3 c b v), (fbare_4 k p0 p1 p2 p3 c b v), (fbare_5 k p0 p1 p2 p3 c b v), (fbare_6 k p0 p1 p2 p3 c b v), (fbare_7 k p0 p1 p2 p3 c b v)]))) && (gholds r s n m l p0 p1 p2 p3)) && (fbelow b 576)) && (fbelow c ((chN mode : Nat) : Int))) && (fbelow v 256)), by simp [results, Try.results17, go_sem], (by simp only [fright, hB5, cond_true, cond_false]), hO.done HB0⟩
def fcovers (k p0 p1 p2 p3 c b v mode : Int) : Int := (bif k == 1 then (bif ((whoseE mode b : Nat) : Int) == 0 then ((whoseC mode b : Nat) : Int) else (-1)) else (bif k == 2 then (bif ((whoseE mode b : Nat) : Int) == 0 then ((whoseC mode b : Nat) : Int) else (-1)) else (bif k == 3 then (bif fbelow c ((chN mode : Nat) : Int) then c else (-1)) else (bif k == 4 then (bif fbelow c ((chN mode : Nat) : Int) then c else (-1)) else (bif k == 5 then (bif fbelow c ((chN mode : Nat) : Int) then c else (-1)) else (-1))))))
def fapply (k p0 p1 p2 p3 c b v mode q0 q1 q2 q3 : Int) (xs : List UInt8) : List UInt8 := (bif (!(flasts k p0 p1 p2 p3 c b v)) || (!(flies k p0 p1 p2 p3 c b v q0 q1 q2 q3)) then xs else (bif k == 2 then (forceI xs b v) else (chipB mode xs c (u8I v))))
set_option maxRecDepth 100000 in
set_option maxHeartbeats 1000000 in
theorem fapply_any (k p0 p1 p2 p3 c b v mode q0 q1 q2 q3 : Int) (xs : List UInt8) (lx : xs.length = 72) (v0 : -9223372036854775808 ≤ b) (v1 : b ≤ 9223372036854775807) (w : World) : Calls Try.prog 23 #[.agg #[.int .i64 k, .int .i64 p0, .int .i64 p1, .int .i64 p2, .int .i64 p3, .int .i64 c, .int .i64 b, .int .i64 v], .int .i64 mode, .agg #[.int .i64 q0, .int .i64 q1, .int .i64 q2, .int .i64 q3], .agg (rawV xs)] w fun e w' => e = .returned (.agg (rawV (fapply k p0 p1 p2 p3 c b v mode q0 q1 q2 q3 xs))) ∧ Below w.heap.size w w' := by
  obtain ⟨b0, hb0⟩ : ∃ b0, w.heap.size = b0 := ⟨_, rfl⟩
  have HB0 := Lib.hid hb0
  have OW := Lib.hid (Own.start b0 w)
  have OZ := Lib.hid (And.intro hb0 (Nat.le_refl b0))
  clear hb0
  refine (callsIn_wide (n := 6)).1 ?_
  refine callsIn_of_wp_marks Try.func23 rfl trivial ?_ rfl
  simp only [Try.ntmps23, List.size_toArray, List.length_cons, List.length_nil, Nat.reduceAdd, Nat.reduceSub, Array.replicate_succ, Array.replicate_zero, List.push_toArray, List.append_toArray, List.nil_append, List.cons_append]
  gi_upto_region 1 with (first | (refine own_boxV 4 25 (.tmp 0) rfl rfl rfl (.agg #[.int .i64 k, .int .i64 p0, .int .i64 p1, .int .i64 p2, .int .i64 p3, .int .i64 c, .int .i64 b, .int .i64 v]) rfl #[.int .i64 k, .int .i64 p0, .int .i64 p1, .int .i64 p2, .int .i64 p3, .int .i64 c, .int .i64 b, .int .i64 v] rfl OW OZ ?_; clear OW OZ; intro W g1 OW OZ) | (refine own_boxV 6 23 (.tmp 2) rfl rfl rfl (.agg #[.int .i64 q0, .int .i64 q1, .int .i64 q2, .int .i64 q3]) rfl #[.int .i64 q0, .int .i64 q1, .int .i64 q2, .int .i64 q3] rfl OW OZ ?_; clear OW OZ; intro W g2 OW OZ) | (refine own_boxV 7 41 (.tmp 3) rfl rfl rfl (.agg (rawV xs)) rfl (rawV xs) rfl OW OZ ?_; clear OW OZ; intro W g3 OW OZ) | (refine own_allocV 8 41 rfl rfl rfl (rawV zero72) alRaw OW OZ ?_; clear OW OZ; intro W g4 OW OZ))
  obtain ⟨eo51, qeo51⟩ : ∃ e, (flasts k p0 p1 p2 p3 c b v) = e := ⟨_, rfl⟩
  obtain ⟨eo56, qeo56⟩ : ∃ e, (flies k p0 p1 p2 p3 c b v q0 q1 q2 q3) = e := ⟨_, rfl⟩
  obtain ⟨eo58, qeo58⟩ : ∃ e, ((!eo51) || (!eo56)) = e := ⟨_, rfl⟩
  refine wpIn_region_heldL 10 (atD [[], [0], [1], [2], [3], [3], [3, 4, 5], [3, 6], [3, 7], [8]]) (atV [fun vH _ => vH = .agg #[.int .i64 k, .int .i64 p0, .int .i64 p1, .int .i64 p2, .int .i64 p3, .int .i64 c, .int .i64 b, .int .i64 v], fun vH _ => vH = .bool eo51, fun vH _ => vH = .bool (!eo51), fun vH _ => vH = .bool (!eo51), cdV (True ∧ (!eo51) = false) (fun vH _ => vH = .agg #[.int .i64 k, .int .i64 p0, .int .i64 p1, .int .i64 p2, .int .i64 p3, .int .i64 c, .int .i64 b, .int .i64 v]), cdV (True ∧ (!eo51) = false) (fun vH _ => vH = .agg #[.int .i64 q0, .int .i64 q1, .int .i64 q2, .int .i64 q3]), cdV (True ∧ (!eo51) = false) (fun vH _ => vH = .bool eo56), cdV (True ∧ (!eo51) = false) (fun vH _ => vH = .bool (!eo56)), fun vH _ => vH = .bool eo58, fun vH _ => vH = .bool eo58]) BelowR (by kernel_rfl) BelowR.trans (BelowR.refl _)
    (StV.atV (.const _ (.const _ (.const _ (.const _ (.cons (fun v x y h _ => h) (.cons (fun v x y h _ => h) (.cons (fun v x y h _ => h) (.cons (fun v x y h _ => h) (.const _ (.const _ .nil)))))))))))
    ⟨?o5x0, ?o5x1, ?o5x2, ?o5x3, ?o5x4, ?o5x5, ?o5x6, ?o5x7, ?o5x8, ?o5x9, trivial⟩ ?_
  case o5x0 =>
    exact held_load free_wide rfl BelowR.refl 25 (.tmp 4) rfl fun xH w' kH hR => ⟨_, _, (pO (by kernel_rfl) rfl), ldS OW hR 0 rfl 8 rfl Try.underlying25 rfl rfl (by kernel_rfl), rfl⟩
  case o5x1 =>
    refine held_call free_wide rfl 19 _ _ rfl (enters_of Try.func19 (by kernel_rfl) rfl) fun xH w' kH hR => ⟨_, mapE1 (pT 0 (by kernel_rfl) (by kernel_rfl) (kH 0 (by decide))), ?_⟩
    refine (callsIn_wide.2 (flasts_any k p0 p1 p2 p3 c b v _)).mono ?_
    rintro e w2 ⟨rfl, h2⟩
    exact ⟨_, rfl, (congrArg Value.bool qeo51), h2⟩
  case o5x2 =>
    exact held_run free_wide rfl (by rfl) BelowR.refl fun xH w' kH hR => ⟨_, run_unO rfl (pT 1 (by kernel_rfl) (by kernel_rfl) (kH 1 (by decide))) rfl, rfl⟩
  case o5x3 =>
    exact held_move free_wide rfl BelowR.refl (.tmp 12) (.inl rfl) fun xH w' kH _ => (pT 2 (by kernel_rfl) (by kernel_rfl) (kH 2 (by decide)))
  case o5x4 =>
    refine held_guard free_wide 3 13 false True (!eo51) BelowR.refl rfl (by kernel_rfl) (by kernel_rfl) (by kernel_rfl) (fun xH w' kH => .inl ⟨trivial, kH 3 (by decide)⟩) (fun hC hG => ?_) (fun hN w' => .inr ⟨hN, rfl⟩)
    exact held_loadG free_wide hG BelowR.refl 25 (.tmp 4) rfl fun xH w' kH hR => ⟨_, _, (pO (by kernel_rfl) rfl), ldS OW hR 0 rfl 8 rfl Try.underlying25 rfl rfl (by kernel_rfl), (.inl ⟨hC, rfl⟩)⟩
  case o5x5 =>
    refine held_guard free_wide 3 13 false True (!eo51) BelowR.refl rfl (by kernel_rfl) (by kernel_rfl) (by kernel_rfl) (fun xH w' kH => .inl ⟨trivial, kH 3 (by decide)⟩) (fun hC hG => ?_) (fun hN w' => .inr ⟨hN, rfl⟩)
    exact held_loadG free_wide hG BelowR.refl 23 (.tmp 6) rfl fun xH w' kH hR => ⟨_, _, (pO (by kernel_rfl) rfl), ldS OW hR 1 rfl 4 rfl Try.underlying23 rfl rfl (by kernel_rfl), (.inl ⟨hC, rfl⟩)⟩
  case o5x6 =>
    refine held_guard free_wide 3 13 false True (!eo51) BelowR.refl rfl (by kernel_rfl) (by kernel_rfl) (by kernel_rfl) (fun xH w' kH => .inl ⟨trivial, kH 3 (by decide)⟩) (fun hC hG => ?_) (fun hN w' => .inr ⟨hN, rfl⟩)
    refine held_callG free_wide hG 20 _ _ rfl (enters_of Try.func20 (by kernel_rfl) rfl) fun xH w' kH hR => ⟨_, mapE2 (pT 4 (by kernel_rfl) (by kernel_rfl) (cdAt (kH 4 (by decide)) rfl hC)) (pT 5 (by kernel_rfl) (by kernel_rfl) (cdAt (kH 5 (by decide)) rfl hC)), ?_⟩
    refine (callsIn_wide.2 (flies_any k p0 p1 p2 p3 c b v q0 q1 q2 q3 _)).mono ?_
    rintro e w2 ⟨rfl, h2⟩
    exact ⟨_, rfl, (.inl ⟨hC, congrArg Value.bool qeo56⟩), h2⟩
  case o5x7 =>
    refine held_guard free_wide 3 13 false True (!eo51) BelowR.refl rfl (by kernel_rfl) (by kernel_rfl) (by kernel_rfl) (fun xH w' kH => .inl ⟨trivial, kH 3 (by decide)⟩) (fun hC hG => ?_) (fun hN w' => .inr ⟨hN, rfl⟩)
    exact held_runG free_wide hG (by rfl) BelowR.refl fun xH w' kH hR => ⟨_, run_unO rfl (pT 6 (by kernel_rfl) (by kernel_rfl) (cdAt (kH 6 (by decide)) rfl hC)) rfl, (.inl ⟨hC, rfl⟩)⟩
  case o5x8 =>
    exact held_run free_wide rfl (by rfl) BelowR.refl fun xH w' kH hR => ⟨_, run_pickOr rfl (pT 3 (by kernel_rfl) (by kernel_rfl) (kH 3 (by decide))) rfl (fun h => pT 7 (by kernel_rfl) (by kernel_rfl) (cdAt (kH 7 (by decide)) rfl (And.intro trivial h))), (congrArg Value.bool qeo58)⟩
  case o5x9 =>
    exact held_move free_wide rfl BelowR.refl (.tmp 18) (.inr rfl) fun xH w' kH _ => (pT 8 (by kernel_rfl) (by kernel_rfl) (kH 8 (by decide)))
  intro xH w' hv hR
  subst qeo58 qeo56 qeo51
  have h0 : xH 0 = _ := hv 0 (by omega)
  have h1 : xH 1 = _ := hv 1 (by omega)
  have h2 : xH 2 = _ := hv 2 (by omega)
  have h3 : xH 3 = _ := hv 3 (by omega)
  have h8 : xH 8 = _ := hv 8 (by omega)
  have h9 : xH 9 = _ := hv 9 (by omega)
  simp only [List.take_succ_cons, List.take_zero, List.drop_succ_cons, List.drop_zero, putsH, Act.put, List.setIfInBounds_toArray, List.set_cons_succ, List.set_cons_zero, h0, h1, h2, h3, h8, h9]
  have OW2 := Lib.hid (OW.out.step hR)
  clear hv hR OW OZ h0 h1 h2 h3 h8 h9
  have OW := OW2
  clear OW2
  obtain ⟨g6, OZ⟩ := own_size OW HB0
  cases hB7 : ((!(flasts k p0 p1 p2 p3 c b v)) || (!(flies k p0 p1 p2 p3 c b v q0 q1 q2 q3)))
  case true =>
    gi_wp2_with (first | (refine own_loadRowV 19 2 41 (.tmp 7) rfl rfl rfl rfl rfl _ Try.underlying41 rfl (by rw [rawV_size, (show (xs).length = 72 from lx)]; exact infoRaw) OW ?_) | (refine own_storeRow 3 41 (.tmp 8) (.tmp 19) rfl rfl rfl rfl (rawV xs) rfl (by rw [rawV_size, rawV_size, (show (xs).length = 72 from lx), (show (zero72).length = 72 from (show zero72.length = 72 from rfl))]) (rawV_one _) (by rw [rawV_size, (show (xs).length = 72 from lx)]; exact infoRaw) _ rfl OW OZ ?_; clear OW OZ; intro W OW OZ))
    refine leaves_own [] _ (Nat.le_of_eq HB0.out) (by simpa using OW.out) ?_
    intro W' hO
    exact ⟨.agg (rawV xs), results_ownRow hO 3 rfl rfl rfl Try.underlying41 rfl (by rw [rawV_size, (show (xs).length = 72 from lx)]; exact infoRaw), (by simp only [fapply, hB7, cond_true, cond_false]), hO.done HB0⟩
  gi_upto_region 3 with fail
  refine wpIn_region_heldL 4 (atD [[], [0], [1], [2]]) (atV [fun vH _ => vH = .pointer (some ⟨b0, 0, none⟩), fun vH _ => vH = .int .i64 k, fun vH _ => vH = .bool (k == 2), fun vH _ => vH = .bool (k == 2)]) BelowR (by kernel_rfl) BelowR.trans (BelowR.refl _)
    (StV.atV (.const _ (.const _ (.const _ (.const _ .nil)))))
    ⟨?o8x0, ?o8x1, ?o8x2, ?o8x3, trivial⟩ ?_
  case o8x0 =>
    exact held_run free_wide rfl (by rfl) BelowR.refl fun xH w' kH hR => ⟨_, run_fldO rfl (pO (by kernel_rfl) rfl) (by kernel_rfl), rfl⟩
  case o8x1 =>
    exact held_load free_wide rfl BelowR.refl 3 (.tmp 21) rfl fun xH w' kH hR => ⟨_, _, (pT 0 (by kernel_rfl) (by kernel_rfl) (kH 0 (by decide))), ldC OW hR 0 rfl rfl naInt, rfl⟩
  case o8x2 =>
    exact held_run free_wide rfl (by rfl) BelowR.refl fun xH w' kH hR => ⟨_, run_binO rfl (pT 1 (by kernel_rfl) (by kernel_rfl) (kH 1 (by decide))) rfl bin_eql, rfl⟩
  case o8x3 =>
    exact held_move free_wide rfl BelowR.refl (.tmp 23) (.inr rfl) fun xH w' kH _ => (pT 2 (by kernel_rfl) (by kernel_rfl) (kH 2 (by decide)))
  intro xH w' hv hR
  have h0 : xH 0 = _ := hv 0 (by omega)
  have h1 : xH 1 = _ := hv 1 (by omega)
  have h2 : xH 2 = _ := hv 2 (by omega)
  have h3 : xH 3 = _ := hv 3 (by omega)
  simp only [List.take_succ_cons, List.take_zero, List.drop_succ_cons, List.drop_zero, putsH, Act.put, List.setIfInBounds_toArray, List.set_cons_succ, List.set_cons_zero, h0, h1, h2, h3]
  have OW2 := Lib.hid (OW.out.step hR)
  clear hv hR OW OZ h0 h1 h2 h3
  have OW := OW2
  clear OW2
  obtain ⟨g9, OZ⟩ := own_size OW HB0
  cases hB10 : (k == 2)
  case true =>
    gi_wp2_with (first | (refine own_loadRowV 24 2 41 (.tmp 7) rfl rfl rfl rfl rfl _ Try.underlying41 rfl (by rw [rawV_size, (show (xs).length = 72 from lx)]; exact infoRaw) OW ?_) | (refine own_loadV 26 0 3 (.tmp 25) rfl rfl rfl rfl rfl (.int .i64 b) rfl naInt OW ?_) | (refine own_loadV 28 0 3 (.tmp 27) rfl rfl rfl rfl rfl (.int .i64 v) rfl naInt OW ?_))
    refine ⟨trivial, ?_⟩
    refine (callsIn_wide.2 (rforce_any xs (show (xs).length = 72 from lx) b v (by omega) (by omega) _)).mono ?_
    rintro e Wg11 ⟨rfl, hbw⟩
    obtain ⟨g11, OW2, OZ2⟩ := own_call OW OZ hbw
    clear hbw OW OZ
    have OW := OW2
    have OZ := OZ2
    clear OW2 OZ2
    gi_wp2_with (first | (refine own_storeRow 3 41 (.tmp 8) (.tmp 29) rfl rfl rfl rfl (rawV (forceI xs b v)) rfl (by rw [rawV_size, rawV_size, (show ((forceI xs b v)).length = 72 by simp only [forceI_len, chipB_ln, lx]), (show (zero72).length = 72 from (show zero72.length = 72 from rfl))]) (rawV_one _) (by rw [rawV_size, (show ((forceI xs b v)).length = 72 by simp only [forceI_len, chipB_ln, lx])]; exact infoRaw) _ rfl OW OZ ?_; clear OW OZ; intro W OW OZ))
    refine leaves_own [] _ (Nat.le_of_eq HB0.out) (by simpa using OW.out) ?_
    intro W' hO
    exact ⟨.agg (rawV (forceI xs b v)), results_ownRow hO 3 rfl rfl rfl Try.underlying41 rfl (by rw [rawV_size, (show ((forceI xs b v)).length = 72 by simp only [forceI_len, chipB_ln, lx])]; exact infoRaw), (by simp only [fapply, hB7, hB10, cond_true, cond_false]), hO.done HB0⟩
  gi_wp2_with (first | (refine own_loadRowV 30 2 41 (.tmp 7) rfl rfl rfl rfl rfl _ Try.underlying41 rfl (by rw [rawV_size, (show (xs).length = 72 from lx)]; exact infoRaw) OW ?_) | (refine own_loadV 33 0 3 (.tmp 32) rfl rfl rfl rfl rfl (.int .i64 c) rfl naInt OW ?_) | (refine own_loadV 35 0 3 (.tmp 34) rfl rfl rfl rfl rfl (.int .i64 v) rfl naInt OW ?_) | (refine own_valV 36 rfl rfl rfl (.int .u8 ((u8I v).toNat : Int)) (run_cvtO rfl rfl (cvt_u8 Try.underlying3 Try.underlying5)) ?_))
  refine ⟨trivial, ?_⟩
  refine (callsIn_wide.2 (chip_any xs (show (xs).length = 72 from lx) mode c (u8I v) _)).mono ?_
  rintro e Wg12 ⟨rfl, hbw⟩
  obtain ⟨g12, OW2, OZ2⟩ := own_call OW OZ hbw
  clear hbw OW OZ
  have OW := OW2
  have OZ := OZ2
  clear OW2 OZ2
  gi_wp2_with (first | (refine own_storeRow 3 41 (.tmp 8) (.tmp 37) rfl rfl rfl rfl (rawV (chipB mode xs c (u8I v))) rfl (by rw [rawV_size, rawV_size, (show ((chipB mode xs c (u8I v))).length = 72 by simp only [forceI_len, chipB_ln, lx]), (show (zero72).length = 72 from (show zero72.length = 72 from rfl))]) (rawV_one _) (by rw [rawV_size, (show ((chipB mode xs c (u8I v))).length = 72 by simp only [forceI_len, chipB_ln, lx])]; exact infoRaw) _ rfl OW OZ ?_; clear OW OZ; intro W OW OZ))
  refine leaves_own [] _ (Nat.le_of_eq HB0.out) (by simpa using OW.out) ?_
  intro W' hO
  exact ⟨.agg (rawV (chipB mode xs c (u8I v))), results_ownRow hO 3 rfl rfl rfl Try.underlying41 rfl (by rw [rawV_size, (show ((chipB mode xs c (u8I v))).length = 72 by simp only [forceI_len, chipB_ln, lx])]; exact infoRaw), (by simp only [fapply, hB7, hB10, cond_true, cond_false]), hO.done HB0⟩
end Go.Proofs.Ytckhkagkpldoiaa
