/- Several texts in one: FltA FltM. -/
import Derived.Test.YtckhkagkpldoiaaFltR
import Derived.WalkKit
import Derived.Sort.CutIn
namespace Go.Proofs.Ytckhkagkpldoiaa
open Go.RowKit Go.Shelf
attribute [local go_sem] Oper.semAt_some
set_option linter.unusedVariables false
set_option linter.unusedSimpArgs false

theorem ite_len {c : Bool} {xs ys : List UInt8} : (bif c then xs else ys).length = bif c then xs.length else ys.length := by cases c <;> rfl
theorem bif_self {α : Type} {c : Bool} {x : α} : (bif c then x else x) = x := by cases c <;> rfl
theorem fapply_len (k p0 p1 p2 p3 c b v mode q0 q1 q2 q3 : Int) (xs : List UInt8) : (fapply k p0 p1 p2 p3 c b v mode q0 q1 q2 q3 xs).length = xs.length := by
  unfold fapply
  simp only [ite_len, forceI_len, chipB_ln, bif_self]
theorem fapply11_len (k p0 p1 p2 p3 c b v mode q0 q1 q2 q3 : Int) (xs : List UInt8) : (fapply11 k p0 p1 p2 p3 c b v mode q0 q1 q2 q3 xs).length = xs.length := by
  unfold fapply11
  simp only [ite_len, forceI_len, chipB_ln, bif_self]
theorem zero72_len : zero72.length = 72 := rfl

set_option maxRecDepth 100000 in
set_option maxHeartbeats 1000000 in
theorem anchor11_any  (w : World) : Calls Try.prog 15 #[] w fun e w' => e = .returned (.bool true) ∧ Below w.heap.size w w' := by
  obtain ⟨b0, hb0⟩ : ∃ b0, w.heap.size = b0 := ⟨_, rfl⟩
  have HB0 := Lib.hid hb0
  have OW := Lib.hid (Own.start b0 w)
  have OZ := Lib.hid (And.intro hb0 (Nat.le_refl b0))
  clear hb0
  refine (callsIn_wide (n := 6)).1 ?_
  refine callsIn_of_wp_marks Try.func15 rfl trivial ?_ rfl
  simp only [Try.ntmps15, List.size_toArray, List.length_cons, List.length_nil, Nat.reduceAdd, Nat.reduceSub, Array.replicate_succ, Array.replicate_zero, List.push_toArray, List.append_toArray, List.nil_append, List.cons_append]
  gi_wp2_with (first | (refine own_valV 3 rfl rfl rfl (.agg #[.int .i64 0, .int .i64 0, .int .i64 1, .int .i64 0]) (run_buildO rfl (vs := #[(2, .int .i64 1)]) rfl _ (by kernel_rfl)) ?_) | (refine own_valV 4 rfl rfl rfl (.agg #[.int .i64 3, .int .i64 0, .int .i64 0, .int .i64 1, .int .i64 0, .int .i64 2, .int .i64 0, .int .i64 255]) (run_buildO rfl (vs := #[(0, .int .i64 3), (1, .agg #[.int .i64 0, .int .i64 0, .int .i64 1, .int .i64 0]), (2, .int .i64 2), (4, .int .i64 255)]) rfl _ (by kernel_rfl)) ?_) | (refine own_allocV 1 25 rfl rfl rfl #[.int .i64 0, .int .i64 0, .int .i64 0, .int .i64 0, .int .i64 0, .int .i64 0, .int .i64 0, .int .i64 0] (fun _ => by kernel_rfl) OW OZ ?_; clear OW OZ; intro W g1 OW OZ) | (refine own_storeSub 0 0 25 (.tmp 1) (.tmp 4) rfl rfl rfl rfl [.int .i64 3, .int .i64 0, .int .i64 0, .int .i64 1, .int .i64 0, .int .i64 2, .int .i64 0, .int .i64 255] rfl (Nat.le_of_ble_eq_true rfl) rfl (by kernel_rfl) #[.int .i64 3, .int .i64 0, .int .i64 0, .int .i64 1, .int .i64 0, .int .i64 2, .int .i64 0, .int .i64 255] rfl _ rfl OW OZ ?_; clear OW OZ; intro W OW OZ) | (refine own_loadSubV 5 0 0 25 (.tmp 1) rfl rfl rfl rfl rfl [.int .i64 3, .int .i64 0, .int .i64 0, .int .i64 1, .int .i64 0, .int .i64 2, .int .i64 0, .int .i64 255] rfl Try.underlying25 rfl (by kernel_rfl) OW ?_) | (refine own_valV 6 rfl rfl rfl (.agg #[.int .i64 0, .int .i64 0, .int .i64 1, .int .i64 3]) (run_buildO rfl (vs := #[(2, .int .i64 1), (3, .int .i64 3)]) rfl _ (by kernel_rfl)) ?_) | (refine own_valV 7 rfl rfl rfl (.agg (rawV zero72)) (run_buildO rfl (vs := #[]) rfl _ (by kernel_rfl)) ?_))
  refine ⟨trivial, ?_⟩
  refine (callsIn_wide.2 (fapply_any 3 0 0 1 0 2 0 255 1 0 0 1 3 zero72 (show (zero72).length = 72 from (show zero72.length = 72 from rfl)) (by omega) (by omega) _)).mono ?_
  rintro e Wg2 ⟨rfl, hbw⟩
  obtain ⟨g2, OW2, OZ2⟩ := own_call OW OZ hbw
  clear hbw OW OZ
  have OW := OW2
  have OZ := OZ2
  clear OW2 OZ2
  gi_upto_region 3 with (first | (refine own_allocV 2 41 rfl rfl rfl (rawV zero72) alRaw OW OZ ?_; clear OW OZ; intro W g3 OW OZ) | (refine own_storeRow 1 41 (.tmp 2) (.tmp 8) rfl rfl rfl rfl (rawV (fapply 3 0 0 1 0 2 0 255 1 0 0 1 3 zero72)) rfl (by rw [rawV_size, rawV_size, (show ((fapply 3 0 0 1 0 2 0 255 1 0 0 1 3 zero72)).length = 72 by simp only [forceI_len, chipB_ln, fapply_len, zero72_len]), (show (zero72).length = 72 from (show zero72.length = 72 from rfl))]) (rawV_one _) (by rw [rawV_size, (show ((fapply 3 0 0 1 0 2 0 255 1 0 0 1 3 zero72)).length = 72 by simp only [forceI_len, chipB_ln, fapply_len, zero72_len])]; exact infoRaw) _ rfl OW OZ ?_; clear OW OZ; intro W OW OZ))
  refine wpIn_region_heldL 23 (atD [[], [], [0, 1], [2], [3], [3, 4], [3, 5], [6], [7], [7, 8], [7, 9], [7, 10], [11], [12], [12, 13], [12, 14], [12, 15], [16], [17], [17, 18], [17, 19], [17, 20], [21]]) (atV [fun vH _ => vH = .agg #[.int .i64 3, .int .i64 0, .int .i64 0, .int .i64 1, .int .i64 0, .int .i64 2, .int .i64 0, .int .i64 255], fun vH _ => vH = .agg #[.int .i64 1, .int .i64 0, .int .i64 1, .int .i64 2, .int .i64 4], fun vH _ => vH = .bool (fright 3 0 0 1 0 2 0 255 1 0 1 2 4 1), fun vH _ => vH = .bool (fright 3 0 0 1 0 2 0 255 1 0 1 2 4 1), cdV (True ∧ (fright 3 0 0 1 0 2 0 255 1 0 1 2 4 1) = true) (fun vH _ => vH = .agg #[.int .i64 3, .int .i64 0, .int .i64 0, .int .i64 1, .int .i64 0, .int .i64 2, .int .i64 0, .int .i64 255]), cdV (True ∧ (fright 3 0 0 1 0 2 0 255 1 0 1 2 4 1) = true) (fun vH _ => vH = .bool (flasts 3 0 0 1 0 2 0 255)), fun vH _ => vH = .bool ((fright 3 0 0 1 0 2 0 255 1 0 1 2 4 1) && (flasts 3 0 0 1 0 2 0 255)), fun vH _ => vH = .bool ((fright 3 0 0 1 0 2 0 255 1 0 1 2 4 1) && (flasts 3 0 0 1 0 2 0 255)), cdV (True ∧ ((fright 3 0 0 1 0 2 0 255 1 0 1 2 4 1) && (flasts 3 0 0 1 0 2 0 255)) = true) (fun vH _ => vH = .pointer (some ⟨g2, 2, none⟩)), cdV (True ∧ ((fright 3 0 0 1 0 2 0 255 1 0 1 2 4 1) && (flasts 3 0 0 1 0 2 0 255)) = true) (fun vH _ => vH = .int .u8 (((fapply 3 0 0 1 0 2 0 255 1 0 0 1 3 zero72).getD 2 0).toNat : Int)), cdV (True ∧ ((fright 3 0 0 1 0 2 0 255 1 0 1 2 4 1) && (flasts 3 0 0 1 0 2 0 255)) = true) (fun vH _ => vH = .bool ((((fapply 3 0 0 1 0 2 0 255 1 0 0 1 3 zero72).getD 2 0).toNat : Int) == 255)), fun vH _ => vH = .bool (((fright 3 0 0 1 0 2 0 255 1 0 1 2 4 1) && (flasts 3 0 0 1 0 2 0 255)) && ((((fapply 3 0 0 1 0 2 0 255 1 0 0 1 3 zero72).getD 2 0).toNat : Int) == 255)), fun vH _ => vH = .bool (((fright 3 0 0 1 0 2 0 255 1 0 1 2 4 1) && (flasts 3 0 0 1 0 2 0 255)) && ((((fapply 3 0 0 1 0 2 0 255 1 0 0 1 3 zero72).getD 2 0).toNat : Int) == 255)), cdV (True ∧ (((fright 3 0 0 1 0 2 0 255 1 0 1 2 4 1) && (flasts 3 0 0 1 0 2 0 255)) && ((((fapply 3 0 0 1 0 2 0 255 1 0 0 1 3 zero72).getD 2 0).toNat : Int) == 255)) = true) (fun vH _ => vH = .pointer (some ⟨g2, 11, none⟩)), cdV (True ∧ (((fright 3 0 0 1 0 2 0 255 1 0 1 2 4 1) && (flasts 3 0 0 1 0 2 0 255)) && ((((fapply 3 0 0 1 0 2 0 255 1 0 0 1 3 zero72).getD 2 0).toNat : Int) == 255)) = true) (fun vH _ => vH = .int .u8 (((fapply 3 0 0 1 0 2 0 255 1 0 0 1 3 zero72).getD 11 0).toNat : Int)), cdV (True ∧ (((fright 3 0 0 1 0 2 0 255 1 0 1 2 4 1) && (flasts 3 0 0 1 0 2 0 255)) && ((((fapply 3 0 0 1 0 2 0 255 1 0 0 1 3 zero72).getD 2 0).toNat : Int) == 255)) = true) (fun vH _ => vH = .bool ((((fapply 3 0 0 1 0 2 0 255 1 0 0 1 3 zero72).getD 11 0).toNat : Int) == 255)), fun vH _ => vH = .bool ((((fright 3 0 0 1 0 2 0 255 1 0 1 2 4 1) && (flasts 3 0 0 1 0 2 0 255)) && ((((fapply 3 0 0 1 0 2 0 255 1 0 0 1 3 zero72).getD 2 0).toNat : Int) == 255)) && ((((fapply 3 0 0 1 0 2 0 255 1 0 0 1 3 zero72).getD 11 0).toNat : Int) == 255)), fun vH _ => vH = .bool ((((fright 3 0 0 1 0 2 0 255 1 0 1 2 4 1) && (flasts 3 0 0 1 0 2 0 255)) && ((((fapply 3 0 0 1 0 2 0 255 1 0 0 1 3 zero72).getD 2 0).toNat : Int) == 255)) && ((((fapply 3 0 0 1 0 2 0 255 1 0 0 1 3 zero72).getD 11 0).toNat : Int) == 255)), cdV (True ∧ ((((fright 3 0 0 1 0 2 0 255 1 0 1 2 4 1) && (flasts 3 0 0 1 0 2 0 255)) && ((((fapply 3 0 0 1 0 2 0 255 1 0 0 1 3 zero72).getD 2 0).toNat : Int) == 255)) && ((((fapply 3 0 0 1 0 2 0 255 1 0 0 1 3 zero72).getD 11 0).toNat : Int) == 255)) = true) (fun vH _ => vH = .pointer (some ⟨g2, 3, none⟩)), cdV (True ∧ ((((fright 3 0 0 1 0 2 0 255 1 0 1 2 4 1) && (flasts 3 0 0 1 0 2 0 255)) && ((((fapply 3 0 0 1 0 2 0 255 1 0 0 1 3 zero72).getD 2 0).toNat : Int) == 255)) && ((((fapply 3 0 0 1 0 2 0 255 1 0 0 1 3 zero72).getD 11 0).toNat : Int) == 255)) = true) (fun vH _ => vH = .int .u8 (((fapply 3 0 0 1 0 2 0 255 1 0 0 1 3 zero72).getD 3 0).toNat : Int)), cdV (True ∧ ((((fright 3 0 0 1 0 2 0 255 1 0 1 2 4 1) && (flasts 3 0 0 1 0 2 0 255)) && ((((fapply 3 0 0 1 0 2 0 255 1 0 0 1 3 zero72).getD 2 0).toNat : Int) == 255)) && ((((fapply 3 0 0 1 0 2 0 255 1 0 0 1 3 zero72).getD 11 0).toNat : Int) == 255)) = true) (fun vH _ => vH = .bool ((((fapply 3 0 0 1 0 2 0 255 1 0 0 1 3 zero72).getD 3 0).toNat : Int) == 0)), fun vH _ => vH = .bool (((((fright 3 0 0 1 0 2 0 255 1 0 1 2 4 1) && (flasts 3 0 0 1 0 2 0 255)) && ((((fapply 3 0 0 1 0 2 0 255 1 0 0 1 3 zero72).getD 2 0).toNat : Int) == 255)) && ((((fapply 3 0 0 1 0 2 0 255 1 0 0 1 3 zero72).getD 11 0).toNat : Int) == 255)) && ((((fapply 3 0 0 1 0 2 0 255 1 0 0 1 3 zero72).getD 3 0).toNat : Int) == 0)), fun vH _ => vH = .bool (((((fright 3 0 0 1 0 2 0 255 1 0 1 2 4 1) && (flasts 3 0 0 1 0 2 0 255)) && ((((fapply 3 0 0 1 0 2 0 255 1 0 0 1 3 zero72).getD 2 0).toNat : Int) == 255)) && ((((fapply 3 0 0 1 0 2 0 255 1 0 0 1 3 zero72).getD 11 0).toNat : Int) == 255)) && ((((fapply 3 0 0 1 0 2 0 255 1 0 0 1 3 zero72).getD 3 0).toNat : Int) == 0))]) BelowR (by kernel_rfl) BelowR.trans (BelowR.refl _)
    (StV.atV (.const _ (.const _ (.const _ (.const _ (.cons (fun v x y h _ => h) (.cons (fun v x y h _ => h) (.const _ (.const _ (.cons (fun v x y h _ => h) (.cons (fun v x y h _ => h) (.cons (fun v x y h _ => h) (.const _ (.const _ (.cons (fun v x y h _ => h) (.cons (fun v x y h _ => h) (.cons (fun v x y h _ => h) (.const _ (.const _ (.cons (fun v x y h _ => h) (.cons (fun v x y h _ => h) (.cons (fun v x y h _ => h) (.const _ (.const _ .nil))))))))))))))))))))))))
    ⟨?o4x0, ?o4x1, ?o4x2, ?o4x3, ?o4x4, ?o4x5, ?o4x6, ?o4x7, ?o4x8, ?o4x9, ?o4x10, ?o4x11, ?o4x12, ?o4x13, ?o4x14, ?o4x15, ?o4x16, ?o4x17, ?o4x18, ?o4x19, ?o4x20, ?o4x21, ?o4x22, trivial⟩ ?o4end
  case o4x0 =>
    exact held_load free_wide rfl BelowR.refl 25 (.tmp 1) rfl fun xsH w' hk hR => ⟨⟨b0, 0, none⟩, _, ((putsH_old (by kernel_rfl)).trans rfl), run_loadVar_sub w' b0 0 _ _ _ _ ((OW.out.step hR).get (k := 0) rfl) rfl Try.underlying25 rfl (by kernel_rfl), rfl⟩
  case o4x1 =>
    exact held_run free_wide rfl (by rfl) BelowR.refl fun xsH w' hk hR => ⟨.agg #[.int .i64 1, .int .i64 0, .int .i64 1, .int .i64 2, .int .i64 4], run_buildO rfl (vs := #[(0, .int .i64 1), (2, .int .i64 1), (3, .int .i64 2), (4, .int .i64 4)]) (mapB4 rfl rfl rfl rfl) _ (by kernel_rfl), rfl⟩
  case o4x2 =>
    refine held_call free_wide rfl 17 _ _ rfl (enters_of Try.func17 (by kernel_rfl) rfl) fun xsH w' hk hR => ?_
    refine ⟨#[.agg #[.int .i64 3, .int .i64 0, .int .i64 0, .int .i64 1, .int .i64 0, .int .i64 2, .int .i64 0, .int .i64 255], .agg #[.int .i64 1, .int .i64 0, .int .i64 1, .int .i64 2, .int .i64 4], .int .i64 1], mapE3 ((putsH_tmp (i := 0) (by kernel_rfl) (by kernel_rfl)).trans (show xsH 0 = .agg #[.int .i64 3, .int .i64 0, .int .i64 0, .int .i64 1, .int .i64 0, .int .i64 2, .int .i64 0, .int .i64 255] from hk 0 (by decide))) ((putsH_tmp (i := 1) (by kernel_rfl) (by kernel_rfl)).trans (show xsH 1 = .agg #[.int .i64 1, .int .i64 0, .int .i64 1, .int .i64 2, .int .i64 4] from hk 1 (by decide))) rfl, ?_⟩
    refine (callsIn_wide.2 (fright_any 3 0 0 1 0 2 0 255 1 0 1 2 4 1 _)).mono ?_
    rintro e w2 ⟨rfl, h2⟩
    exact ⟨_, rfl, rfl, h2⟩
  case o4x3 =>
    exact held_move free_wide rfl BelowR.refl (.tmp 11) (.inl rfl) fun xsH w' hk _ => ((putsH_tmp (i := 2) (by kernel_rfl) (by kernel_rfl)).trans (show xsH 2 = .bool (fright 3 0 0 1 0 2 0 255 1 0 1 2 4 1) from hk 2 (by decide)))
  case o4x4 =>
    refine held_guard free_wide 3 12 true True (fright 3 0 0 1 0 2 0 255 1 0 1 2 4 1) BelowR.refl rfl (by kernel_rfl) (by kernel_rfl) (by kernel_rfl) (fun xsH w' hk => Or.inl ⟨trivial, (show xsH 3 = .bool (fright 3 0 0 1 0 2 0 255 1 0 1 2 4 1) from hk 3 (by decide))⟩) (fun hC hG => ?_) (fun hN w' => Or.inr ⟨hN, rfl⟩)
    exact held_loadG free_wide hG BelowR.refl 25 (.tmp 1) rfl fun xsH w' hk hR => ⟨⟨b0, 0, none⟩, _, ((putsH_old (by kernel_rfl)).trans rfl), run_loadVar_sub w' b0 0 _ _ _ _ ((OW.out.step hR).get (k := 0) rfl) rfl Try.underlying25 rfl (by kernel_rfl), (Or.inl ⟨hC, rfl⟩)⟩
  case o4x5 =>
    refine held_guard free_wide 3 12 true True (fright 3 0 0 1 0 2 0 255 1 0 1 2 4 1) BelowR.refl rfl (by kernel_rfl) (by kernel_rfl) (by kernel_rfl) (fun xsH w' hk => Or.inl ⟨trivial, (show xsH 3 = .bool (fright 3 0 0 1 0 2 0 255 1 0 1 2 4 1) from hk 3 (by decide))⟩) (fun hC hG => ?_) (fun hN w' => Or.inr ⟨hN, rfl⟩)
    refine held_callG free_wide hG 19 _ _ rfl (enters_of Try.func19 (by kernel_rfl) rfl) fun xsH w' hk hR => ?_
    refine ⟨#[.agg #[.int .i64 3, .int .i64 0, .int .i64 0, .int .i64 1, .int .i64 0, .int .i64 2, .int .i64 0, .int .i64 255]], mapE1 ((putsH_tmp (i := 4) (by kernel_rfl) (by kernel_rfl)).trans ((show cdV (True ∧ (fright 3 0 0 1 0 2 0 255 1 0 1 2 4 1) = true) (fun vH _ => vH = .agg #[.int .i64 3, .int .i64 0, .int .i64 0, .int .i64 1, .int .i64 0, .int .i64 2, .int .i64 0, .int .i64 255]) (xsH 4) w' from hk 4 (by decide)).get hC)), ?_⟩
    refine (callsIn_wide.2 (flasts_any 3 0 0 1 0 2 0 255 _)).mono ?_
    rintro e w2 ⟨rfl, h2⟩
    exact ⟨_, rfl, (Or.inl ⟨hC, rfl⟩), h2⟩
  case o4x6 =>
    exact held_run free_wide rfl (by rfl) BelowR.refl fun xsH w' hk hR => ⟨.bool ((fright 3 0 0 1 0 2 0 255 1 0 1 2 4 1) && (flasts 3 0 0 1 0 2 0 255)), run_pickAnd rfl ((putsH_tmp (i := 3) (by kernel_rfl) (by kernel_rfl)).trans (show xsH 3 = .bool (fright 3 0 0 1 0 2 0 255 1 0 1 2 4 1) from hk 3 (by decide))) rfl (fun h => (putsH_tmp (i := 5) (by kernel_rfl) (by kernel_rfl)).trans ((show cdV (True ∧ (fright 3 0 0 1 0 2 0 255 1 0 1 2 4 1) = true) (fun vH _ => vH = .bool (flasts 3 0 0 1 0 2 0 255)) (xsH 5) w' from hk 5 (by decide)).get (And.intro trivial h))), rfl⟩
  case o4x7 =>
    exact held_move free_wide rfl BelowR.refl (.tmp 15) (.inl rfl) fun xsH w' hk _ => ((putsH_tmp (i := 6) (by kernel_rfl) (by kernel_rfl)).trans (show xsH 6 = .bool ((fright 3 0 0 1 0 2 0 255 1 0 1 2 4 1) && (flasts 3 0 0 1 0 2 0 255)) from hk 6 (by decide)))
  case o4x8 =>
    refine held_guard free_wide 7 16 true True ((fright 3 0 0 1 0 2 0 255 1 0 1 2 4 1) && (flasts 3 0 0 1 0 2 0 255)) BelowR.refl rfl (by kernel_rfl) (by kernel_rfl) (by kernel_rfl) (fun xsH w' hk => Or.inl ⟨trivial, (show xsH 7 = .bool ((fright 3 0 0 1 0 2 0 255 1 0 1 2 4 1) && (flasts 3 0 0 1 0 2 0 255)) from hk 7 (by decide))⟩) (fun hC hG => ?_) (fun hN w' => Or.inr ⟨hN, rfl⟩)
    exact held_runG free_wide hG (by rfl) BelowR.refl fun xsH w' hk hR => ⟨.pointer (some ⟨g2, 2, none⟩), run_idxO rfl ((putsH_old (by kernel_rfl)).trans rfl) rfl (by kernel_rfl), (Or.inl ⟨hC, rfl⟩)⟩
  case o4x9 =>
    refine held_guard free_wide 7 16 true True ((fright 3 0 0 1 0 2 0 255 1 0 1 2 4 1) && (flasts 3 0 0 1 0 2 0 255)) BelowR.refl rfl (by kernel_rfl) (by kernel_rfl) (by kernel_rfl) (fun xsH w' hk => Or.inl ⟨trivial, (show xsH 7 = .bool ((fright 3 0 0 1 0 2 0 255 1 0 1 2 4 1) && (flasts 3 0 0 1 0 2 0 255)) from hk 7 (by decide))⟩) (fun hC hG => ?_) (fun hN w' => Or.inr ⟨hN, rfl⟩)
    exact held_loadG free_wide hG BelowR.refl 5 (.tmp 17) rfl fun xsH w' hk hR => ⟨⟨g2, 2, none⟩, _, ((putsH_tmp (i := 8) (by kernel_rfl) (by kernel_rfl)).trans ((show cdV (True ∧ ((fright 3 0 0 1 0 2 0 255 1 0 1 2 4 1) && (flasts 3 0 0 1 0 2 0 255)) = true) (fun vH _ => vH = .pointer (some ⟨g2, 2, none⟩)) (xsH 8) w' from hk 8 (by decide)).get hC)), run_loadVar_cell (naU8 w') ((((OW.out.step hR).blk (k := 1) rfl).cell 2).trans (rawV_get _ (by rw [(show ((fapply 3 0 0 1 0 2 0 255 1 0 0 1 3 zero72)).length = 72 by simp only [forceI_len, chipB_ln, fapply_len, zero72_len])]; decide))), (Or.inl ⟨hC, rfl⟩)⟩
  case o4x10 =>
    refine held_guard free_wide 7 16 true True ((fright 3 0 0 1 0 2 0 255 1 0 1 2 4 1) && (flasts 3 0 0 1 0 2 0 255)) BelowR.refl rfl (by kernel_rfl) (by kernel_rfl) (by kernel_rfl) (fun xsH w' hk => Or.inl ⟨trivial, (show xsH 7 = .bool ((fright 3 0 0 1 0 2 0 255 1 0 1 2 4 1) && (flasts 3 0 0 1 0 2 0 255)) from hk 7 (by decide))⟩) (fun hC hG => ?_) (fun hN w' => Or.inr ⟨hN, rfl⟩)
    exact held_runG free_wide hG (by rfl) BelowR.refl fun xsH w' hk hR => ⟨.bool ((((fapply 3 0 0 1 0 2 0 255 1 0 0 1 3 zero72).getD 2 0).toNat : Int) == 255), run_binO rfl ((putsH_tmp (i := 9) (by kernel_rfl) (by kernel_rfl)).trans ((show cdV (True ∧ ((fright 3 0 0 1 0 2 0 255 1 0 1 2 4 1) && (flasts 3 0 0 1 0 2 0 255)) = true) (fun vH _ => vH = .int .u8 (((fapply 3 0 0 1 0 2 0 255 1 0 0 1 3 zero72).getD 2 0).toNat : Int)) (xsH 9) w' from hk 9 (by decide)).get hC)) rfl bin_eql, (Or.inl ⟨hC, rfl⟩)⟩
  case o4x11 =>
    exact held_run free_wide rfl (by rfl) BelowR.refl fun xsH w' hk hR => ⟨.bool (((fright 3 0 0 1 0 2 0 255 1 0 1 2 4 1) && (flasts 3 0 0 1 0 2 0 255)) && ((((fapply 3 0 0 1 0 2 0 255 1 0 0 1 3 zero72).getD 2 0).toNat : Int) == 255)), run_pickAnd rfl ((putsH_tmp (i := 7) (by kernel_rfl) (by kernel_rfl)).trans (show xsH 7 = .bool ((fright 3 0 0 1 0 2 0 255 1 0 1 2 4 1) && (flasts 3 0 0 1 0 2 0 255)) from hk 7 (by decide))) rfl (fun h => (putsH_tmp (i := 10) (by kernel_rfl) (by kernel_rfl)).trans ((show cdV (True ∧ ((fright 3 0 0 1 0 2 0 255 1 0 1 2 4 1) && (flasts 3 0 0 1 0 2 0 255)) = true) (fun vH _ => vH = .bool ((((fapply 3 0 0 1 0 2 0 255 1 0 0 1 3 zero72).getD 2 0).toNat : Int) == 255)) (xsH 10) w' from hk 10 (by decide)).get (And.intro trivial h))), rfl⟩
  case o4x12 =>
    exact held_move free_wide rfl BelowR.refl (.tmp 20) (.inl rfl) fun xsH w' hk _ => ((putsH_tmp (i := 11) (by kernel_rfl) (by kernel_rfl)).trans (show xsH 11 = .bool (((fright 3 0 0 1 0 2 0 255 1 0 1 2 4 1) && (flasts 3 0 0 1 0 2 0 255)) && ((((fapply 3 0 0 1 0 2 0 255 1 0 0 1 3 zero72).getD 2 0).toNat : Int) == 255)) from hk 11 (by decide)))
  case o4x13 =>
    refine held_guard free_wide 12 21 true True (((fright 3 0 0 1 0 2 0 255 1 0 1 2 4 1) && (flasts 3 0 0 1 0 2 0 255)) && ((((fapply 3 0 0 1 0 2 0 255 1 0 0 1 3 zero72).getD 2 0).toNat : Int) == 255)) BelowR.refl rfl (by kernel_rfl) (by kernel_rfl) (by kernel_rfl) (fun xsH w' hk => Or.inl ⟨trivial, (show xsH 12 = .bool (((fright 3 0 0 1 0 2 0 255 1 0 1 2 4 1) && (flasts 3 0 0 1 0 2 0 255)) && ((((fapply 3 0 0 1 0 2 0 255 1 0 0 1 3 zero72).getD 2 0).toNat : Int) == 255)) from hk 12 (by decide))⟩) (fun hC hG => ?_) (fun hN w' => Or.inr ⟨hN, rfl⟩)
    exact held_runG free_wide hG (by rfl) BelowR.refl fun xsH w' hk hR => ⟨.pointer (some ⟨g2, 11, none⟩), run_idxO rfl ((putsH_old (by kernel_rfl)).trans rfl) rfl (by kernel_rfl), (Or.inl ⟨hC, rfl⟩)⟩
  case o4x14 =>
    refine held_guard free_wide 12 21 true True (((fright 3 0 0 1 0 2 0 255 1 0 1 2 4 1) && (flasts 3 0 0 1 0 2 0 255)) && ((((fapply 3 0 0 1 0 2 0 255 1 0 0 1 3 zero72).getD 2 0).toNat : Int) == 255)) BelowR.refl rfl (by kernel_rfl) (by kernel_rfl) (by kernel_rfl) (fun xsH w' hk => Or.inl ⟨trivial, (show xsH 12 = .bool (((fright 3 0 0 1 0 2 0 255 1 0 1 2 4 1) && (flasts 3 0 0 1 0 2 0 255)) && ((((fapply 3 0 0 1 0 2 0 255 1 0 0 1 3 zero72).getD 2 0).toNat : Int) == 255)) from hk 12 (by decide))⟩) (fun hC hG => ?_) (fun hN w' => Or.inr ⟨hN, rfl⟩)
    exact held_loadG free_wide hG BelowR.refl 5 (.tmp 22) rfl fun xsH w' hk hR => ⟨⟨g2, 11, none⟩, _, ((putsH_tmp (i := 13) (by kernel_rfl) (by kernel_rfl)).trans ((show cdV (True ∧ (((fright 3 0 0 1 0 2 0 255 1 0 1 2 4 1) && (flasts 3 0 0 1 0 2 0 255)) && ((((fapply 3 0 0 1 0 2 0 255 1 0 0 1 3 zero72).getD 2 0).toNat : Int) == 255)) = true) (fun vH _ => vH = .pointer (some ⟨g2, 11, none⟩)) (xsH 13) w' from hk 13 (by decide)).get hC)), run_loadVar_cell (naU8 w') ((((OW.out.step hR).blk (k := 1) rfl).cell 11).trans (rawV_get _ (by rw [(show ((fapply 3 0 0 1 0 2 0 255 1 0 0 1 3 zero72)).length = 72 by simp only [forceI_len, chipB_ln, fapply_len, zero72_len])]; decide))), (Or.inl ⟨hC, rfl⟩)⟩
  case o4x15 =>
    refine held_guard free_wide 12 21 true True (((fright 3 0 0 1 0 2 0 255 1 0 1 2 4 1) && (flasts 3 0 0 1 0 2 0 255)) && ((((fapply 3 0 0 1 0 2 0 255 1 0 0 1 3 zero72).getD 2 0).toNat : Int) == 255)) BelowR.refl rfl (by kernel_rfl) (by kernel_rfl) (by kernel_rfl) (fun xsH w' hk => Or.inl ⟨trivial, (show xsH 12 = .bool (((fright 3 0 0 1 0 2 0 255 1 0 1 2 4 1) && (flasts 3 0 0 1 0 2 0 255)) && ((((fapply 3 0 0 1 0 2 0 255 1 0 0 1 3 zero72).getD 2 0).toNat : Int) == 255)) from hk 12 (by decide))⟩) (fun hC hG => ?_) (fun hN w' => Or.inr ⟨hN, rfl⟩)
    exact held_runG free_wide hG (by rfl) BelowR.refl fun xsH w' hk hR => ⟨.bool ((((fapply 3 0 0 1 0 2 0 255 1 0 0 1 3 zero72).getD 11 0).toNat : Int) == 255), run_binO rfl ((putsH_tmp (i := 14) (by kernel_rfl) (by kernel_rfl)).trans ((show cdV (True ∧ (((fright 3 0 0 1 0 2 0 255 1 0 1 2 4 1) && (flasts 3 0 0 1 0 2 0 255)) && ((((fapply 3 0 0 1 0 2 0 255 1 0 0 1 3 zero72).getD 2 0).toNat : Int) == 255)) = true) (fun vH _ => vH = .int .u8 (((fapply 3 0 0 1 0 2 0 255 1 0 0 1 3 zero72).getD 11 0).toNat : Int)) (xsH 14) w' from hk 14 (by decide)).get hC)) rfl bin_eql, (Or.inl ⟨hC, rfl⟩)⟩
  case o4x16 =>
    exact held_run free_wide rfl (by rfl) BelowR.refl fun xsH w' hk hR => ⟨.bool ((((fright 3 0 0 1 0 2 0 255 1 0 1 2 4 1) && (flasts 3 0 0 1 0 2 0 255)) && ((((fapply 3 0 0 1 0 2 0 255 1 0 0 1 3 zero72).getD 2 0).toNat : Int) == 255)) && ((((fapply 3 0 0 1 0 2 0 255 1 0 0 1 3 zero72).getD 11 0).toNat : Int) == 255)), run_pickAnd rfl ((putsH_tmp (i := 12) (by kernel_rfl) (by kernel_rfl)).trans (show xsH 12 = .bool (((fright 3 0 0 1 0 2 0 255 1 0 1 2 4 1) && (flasts 3 0 0 1 0 2 0 255)) && ((((fapply 3 0 0 1 0 2 0 255 1 0 0 1 3 zero72).getD 2 0).toNat : Int) == 255)) from hk 12 (by decide))) rfl (fun h => (putsH_tmp (i := 15) (by kernel_rfl) (by kernel_rfl)).trans ((show cdV (True ∧ (((fright 3 0 0 1 0 2 0 255 1 0 1 2 4 1) && (flasts 3 0 0 1 0 2 0 255)) && ((((fapply 3 0 0 1 0 2 0 255 1 0 0 1 3 zero72).getD 2 0).toNat : Int) == 255)) = true) (fun vH _ => vH = .bool ((((fapply 3 0 0 1 0 2 0 255 1 0 0 1 3 zero72).getD 11 0).toNat : Int) == 255)) (xsH 15) w' from hk 15 (by decide)).get (And.intro trivial h))), rfl⟩
  case o4x17 =>
    exact held_move free_wide rfl BelowR.refl (.tmp 25) (.inl rfl) fun xsH w' hk _ => ((putsH_tmp (i := 16) (by kernel_rfl) (by kernel_rfl)).trans (show xsH 16 = .bool ((((fright 3 0 0 1 0 2 0 255 1 0 1 2 4 1) && (flasts 3 0 0 1 0 2 0 255)) && ((((fapply 3 0 0 1 0 2 0 255 1 0 0 1 3 zero72).getD 2 0).toNat : Int) == 255)) && ((((fapply 3 0 0 1 0 2 0 255 1 0 0 1 3 zero72).getD 11 0).toNat : Int) == 255)) from hk 16 (by decide)))
  case o4x18 =>
    refine held_guard free_wide 17 26 true True ((((fright 3 0 0 1 0 2 0 255 1 0 1 2 4 1) && (flasts 3 0 0 1 0 2 0 255)) && ((((fapply 3 0 0 1 0 2 0 255 1 0 0 1 3 zero72).getD 2 0).toNat : Int) == 255)) && ((((fapply 3 0 0 1 0 2 0 255 1 0 0 1 3 zero72).getD 11 0).toNat : Int) == 255)) BelowR.refl rfl (by kernel_rfl) (by kernel_rfl) (by kernel_rfl) (fun xsH w' hk => Or.inl ⟨trivial, (show xsH 17 = .bool ((((fright 3 0 0 1 0 2 0 255 1 0 1 2 4 1) && (flasts 3 0 0 1 0 2 0 255)) && ((((fapply 3 0 0 1 0 2 0 255 1 0 0 1 3 zero72).getD 2 0).toNat : Int) == 255)) && ((((fapply 3 0 0 1 0 2 0 255 1 0 0 1 3 zero72).getD 11 0).toNat : Int) == 255)) from hk 17 (by decide))⟩) (fun hC hG => ?_) (fun hN w' => Or.inr ⟨hN, rfl⟩)
    exact held_runG free_wide hG (by rfl) BelowR.refl fun xsH w' hk hR => ⟨.pointer (some ⟨g2, 3, none⟩), run_idxO rfl ((putsH_old (by kernel_rfl)).trans rfl) rfl (by kernel_rfl), (Or.inl ⟨hC, rfl⟩)⟩
  case o4x19 =>
    refine held_guard free_wide 17 26 true True ((((fright 3 0 0 1 0 2 0 255 1 0 1 2 4 1) && (flasts 3 0 0 1 0 2 0 255)) && ((((fapply 3 0 0 1 0 2 0 255 1 0 0 1 3 zero72).getD 2 0).toNat : Int) == 255)) && ((((fapply 3 0 0 1 0 2 0 255 1 0 0 1 3 zero72).getD 11 0).toNat : Int) == 255)) BelowR.refl rfl (by kernel_rfl) (by kernel_rfl) (by kernel_rfl) (fun xsH w' hk => Or.inl ⟨trivial, (show xsH 17 = .bool ((((fright 3 0 0 1 0 2 0 255 1 0 1 2 4 1) && (flasts 3 0 0 1 0 2 0 255)) && ((((fapply 3 0 0 1 0 2 0 255 1 0 0 1 3 zero72).getD 2 0).toNat : Int) == 255)) && ((((fapply 3 0 0 1 0 2 0 255 1 0 0 1 3 zero72).getD 11 0).toNat : Int) == 255)) from hk 17 (by decide))⟩) (fun hC hG => ?_) (fun hN w' => Or.inr ⟨hN, rfl⟩)
    exact held_loadG free_wide hG BelowR.refl 5 (.tmp 27) rfl fun xsH w' hk hR => ⟨⟨g2, 3, none⟩, _, ((putsH_tmp (i := 18) (by kernel_rfl) (by kernel_rfl)).trans ((show cdV (True ∧ ((((fright 3 0 0 1 0 2 0 255 1 0 1 2 4 1) && (flasts 3 0 0 1 0 2 0 255)) && ((((fapply 3 0 0 1 0 2 0 255 1 0 0 1 3 zero72).getD 2 0).toNat : Int) == 255)) && ((((fapply 3 0 0 1 0 2 0 255 1 0 0 1 3 zero72).getD 11 0).toNat : Int) == 255)) = true) (fun vH _ => vH = .pointer (some ⟨g2, 3, none⟩)) (xsH 18) w' from hk 18 (by decide)).get hC)), run_loadVar_cell (naU8 w') ((((OW.out.step hR).blk (k := 1) rfl).cell 3).trans (rawV_get _ (by rw [(show ((fapply 3 0 0 1 0 2 0 255 1 0 0 1 3 zero72)).length = 72 by simp only [forceI_len, chipB_ln, fapply_len, zero72_len])]; decide))), (Or.inl ⟨hC, rfl⟩)⟩
  case o4x20 =>
    refine held_guard free_wide 17 26 true True ((((fright 3 0 0 1 0 2 0 255 1 0 1 2 4 1) && (flasts 3 0 0 1 0 2 0 255)) && ((((fapply 3 0 0 1 0 2 0 255 1 0 0 1 3 zero72).getD 2 0).toNat : Int) == 255)) && ((((fapply 3 0 0 1 0 2 0 255 1 0 0 1 3 zero72).getD 11 0).toNat : Int) == 255)) BelowR.refl rfl (by kernel_rfl) (by kernel_rfl) (by kernel_rfl) (fun xsH w' hk => Or.inl ⟨trivial, (show xsH 17 = .bool ((((fright 3 0 0 1 0 2 0 255 1 0 1 2 4 1) && (flasts 3 0 0 1 0 2 0 255)) && ((((fapply 3 0 0 1 0 2 0 255 1 0 0 1 3 zero72).getD 2 0).toNat : Int) == 255)) && ((((fapply 3 0 0 1 0 2 0 255 1 0 0 1 3 zero72).getD 11 0).toNat : Int) == 255)) from hk 17 (by decide))⟩) (fun hC hG => ?_) (fun hN w' => Or.inr ⟨hN, rfl⟩)
    exact held_runG free_wide hG (by rfl) BelowR.refl fun xsH w' hk hR => ⟨.bool ((((fapply 3 0 0 1 0 2 0 255 1 0 0 1 3 zero72).getD 3 0).toNat : Int) == 0), run_binO rfl ((putsH_tmp (i := 19) (by kernel_rfl) (by kernel_rfl)).trans ((show cdV (True ∧ ((((fright 3 0 0 1 0 2 0 255 1 0 1 2 4 1) && (flasts 3 0 0 1 0 2 0 255)) && ((((fapply 3 0 0 1 0 2 0 255 1 0 0 1 3 zero72).getD 2 0).toNat : Int) == 255)) && ((((fapply 3 0 0 1 0 2 0 255 1 0 0 1 3 zero72).getD 11 0).toNat : Int) == 255)) = true) (fun vH _ => vH = .int .u8 (((fapply 3 0 0 1 0 2 0 255 1 0 0 1 3 zero72).getD 3 0).toNat : Int)) (xsH 19) w' from hk 19 (by decide)).get hC)) rfl bin_eql, (Or.inl ⟨hC, rfl⟩)⟩
  case o4x21 =>
    exact held_run free_wide rfl (by rfl) BelowR.refl fun xsH w' hk hR => ⟨.bool (((((fright 3 0 0 1 0 2 0 255 1 0 1 2 4 1) && (flasts 3 0 0 1 0 2 0 255)) && ((((fapply 3 0 0 1 0 2 0 255 1 0 0 1 3 zero72).getD 2 0).toNat : Int) == 255)) && ((((fapply 3 0 0 1 0 2 0 255 1 0 0 1 3 zero72).getD 11 0).toNat : Int) == 255)) && ((((fapply 3 0 0 1 0 2 0 255 1 0 0 1 3 zero72).getD 3 0).toNat : Int) == 0)), run_pickAnd rfl ((putsH_tmp (i := 17) (by kernel_rfl) (by kernel_rfl)).trans (show xsH 17 = .bool ((((fright 3 0 0 1 0 2 0 255 1 0 1 2 4 1) && (flasts 3 0 0 1 0 2 0 255)) && ((((fapply 3 0 0 1 0 2 0 255 1 0 0 1 3 zero72).getD 2 0).toNat : Int) == 255)) && ((((fapply 3 0 0 1 0 2 0 255 1 0 0 1 3 zero72).getD 11 0).toNat : Int) == 255)) from hk 17 (by decide))) rfl (fun h => (putsH_tmp (i := 20) (by kernel_rfl) (by kernel_rfl)).trans ((show cdV (True ∧ ((((fright 3 0 0 1 0 2 0 255 1 0 1 2 4 1) && (flasts 3 0 0 1 0 2 0 255)) && ((((fapply 3 0 0 1 0 2 0 255 1 0 0 1 3 zero72).getD 2 0).toNat : Int) == 255)) && ((((fapply 3 0 0 1 0 2 0 255 1 0 0 1 3 zero72).getD 11 0).toNat : Int) == 255)) = true) (fun vH _ => vH = .bool ((((fapply 3 0 0 1 0 2 0 255 1 0 0 1 3 zero72).getD 3 0).toNat : Int) == 0)) (xsH 20) w' from hk 20 (by decide)).get (And.intro trivial h))), rfl⟩
  case o4x22 =>
    exact held_move free_wide rfl BelowR.refl (.tmp 30) (.inr rfl) fun xsH w' hk _ => ((putsH_tmp (i := 21) (by kernel_rfl) (by kernel_rfl)).trans (show xsH 21 = .bool (((((fright 3 0 0 1 0 2 0 255 1 0 1 2 4 1) && (flasts 3 0 0 1 0 2 0 255)) && ((((fapply 3 0 0 1 0 2 0 255 1 0 0 1 3 zero72).getD 2 0).toNat : Int) == 255)) && ((((fapply 3 0 0 1 0 2 0 255 1 0 0 1 3 zero72).getD 11 0).toNat : Int) == 255)) && ((((fapply 3 0 0 1 0 2 0 255 1 0 0 1 3 zero72).getD 3 0).toNat : Int) == 0)) from hk 21 (by decide)))
  case o4end =>
    intro xsH w' hv hR
    have h0 : xsH 0 = .agg #[.int .i64 3, .int .i64 0, .int .i64 0, .int .i64 1, .int .i64 0, .int .i64 2, .int .i64 0, .int .i64 255] := hv 0 (by omega)
    have h1 : xsH 1 = .agg #[.int .i64 1, .int .i64 0, .int .i64 1, .int .i64 2, .int .i64 4] := hv 1 (by omega)
    have h2 : xsH 2 = .bool (fright 3 0 0 1 0 2 0 255 1 0 1 2 4 1) := hv 2 (by omega)
    have h3 : xsH 3 = .bool (fright 3 0 0 1 0 2 0 255 1 0 1 2 4 1) := hv 3 (by omega)
    have h6 : xsH 6 = .bool ((fright 3 0 0 1 0 2 0 255 1 0 1 2 4 1) && (flasts 3 0 0 1 0 2 0 255)) := hv 6 (by omega)
    have h7 : xsH 7 = .bool ((fright 3 0 0 1 0 2 0 255 1 0 1 2 4 1) && (flasts 3 0 0 1 0 2 0 255)) := hv 7 (by omega)
    have h11 : xsH 11 = .bool (((fright 3 0 0 1 0 2 0 255 1 0 1 2 4 1) && (flasts 3 0 0 1 0 2 0 255)) && ((((fapply 3 0 0 1 0 2 0 255 1 0 0 1 3 zero72).getD 2 0).toNat : Int) == 255)) := hv 11 (by omega)
    have h12 : xsH 12 = .bool (((fright 3 0 0 1 0 2 0 255 1 0 1 2 4 1) && (flasts 3 0 0 1 0 2 0 255)) && ((((fapply 3 0 0 1 0 2 0 255 1 0 0 1 3 zero72).getD 2 0).toNat : Int) == 255)) := hv 12 (by omega)
    have h16 : xsH 16 = .bool ((((fright 3 0 0 1 0 2 0 255 1 0 1 2 4 1) && (flasts 3 0 0 1 0 2 0 255)) && ((((fapply 3 0 0 1 0 2 0 255 1 0 0 1 3 zero72).getD 2 0).toNat : Int) == 255)) && ((((fapply 3 0 0 1 0 2 0 255 1 0 0 1 3 zero72).getD 11 0).toNat : Int) == 255)) := hv 16 (by omega)
    have h17 : xsH 17 = .bool ((((fright 3 0 0 1 0 2 0 255 1 0 1 2 4 1) && (flasts 3 0 0 1 0 2 0 255)) && ((((fapply 3 0 0 1 0 2 0 255 1 0 0 1 3 zero72).getD 2 0).toNat : Int) == 255)) && ((((fapply 3 0 0 1 0 2 0 255 1 0 0 1 3 zero72).getD 11 0).toNat : Int) == 255)) := hv 17 (by omega)
    have h21 : xsH 21 = .bool (((((fright 3 0 0 1 0 2 0 255 1 0 1 2 4 1) && (flasts 3 0 0 1 0 2 0 255)) && ((((fapply 3 0 0 1 0 2 0 255 1 0 0 1 3 zero72).getD 2 0).toNat : Int) == 255)) && ((((fapply 3 0 0 1 0 2 0 255 1 0 0 1 3 zero72).getD 11 0).toNat : Int) == 255)) && ((((fapply 3 0 0 1 0 2 0 255 1 0 0 1 3 zero72).getD 3 0).toNat : Int) == 0)) := hv 21 (by omega)
    have h22 : xsH 22 = .bool (((((fright 3 0 0 1 0 2 0 255 1 0 1 2 4 1) && (flasts 3 0 0 1 0 2 0 255)) && ((((fapply 3 0 0 1 0 2 0 255 1 0 0 1 3 zero72).getD 2 0).toNat : Int) == 255)) && ((((fapply 3 0 0 1 0 2 0 255 1 0 0 1 3 zero72).getD 11 0).toNat : Int) == 255)) && ((((fapply 3 0 0 1 0 2 0 255 1 0 0 1 3 zero72).getD 3 0).toNat : Int) == 0)) := hv 22 (by omega)
    simp only [List.take_succ_cons, List.take_zero, List.drop_succ_cons, List.drop_zero, putsH, Act.put, List.setIfInBounds_toArray, List.set_cons_succ, List.set_cons_zero, h0, h1, h2, h3, h6, h7, h11, h12, h16, h17, h21, h22]
    have OW2 := Lib.hid (OW.out.step hR)
    clear hv hR OW OZ h0 h1 h2 h3 h6 h7 h11 h12 h16 h17 h21 h22
    have OW := OW2
    clear OW2
    obtain ⟨g5, OZ⟩ := own_size OW HB0
    gi_wp2
    refine leaves_own [] _ (Nat.le_of_eq HB0.out) (by simpa using OW.out) ?_
    intro W' hO
    exact ⟨.bool (((((fright 3 0 0 1 0 2 0 255 1 0 1 2 4 1) && (flasts 3 0 0 1 0 2 0 255)) && ((((fapply 3 0 0 1 0 2 0 255 1 0 0 1 3 zero72).getD 2 0).toNat : Int) == 255)) && ((((fapply 3 0 0 1 0 2 0 255 1 0 0 1 3 zero72).getD 11 0).toNat : Int) == 255)) && ((((fapply 3 0 0 1 0 2 0 255 1 0 0 1 3 zero72).getD 3 0).toNat : Int) == 0)), by simp [results, Try.results15, go_sem], congrArg (fun b => Ending.returned (.bool b)) (by decide +kernel), hO.done HB0⟩
end Go.Proofs.Ytckhkagkpldoiaa
namespace Go.Proofs.Ytckhkagkpldoiaa

theorem pow_tab : ∀ n : Nat, n < 1025 → 1 ≤ n → (bits .and .i64 (n : Int) ((n : Int) - 1) == 0) = (List.range 11).any fun k => (n : Int) == (2 : Int) ^ k := by decide +kernel
theorem gpower_eq {n M : Int} (hM : M ≤ 1024) : gpower n M = rpow n M := by
  by_cases h : 1 ≤ n ∧ n ≤ M
  · obtain ⟨x, rfl⟩ := Int.eq_ofNat_of_zero_le (show 0 ≤ n by omega)
    have h1 := pow_tab x (by omega) (by omega)
    unfold gpower rpow
    rw [h1, decide_eq_true h.1, decide_eq_true h.2, Bool.true_and, Bool.true_and]
    refine List.any_congr rfl fun k => ?_
    by_cases e : ((x : Nat) : Int) = (2 : Int) ^ k
    · rw [← e]; simp [h.2]
    · simp [e]
  · have h1 : gpower n M = false := by
      rw [Bool.eq_false_iff]; intro h2; exact h (gpower_in h2)
    have h2 : rpow n M = false := by
      rw [Bool.eq_false_iff]; intro h2; exact h (rpow_in h2)
    rw [h1, h2]
theorem gright_eq (r s b m c : Int) : gright r s b m c = rright r s b m c := by
  unfold gright rright
  rw [gpower_eq (by decide), gpower_eq (by decide), gpower_eq (by decide), gpower_eq (by decide)]
  cases rpow r 8 <;> cases rpow b 16 <;> cases rpow m 1024 <;> cases rpow c 64 <;> simp
  by_cases h1 : 0 ≤ s <;> by_cases h2 : s ≤ 8 - r
  · rw [decide_eq_true h1, decide_eq_true h2, decide_eq_false (show ¬ s < 0 by omega), decide_eq_false (show ¬ 8 - r < s by omega)]; rfl
  · rw [decide_eq_false h2, decide_eq_true (show 8 - r < s by omega)]; simp
  · rw [decide_eq_false h1, decide_eq_true (show s < 0 by omega)]; simp
  · rw [decide_eq_false h1, decide_eq_true (show s < 0 by omega)]; simp
theorem gbelow_eq (i n : Int) : gbelow i n = (!(decide (i < 0)) && decide (i < n)) := by
  unfold gbelow
  by_cases h : 0 ≤ i
  · rw [decide_eq_true h, decide_eq_false (show ¬ i < 0 by omega)]; rfl
  · rw [decide_eq_false h, decide_eq_true (show i < 0 by omega)]; rfl
theorem gholds_eq (r s b m c p0 p1 p2 p3 : Int) : gholds r s b m c p0 p1 p2 p3 = rholds r s b m c p0 p1 p2 p3 := by
  unfold gholds rholds
  rw [gright_eq, gbelow_eq, gbelow_eq, gbelow_eq, gbelow_eq]
  cases rright r s b m c <;> cases decide (p0 < 0) <;> cases decide (p1 < 0) <;> cases decide (p2 < 0) <;> cases decide (p3 < 0) <;> simp
theorem flies_eq (k p0 p1 p2 p3 c b v q0 q1 q2 q3 : Int) : flies k p0 p1 p2 p3 c b v q0 q1 q2 q3 = flies11 k p0 p1 p2 p3 c b v q0 q1 q2 q3 := by
  unfold flies flies11
  by_cases h1 : k = 1
  · simp [h1]
  by_cases h2 : k = 2
  · simp [h2]
  by_cases h3 : k = 3
  · subst h3; simp [Bool.decide_and, Bool.and_assoc]; rfl
  by_cases h4 : k = 4
  · subst h4; simp [Bool.decide_and, Bool.and_assoc]; rfl
  by_cases h5 : k = 5
  · subst h5; simp
  rw [beq_eq_false_iff_ne.2 h1, beq_eq_false_iff_ne.2 h2, beq_eq_false_iff_ne.2 h3, beq_eq_false_iff_ne.2 h4, beq_eq_false_iff_ne.2 h5]
  rfl
theorem fapply_eq (k p0 p1 p2 p3 c b v mode q0 q1 q2 q3 : Int) (xs : List UInt8) : fapply k p0 p1 p2 p3 c b v mode q0 q1 q2 q3 xs = fapply11 k p0 p1 p2 p3 c b v mode q0 q1 q2 q3 xs := by
  unfold fapply fapply11
  rw [flies_eq]
  have : (!flasts k p0 p1 p2 p3 c b v) = (decide (k < 2) || decide (5 < k)) := by
    unfold flasts
    by_cases h1 : 2 ≤ k <;> by_cases h2 : k ≤ 5 <;> simp [h1, h2] <;> omega
  rw [this]
theorem right_chN (mode : Int) : rightB mode = decide ((chN mode : Int) ≠ 0) := by
  unfold rightB chN
  rcases modes mode with rfl | rfl | ⟨h1, h2⟩
  · rfl
  · rfl
  · rw [if_neg h1, if_neg h2, beq_eq_false_iff_ne.2 h1, beq_eq_false_iff_ne.2 h2]; rfl
theorem fright_eq (k p0 p1 p2 p3 c b v r s n m l mode : Int) : fright k p0 p1 p2 p3 c b v r s n m l mode = fright11 k p0 p1 p2 p3 c b v r s n m l mode := by
  unfold fright fright11
  rw [gholds_eq, right_chN]
  have hN : 0 ≤ (chN mode : Int) := by omega
  obtain ⟨N, hn⟩ : ∃ N : Int, (chN mode : Int) = N := ⟨_, rfl⟩
  rw [hn] at hN ⊢
  obtain ⟨H, hH⟩ : ∃ H, rholds r s n m l p0 p1 p2 p3 = H := ⟨_, rfl⟩
  rw [hH]
  cases H
  · simp [Bool.cond_eq_ite]
  rcases (show k = 1 ∨ k = 2 ∨ k = 3 ∨ k = 4 ∨ k = 5 ∨ k = 6 ∨ k = 7 ∨ k < 1 ∨ 7 < k by omega) with h | h | h | h | h | h | h | h | h
  · subst h
    rw [Bool.eq_iff_iff]
    simp [fbare_1, fbare_2, fbare_3, fbare_4, fbare_5, fbare_6, fbare_7, fbelow, Bool.cond_eq_ite]
    omega
  · subst h
    rw [Bool.eq_iff_iff]
    simp [fbare_1, fbare_2, fbare_3, fbare_4, fbare_5, fbare_6, fbare_7, fbelow, Bool.cond_eq_ite]
    omega
  · subst h
    rw [Bool.eq_iff_iff]
    simp [fbare_1, fbare_2, fbare_3, fbare_4, fbare_5, fbare_6, fbare_7, fbelow, Bool.cond_eq_ite]
    omega
  · subst h
    rw [Bool.eq_iff_iff]
    simp [fbare_1, fbare_2, fbare_3, fbare_4, fbare_5, fbare_6, fbare_7, fbelow, Bool.cond_eq_ite]
    omega
  · subst h
    rw [Bool.eq_iff_iff]
    simp [fbare_1, fbare_2, fbare_3, fbare_4, fbare_5, fbare_6, fbare_7, fbelow, Bool.cond_eq_ite]
    omega
  · subst h
    rw [Bool.eq_iff_iff]
    simp [fbare_1, fbare_2, fbare_3, fbare_4, fbare_5, fbare_6, fbare_7, fbelow, Bool.cond_eq_ite]
    omega
  · subst h
    rw [Bool.eq_iff_iff]
    simp [fbare_1, fbare_2, fbare_3, fbare_4, fbare_5, fbare_6, fbare_7, fbelow, Bool.cond_eq_ite]
    omega
  · rw [decide_eq_false (show ¬ 1 ≤ k by omega), decide_eq_true h]
    simp
  · rw [decide_eq_false (show ¬ k ≤ 7 by omega), decide_eq_true h]
    simp
end Go.Proofs.Ytckhkagkpldoiaa
