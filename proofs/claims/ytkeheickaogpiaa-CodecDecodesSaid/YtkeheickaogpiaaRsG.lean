/- Several texts in one: RsF. -/
import Derived.Test.YtkeheickaogpiaaRsR
namespace Go.Proofs.Ytkeheickaogpiaa
open Go.RowKit Go.Shelf
attribute [local go_sem] Oper.semAt_some
set_option linter.unusedVariables false
set_option linter.unusedSimpArgs false

/-- A list's first k places. -/
def upTo (n : Nat) (x : List UInt8) (k : Nat) : List UInt8 := ofF n fun i => if i < k then co x i else 0
theorem upTo_len (n : Nat) (x : List UInt8) (k : Nat) : (upTo n x k).length = n := ofF_len _ _
theorem upTo_zero (n : Nat) (x : List UInt8) : upTo n x 0 = List.replicate n 0 := ofF_zero _ _ fun i _ => if_neg (by omega)
theorem upTo_all {n : Nat} {x : List UInt8} (h : x.length = n) : upTo n x n = x := by
  unfold upTo
  rw [ofF_congr (g := co x) fun i hi => if_pos hi, ← h]
  exact ofF_co x
theorem upTo_set (n : Nat) (x : List UInt8) (k : Nat) : (upTo n x k).set k (co x k) = upTo n x (k + 1) :=
  ofF_succ_set _ _ _ _ _ fun i _ => by
    by_cases e : i = k
    · subst e; rw [if_pos (by omega), if_pos rfl]
    · rw [if_neg e]
      by_cases h : i < k
      · rw [if_pos (by omega), if_pos h]
      · rw [if_neg (by omega), if_neg h]
theorem co_left {x y : List UInt8} {i : Nat} (h : i < x.length) : co (x ++ y) i = x.getD i 0 := by
  unfold co
  rw [List.getD_eq_getElem?_getD, List.getD_eq_getElem?_getD, List.getElem?_append_left h]
theorem co_right {x y : List UInt8} {n i : Nat} (h : x.length = n) : co (x ++ y) (n + i) = y.getD i 0 := by
  unfold co
  rw [List.getD_eq_getElem?_getD, List.getD_eq_getElem?_getD, List.getElem?_append_right (by omega), ← h, Nat.add_sub_cancel_left]
set_option maxRecDepth 100000 in
set_option maxHeartbeats 1000000 in
theorem refWord_any (d v : List UInt8) (hd : d.length = 36) (hv : v.length = 3) (w : World) : Calls Try.prog 40 #[.agg (rawV d), .agg (rawV v)] w fun e w' => e = .returned (.agg (rawV (d ++ v))) ∧ Below w.heap.size w w' := by
  obtain ⟨b0, hb0⟩ : ∃ b0, w.heap.size = b0 := ⟨_, rfl⟩
  have HB0 := Lib.hid hb0
  have OW := Lib.hid (Own.start b0 w)
  have OZ := Lib.hid (And.intro hb0 (Nat.le_refl b0))
  clear hb0
  refine (callsIn_wide (n := 6)).1 ?_
  refine callsIn_of_wp_marks Try.func40 rfl trivial ?_ rfl
  simp only [Try.ntmps40, List.size_toArray, List.length_cons, List.length_nil, Nat.reduceAdd, Nat.reduceSub, Array.replicate_succ, Array.replicate_zero, List.push_toArray, List.append_toArray, List.nil_append, List.cons_append]
  gi_wp2_with (first | (refine own_boxV 2 79 (.tmp 0) rfl rfl rfl (.agg (rawV d)) rfl (rawV d) rfl OW OZ ?_; clear OW OZ; intro W g1 OW OZ) | (refine own_boxV 3 43 (.tmp 1) rfl rfl rfl (.agg (rawV v)) rfl (rawV v) rfl OW OZ ?_; clear OW OZ; intro W g2 OW OZ) | (refine own_allocV 4 81 rfl rfl rfl (rawV (List.replicate 39 0)) al39 OW OZ ?_; clear OW OZ; intro W g3 OW OZ) | (refine own_allocV 5 81 rfl rfl rfl (rawV (List.replicate 39 0)) al39 OW OZ ?_; clear OW OZ; intro W g4 OW OZ))
  gi_loopw [6] (fun z6 wr => ∃ k : Nat, k ≤ 36 ∧ z6 = .int .i64 (k : Int) ∧ Own b0 w [(b0, Obj.cells (rawV d) 79 (0, 0)), (g1, Obj.cells (rawV v) 43 (0, 0)), (g2, Obj.cells (rawV (List.replicate 39 0)) 81 (0, 0)), (g3, Obj.cells (rawV (upTo 39 (d ++ v) k)) 81 (0, 0))] wr) (fun z6 _ => 36 - (intOf z6).toNat)
  case atStart => exact ⟨0, by omega, rfl, (by rw [upTo_zero]; exact OW.out)⟩
  case round =>
    obtain ⟨k, hk6, rfl, hO⟩ := hrel
    clear OW OZ
    have OW := Lib.hid hO
    obtain ⟨g5, OZ⟩ := own_size OW HB0
    clear hO
    gi_upto_region 3 with fail
    obtain ⟨eo71, qeo71⟩ : ∃ e, (decide ((k : Int) < 36)) = e := ⟨_, rfl⟩
    refine wpIn_region_heldL 2 (atD [[], [0]]) (atV [fun vH _ => vH = .int .i64 (k : Int), fun vH _ => vH = .bool eo71]) BelowR (by kernel_rfl) BelowR.trans (BelowR.refl _)
      (StV.atV (.const _ (.const _ .nil)))
      ⟨?o7x0, ?o7x1, trivial⟩ ?_
    case o7x0 =>
      exact held_move free_wide rfl BelowR.refl (.tmp 6) (.inl rfl) fun xH w' kH _ => (pO (by kernel_rfl) rfl)
    case o7x1 =>
      exact held_run free_wide rfl (by rfl) BelowR.refl fun xH w' kH hR => ⟨_, run_binO rfl (pT 0 (by kernel_rfl) (by kernel_rfl) (kH 0 (by decide))) rfl bin_lss, (congrArg Value.bool qeo71)⟩
    intro xH w' hv hR
    subst qeo71
    have h0 : xH 0 = _ := hv 0 (by omega)
    have h1 : xH 1 = _ := hv 1 (by omega)
    simp only [List.take_succ_cons, List.take_zero, List.drop_succ_cons, List.drop_zero, putsH, Act.put, List.setIfInBounds_toArray, List.set_cons_succ, List.set_cons_zero, h0, h1]
    have OW2 := Lib.hid (OW.out.step hR)
    clear hv hR OW OZ h0 h1
    have OW := OW2
    clear OW2
    obtain ⟨g8, OZ⟩ := own_size OW HB0
    cases hB9 : (decide ((k : Int) < 36))
    case true =>
      have dhB9 := of_decide_eq_true hB9
      gi_wp2_with (first | (refine own_valV 14 rfl rfl rfl (.pointer (some ⟨b0, k, none⟩)) (run_idxO (vx := .pointer (some ⟨b0, 0, none⟩)) (vi := .int .i64 (k : Int)) rfl rfl rfl (arX36 _ k (by omega) _)) ?_) | (refine own_loadV 15 0 5 (.tmp 14) rfl rfl rfl rfl rfl (.int .u8 ((d.getD k 0).toNat : Int)) (rawV_get _ (by rw [(show (d).length = 36 from hd)]; omega)) naU8 OW ?_) | (refine own_valV 16 rfl rfl rfl (.pointer (some ⟨g3, k, none⟩)) (run_idxO (vx := .pointer (some ⟨g3, 0, none⟩)) (vi := .int .i64 (k : Int)) rfl rfl rfl (arX39 _ k (by omega) _)) ?_) | (refine own_store 3 5 (.tmp 16) (.tmp 15) rfl rfl rfl rfl (.int .u8 ((d.getD k 0).toNat : Int)) rfl (rawV ((upTo 39 (d ++ v) k).set k (d.getD k 0))) (rawV_set _ _ (d.getD k 0)) (by rw [rawV_size, (show ((upTo 39 (d ++ v) k)).length = 39 by simp only [upTo_len, List.length_set, hd, hv])]; omega) rfl szU8 _ rfl OW OZ ?_; clear OW OZ; intro W OW OZ) | (refine own_valV 11 rfl rfl rfl (.int .i64 ((k : Int) + 1)) (run_binO (vx := .int .i64 (k : Int)) (vy := .int .i64 1) rfl rfl rfl (bin_add_in (by omega) (by omega))) ?_))
      go_roundw
      case rel => exact ⟨k + 1, by omega, by go_num, (by rw [← upTo_set, co_left (by omega)]; exact OW.out)⟩
      case measure => (simp [intOf] <;> omega)
    have dhB9 := of_decide_eq_false hB9
    obtain rfl : k = 36 := by omega
    gi_wp2
    gi_loopw [7] (fun z7 wr => ∃ j : Nat, j ≤ 3 ∧ z7 = .int .i64 (j : Int) ∧ Own b0 w [(b0, Obj.cells (rawV d) 79 (0, 0)), (g1, Obj.cells (rawV v) 43 (0, 0)), (g2, Obj.cells (rawV (List.replicate 39 0)) 81 (0, 0)), (g3, Obj.cells (rawV (upTo 39 (d ++ v) (36 + j))) 81 (0, 0))] wr) (fun z7 _ => 3 - (intOf z7).toNat)
    case atStart => exact ⟨0, by omega, rfl, (by skip; exact OW.out)⟩
    case round =>
      obtain ⟨j, hk11, rfl, hO⟩ := hrel
      clear OW OZ
      have OW := Lib.hid hO
      obtain ⟨g10, OZ⟩ := own_size OW HB0
      clear hO
      gi_upto_region 7 with fail
      obtain ⟨eo121, qeo121⟩ : ∃ e, (decide ((j : Int) < 3)) = e := ⟨_, rfl⟩
      refine wpIn_region_heldL 2 (atD [[], [0]]) (atV [fun vH _ => vH = .int .i64 (j : Int), fun vH _ => vH = .bool eo121]) BelowR (by kernel_rfl) BelowR.trans (BelowR.refl _)
        (StV.atV (.const _ (.const _ .nil)))
        ⟨?o12x0, ?o12x1, trivial⟩ ?_
      case o12x0 =>
        exact held_move free_wide rfl BelowR.refl (.tmp 7) (.inl rfl) fun xH w' kH _ => (pO (by kernel_rfl) rfl)
      case o12x1 =>
        exact held_run free_wide rfl (by rfl) BelowR.refl fun xH w' kH hR => ⟨_, run_binO rfl (pT 0 (by kernel_rfl) (by kernel_rfl) (kH 0 (by decide))) rfl bin_lss, (congrArg Value.bool qeo121)⟩
      intro xH w' hv hR
      subst qeo121
      have h0 : xH 0 = _ := hv 0 (by omega)
      have h1 : xH 1 = _ := hv 1 (by omega)
      simp only [List.take_succ_cons, List.take_zero, List.drop_succ_cons, List.drop_zero, putsH, Act.put, List.setIfInBounds_toArray, List.set_cons_succ, List.set_cons_zero, h0, h1]
      have OW2 := Lib.hid (OW.out.step hR)
      clear hv hR OW OZ h0 h1
      have OW := OW2
      clear OW2
      obtain ⟨g13, OZ⟩ := own_size OW HB0
      cases hB14 : (decide ((j : Int) < 3))
      case true =>
        have dhB14 := of_decide_eq_true hB14
        gi_wp2_with (first | (refine own_valV 22 rfl rfl rfl (.int .i64 (36 + (j : Int))) (run_binO (vx := .int .i64 36) (vy := .int .i64 (j : Int)) rfl rfl rfl (bin_add_in (by omega) (by omega))) ?_) | (refine own_valV 24 rfl rfl rfl (.pointer (some ⟨g1, j, none⟩)) (run_idxO (vx := .pointer (some ⟨g1, 0, none⟩)) (vi := .int .i64 (j : Int)) rfl rfl rfl (arX3 _ j (by omega) _)) ?_) | (refine own_loadV 25 1 5 (.tmp 24) rfl rfl rfl rfl rfl (.int .u8 ((v.getD j 0).toNat : Int)) (rawV_get _ (by rw [(show (v).length = 3 from hv)]; omega)) naU8 OW ?_) | (refine own_valV 26 rfl rfl rfl (.pointer (some ⟨g3, 36 + j, none⟩)) (run_idxO (vx := .pointer (some ⟨g3, 0, none⟩)) (vi := .int .i64 (36 + (j : Int))) rfl rfl rfl (arX39 _ (36 + j) (by omega) _)) ?_) | (refine own_store 3 5 (.tmp 26) (.tmp 25) rfl rfl rfl rfl (.int .u8 ((v.getD j 0).toNat : Int)) rfl (rawV ((upTo 39 (d ++ v) (36 + j)).set (36 + j) (v.getD j 0))) (rawV_set _ _ (v.getD j 0)) (by rw [rawV_size, (show ((upTo 39 (d ++ v) (36 + j))).length = 39 by simp only [upTo_len, List.length_set, hd, hv])]; omega) rfl szU8 _ rfl OW OZ ?_; clear OW OZ; intro W OW OZ) | (refine own_valV 20 rfl rfl rfl (.int .i64 ((j : Int) + 1)) (run_binO (vx := .int .i64 (j : Int)) (vy := .int .i64 1) rfl rfl rfl (bin_add_in (by omega) (by omega))) ?_))
        go_roundw
        case rel => exact ⟨j + 1, by omega, by go_num, (by rw [← Nat.add_assoc, ← upTo_set, co_right hd]; exact OW.out)⟩
        case measure => (simp [intOf] <;> omega)
      have dhB14 := of_decide_eq_false hB14
      obtain rfl : j = 3 := by omega
      gi_wp2_with (first | (refine own_loadRowV 27 3 81 (.tmp 5) rfl rfl rfl rfl rfl _ Try.underlying81 rfl (arJ39 (show ((upTo 39 (d ++ v) (36 + (3 : Nat)))).length = 39 by simp only [upTo_len, List.length_set, hd, hv])) OW ?_) | (refine own_storeRow 2 81 (.tmp 4) (.tmp 27) rfl rfl rfl rfl (rawV (upTo 39 (d ++ v) (36 + (3 : Nat)))) rfl (by rw [rawV_size, rawV_size, (show ((upTo 39 (d ++ v) (36 + (3 : Nat)))).length = 39 by simp only [upTo_len, List.length_set, hd, hv]), (show ((List.replicate 39 0) : List UInt8).length = 39 from List.length_replicate)]) (rawV_one _) (arJ39 (show ((upTo 39 (d ++ v) (36 + (3 : Nat)))).length = 39 by simp only [upTo_len, List.length_set, hd, hv])) _ rfl OW OZ ?_; clear OW OZ; intro W OW OZ))
      refine leaves_own [] _ (Nat.le_of_eq HB0.out) (by simpa using OW.out) ?_
      intro W' hO
      exact ⟨.agg (rawV (upTo 39 (d ++ v) (36 + (3 : Nat)))), results_ownRow hO 2 rfl rfl rfl Try.underlying81 rfl (arJ39 (show ((upTo 39 (d ++ v) (36 + (3 : Nat)))).length = 39 by simp only [upTo_len, List.length_set, hd, hv])), (by rw [show 36 + 3 = 39 from rfl, upTo_all (by simp only [List.length_append, hd, hv])]), hO.done HB0⟩
/-- The sum's first k places. -/
def evK (u : List UInt8) (x : UInt8) (k : Nat) : UInt8 := xs k fun i => gm (co u i) (pw x i)
theorem evK_all {u : List UInt8} (x : UInt8) (h : u.length = 39) : evK u x 39 = evalL u x := by
  unfold evalL; rw [h]; rfl

set_option maxRecDepth 100000 in
set_option maxHeartbeats 1000000 in
theorem refValue_any (u : List UInt8) (x : UInt8) (hu : u.length = 39) (w : World) : Calls Try.prog 64 #[.agg (rawV u), .int .u8 (x.toNat : Int)] w fun e w' => e = .returned (.int .u8 ((evalL u x).toNat : Int)) ∧ Below w.heap.size w w' := by
  obtain ⟨b0, hb0⟩ : ∃ b0, w.heap.size = b0 := ⟨_, rfl⟩
  have HB0 := Lib.hid hb0
  have OW := Lib.hid (Own.start b0 w)
  have OZ := Lib.hid (And.intro hb0 (Nat.le_refl b0))
  clear hb0
  refine (callsIn_wide (n := 6)).1 ?_
  refine callsIn_of_wp_marks Try.func64 rfl trivial ?_ rfl
  simp only [Try.ntmps64, List.size_toArray, List.length_cons, List.length_nil, Nat.reduceAdd, Nat.reduceSub, Array.replicate_succ, Array.replicate_zero, List.push_toArray, List.append_toArray, List.nil_append, List.cons_append]
  gi_wp2_with (first | (refine own_boxV 2 81 (.tmp 0) rfl rfl rfl (.agg (rawV u)) rfl (rawV u) rfl OW OZ ?_; clear OW OZ; intro W g1 OW OZ))
  gi_loopw [5, 6, 7] (fun z5 z6 z7 wr => ∃ k : Nat, k ≤ 39 ∧ z5 = .int .u8 ((evK u x k).toNat : Int) ∧ z6 = .int .u8 ((pw x k).toNat : Int) ∧ z7 = .int .i64 (k : Int) ∧ Own b0 w [(b0, Obj.cells (rawV u) 81 (0, 0))] wr) (fun z5 z6 z7 _ => 39 - (intOf z7).toNat)
  case atStart => exact ⟨0, by omega, rfl, rfl, rfl, (by skip; exact OW.out)⟩
  case round =>
    obtain ⟨k, hk3, rfl, rfl, rfl, hO⟩ := hrel
    clear OW OZ
    have OW := Lib.hid hO
    obtain ⟨g2, OZ⟩ := own_size OW HB0
    clear hO
    gi_upto_region 4 with fail
    obtain ⟨eo41, qeo41⟩ : ∃ e, (decide ((k : Int) < 39)) = e := ⟨_, rfl⟩
    refine wpIn_region_heldL 2 (atD [[], [0]]) (atV [fun vH _ => vH = .int .i64 (k : Int), fun vH _ => vH = .bool eo41]) BelowR (by kernel_rfl) BelowR.trans (BelowR.refl _)
      (StV.atV (.const _ (.const _ .nil)))
      ⟨?o4x0, ?o4x1, trivial⟩ ?_
    case o4x0 =>
      exact held_move free_wide rfl BelowR.refl (.tmp 7) (.inl rfl) fun xH w' kH _ => (pO (by kernel_rfl) rfl)
    case o4x1 =>
      exact held_run free_wide rfl (by rfl) BelowR.refl fun xH w' kH hR => ⟨_, run_binO rfl (pT 0 (by kernel_rfl) (by kernel_rfl) (kH 0 (by decide))) rfl bin_lss, (congrArg Value.bool qeo41)⟩
    intro xH w' hv hR
    subst qeo41
    have h0 : xH 0 = _ := hv 0 (by omega)
    have h1 : xH 1 = _ := hv 1 (by omega)
    simp only [List.take_succ_cons, List.take_zero, List.drop_succ_cons, List.drop_zero, putsH, Act.put, List.setIfInBounds_toArray, List.set_cons_succ, List.set_cons_zero, h0, h1]
    have OW2 := Lib.hid (OW.out.step hR)
    clear hv hR OW OZ h0 h1
    have OW := OW2
    clear OW2
    obtain ⟨g5, OZ⟩ := own_size OW HB0
    cases hB6 : (decide ((k : Int) < 39))
    case true =>
      have dhB6 := of_decide_eq_true hB6
      gi_wp2_with (first | (refine own_valV 14 rfl rfl rfl (.pointer (some ⟨b0, k, none⟩)) (run_idxO (vx := .pointer (some ⟨b0, 0, none⟩)) (vi := .int .i64 (k : Int)) rfl rfl rfl (arX39 _ k (by omega) _)) ?_) | (refine own_loadV 15 0 5 (.tmp 14) rfl rfl rfl rfl rfl (.int .u8 ((u.getD k 0).toNat : Int)) (rawV_get _ (by rw [(show (u).length = 39 from hu)]; omega)) naU8 OW ?_))
      refine ⟨trivial, ?_⟩
      refine (callsIn_wide.2 (rmul_any (u.getD k 0) (pw x k) _)).mono ?_
      rintro e W2 ⟨rfl, rfl⟩
      gi_wp2_with (first | (refine own_valV 18 rfl rfl rfl (.int .u8 (((evK u x k) ^^^ (gm (u.getD k 0) (pw x k))).toNat : Int)) (run_binO (vx := .int .u8 ((evK u x k).toNat : Int)) (vy := .int .u8 ((gm (u.getD k 0) (pw x k)).toNat : Int)) rfl rfl rfl (bin_xor8)) ?_))
      refine ⟨trivial, ?_⟩
      refine (callsIn_wide.2 (rmul_any (pw x k) x _)).mono ?_
      rintro e W2 ⟨rfl, rfl⟩
      gi_wp2_with (first | (refine own_valV 11 rfl rfl rfl (.int .i64 ((k : Int) + 1)) (run_binO (vx := .int .i64 (k : Int)) (vy := .int .i64 1) rfl rfl rfl (bin_add_in (by omega) (by omega))) ?_))
      go_roundw
      case rel => exact ⟨k + 1, by omega, rfl, rfl, by go_num, (by skip; exact OW.out)⟩
      case measure => (simp [intOf] <;> omega)
    have dhB6 := of_decide_eq_false hB6
    obtain rfl : k = 39 := by omega
    gi_upto_region 8 with fail
    refine wpIn_region_heldL 2 (atD [[], [0]]) (atV [fun vH _ => vH = .int .u8 ((evK u x (39 : Nat)).toNat : Int), fun vH _ => vH = .int .u8 ((evK u x (39 : Nat)).toNat : Int)]) BelowR (by kernel_rfl) BelowR.trans (BelowR.refl _)
      (StV.atV (.const _ (.const _ .nil)))
      ⟨?o7x0, ?o7x1, trivial⟩ ?_
    case o7x0 =>
      exact held_move free_wide rfl BelowR.refl (.tmp 5) (.inl rfl) fun xH w' kH _ => (pO (by kernel_rfl) rfl)
    case o7x1 =>
      exact held_move free_wide rfl BelowR.refl (.tmp 22) (.inr rfl) fun xH w' kH _ => (pT 0 (by kernel_rfl) (by kernel_rfl) (kH 0 (by decide)))
    intro xH w' hv hR
    have h0 : xH 0 = _ := hv 0 (by omega)
    have h1 : xH 1 = _ := hv 1 (by omega)
    simp only [List.take_succ_cons, List.take_zero, List.drop_succ_cons, List.drop_zero, putsH, Act.put, List.setIfInBounds_toArray, List.set_cons_succ, List.set_cons_zero, h0, h1]
    have OW2 := Lib.hid (OW.out.step hR)
    clear hv hR OW OZ h0 h1
    have OW := OW2
    clear OW2
    obtain ⟨g8, OZ⟩ := own_size OW HB0
    gi_wp2
    refine leaves_own [] _ (Nat.le_of_eq HB0.out) (by simpa using OW.out) ?_
    intro W' hO
    exact ⟨.int .u8 ((evK u x (39 : Nat)).toNat : Int), by simp [results, Try.results64, go_sem], (by rw [← evK_all x hu]), hO.done HB0⟩
set_option maxRecDepth 100000 in
set_option maxHeartbeats 1000000 in
theorem refValues_any (u : List UInt8) (hu : u.length = 39) (w : World) : Calls Try.prog 39 #[.agg (rawV u)] w fun e w' => e = .returned (.agg (rawV [evalL u 1, evalL u 2, evalL u 4, evalL u 8])) ∧ Below w.heap.size w w' := by
  obtain ⟨b0, hb0⟩ : ∃ b0, w.heap.size = b0 := ⟨_, rfl⟩
  have HB0 := Lib.hid hb0
  have OW := Lib.hid (Own.start b0 w)
  have OZ := Lib.hid (And.intro hb0 (Nat.le_refl b0))
  clear hb0
  refine (callsIn_wide (n := 6)).1 ?_
  refine callsIn_of_wp_marks Try.func39 rfl trivial ?_ rfl
  simp only [Try.ntmps39, List.size_toArray, List.length_cons, List.length_nil, Nat.reduceAdd, Nat.reduceSub, Array.replicate_succ, Array.replicate_zero, List.push_toArray, List.append_toArray, List.nil_append, List.cons_append]
  gi_upto_region 1 with (first | (refine own_boxV 1 81 (.tmp 0) rfl rfl rfl (.agg (rawV u)) rfl (rawV u) rfl OW OZ ?_; clear OW OZ; intro W g1 OW OZ) | (refine own_allocV 2 68 rfl rfl rfl (rawV (List.replicate 4 0)) al4 OW OZ ?_; clear OW OZ; intro W g2 OW OZ))
  refine wpIn_region_held 9 (atD [[], [0], [], [2], [], [4], [], [6], [1, 3, 5, 7]]) (atV [fun vH _ => vH = .agg (rawV u), fun vH _ => vH = .int .u8 ((evalL u 1).toNat : Int), fun vH _ => vH = .agg (rawV u), fun vH _ => vH = .int .u8 ((evalL u 2).toNat : Int), fun vH _ => vH = .agg (rawV u), fun vH _ => vH = .int .u8 ((evalL u 4).toNat : Int), fun vH _ => vH = .agg (rawV u), fun vH _ => vH = .int .u8 ((evalL u 8).toNat : Int), fun vH _ => vH = .agg (rawV [(evalL u 1), (evalL u 2), (evalL u 4), (evalL u 8)])]) BelowR (by kernel_rfl) (by kernel_rfl) BelowR.trans (BelowR.drew _)
    (StV.atV (.const _ (.const _ (.const _ (.const _ (.const _ (.const _ (.const _ (.const _ (.const _ .nil))))))))))
    ⟨?o3x0, ?o3x1, ?o3x2, ?o3x3, ?o3x4, ?o3x5, ?o3x6, ?o3x7, ?o3x8, trivial⟩ ?_
  case o3x0 =>
    exact held_load free_wide rfl BelowR.refl 81 (.tmp 1) rfl fun xH w' kH hR => ⟨_, _, (pO (by kernel_rfl) rfl), ldR OW hR 0 rfl Try.underlying81 rfl (arJ39 (show (u).length = 39 from hu)), rfl⟩
  case o3x1 =>
    refine held_call free_wide rfl 64 _ _ rfl (enters_of Try.func64 (by kernel_rfl) rfl) fun xH w' kH hR => ⟨_, mapE2 (pT 0 (by kernel_rfl) (by kernel_rfl) (kH 0 (by decide))) rfl, ?_⟩
    refine (callsIn_wide.2 ((refValue_any) u 1 (hu) _)).mono ?_
    rintro e w2 ⟨rfl, h2⟩
    exact ⟨_, rfl, rfl, h2⟩
  case o3x2 =>
    exact held_load free_wide rfl BelowR.refl 81 (.tmp 1) rfl fun xH w' kH hR => ⟨_, _, (pO (by kernel_rfl) rfl), ldR OW hR 0 rfl Try.underlying81 rfl (arJ39 (show (u).length = 39 from hu)), rfl⟩
  case o3x3 =>
    refine held_call free_wide rfl 64 _ _ rfl (enters_of Try.func64 (by kernel_rfl) rfl) fun xH w' kH hR => ⟨_, mapE2 (pT 2 (by kernel_rfl) (by kernel_rfl) (kH 2 (by decide))) rfl, ?_⟩
    refine (callsIn_wide.2 ((refValue_any) u 2 (hu) _)).mono ?_
    rintro e w2 ⟨rfl, h2⟩
    exact ⟨_, rfl, rfl, h2⟩
  case o3x4 =>
    exact held_load free_wide rfl BelowR.refl 81 (.tmp 1) rfl fun xH w' kH hR => ⟨_, _, (pO (by kernel_rfl) rfl), ldR OW hR 0 rfl Try.underlying81 rfl (arJ39 (show (u).length = 39 from hu)), rfl⟩
  case o3x5 =>
    refine held_call free_wide rfl 64 _ _ rfl (enters_of Try.func64 (by kernel_rfl) rfl) fun xH w' kH hR => ⟨_, mapE2 (pT 4 (by kernel_rfl) (by kernel_rfl) (kH 4 (by decide))) rfl, ?_⟩
    refine (callsIn_wide.2 ((refValue_any) u 4 (hu) _)).mono ?_
    rintro e w2 ⟨rfl, h2⟩
    exact ⟨_, rfl, rfl, h2⟩
  case o3x6 =>
    exact held_load free_wide rfl BelowR.refl 81 (.tmp 1) rfl fun xH w' kH hR => ⟨_, _, (pO (by kernel_rfl) rfl), ldR OW hR 0 rfl Try.underlying81 rfl (arJ39 (show (u).length = 39 from hu)), rfl⟩
  case o3x7 =>
    refine held_call free_wide rfl 64 _ _ rfl (enters_of Try.func64 (by kernel_rfl) rfl) fun xH w' kH hR => ⟨_, mapE2 (pT 6 (by kernel_rfl) (by kernel_rfl) (kH 6 (by decide))) rfl, ?_⟩
    refine (callsIn_wide.2 ((refValue_any) u 8 (hu) _)).mono ?_
    rintro e w2 ⟨rfl, h2⟩
    exact ⟨_, rfl, rfl, h2⟩
  case o3x8 =>
    exact held_run free_wide rfl (by rfl) BelowR.refl fun xH w' kH hR => ⟨_, run_buildO rfl (mapB4 (pT 1 (by kernel_rfl) (by kernel_rfl) (kH 1 (by decide))) (pT 3 (by kernel_rfl) (by kernel_rfl) (kH 3 (by decide))) (pT 5 (by kernel_rfl) (by kernel_rfl) (kH 5 (by decide))) (pT 7 (by kernel_rfl) (by kernel_rfl) (kH 7 (by decide)))) _ (by kernel_rfl), rfl⟩
  intro xH w' hv hR
  have h0 : xH 0 = _ := hv 0 (by omega)
  have h1 : xH 1 = _ := hv 1 (by omega)
  have h2 : xH 2 = _ := hv 2 (by omega)
  have h3 : xH 3 = _ := hv 3 (by omega)
  have h4 : xH 4 = _ := hv 4 (by omega)
  have h5 : xH 5 = _ := hv 5 (by omega)
  have h6 : xH 6 = _ := hv 6 (by omega)
  have h7 : xH 7 = _ := hv 7 (by omega)
  have h8 : xH 8 = _ := hv 8 (by omega)
  simp only [List.take_succ_cons, List.take_zero, List.drop_succ_cons, List.drop_zero, putsH, Act.put, List.setIfInBounds_toArray, List.set_cons_succ, List.set_cons_zero, h0, h1, h2, h3, h4, h5, h6, h7, h8]
  have OW2 := Lib.hid (OW.out.step hR)
  clear hv hR OW OZ h0 h1 h2 h3 h4 h5 h6 h7 h8
  have OW := OW2
  clear OW2
  obtain ⟨g4, OZ⟩ := own_size OW HB0
  gi_wp2_with (first | (refine own_storeRow 1 68 (.tmp 2) (.tmp 11) rfl rfl rfl rfl (rawV [(evalL u 1), (evalL u 2), (evalL u 4), (evalL u 8)]) rfl (by rw [rawV_size, rawV_size, (show ([(evalL u 1), (evalL u 2), (evalL u 4), (evalL u 8)] : List UInt8).length = 4 from rfl), (show ((List.replicate 4 0) : List UInt8).length = 4 from List.length_replicate)]) (rawV_one _) (arJ4 (show ([(evalL u 1), (evalL u 2), (evalL u 4), (evalL u 8)] : List UInt8).length = 4 from rfl)) _ rfl OW OZ ?_; clear OW OZ; intro W OW OZ))
  refine leaves_own [] _ (Nat.le_of_eq HB0.out) (by simpa using OW.out) ?_
  intro W' hO
  exact ⟨.agg (rawV [(evalL u 1), (evalL u 2), (evalL u 4), (evalL u 8)]), results_ownRow hO 1 rfl rfl rfl Try.underlying68 rfl (arJ4 (show ([(evalL u 1), (evalL u 2), (evalL u 4), (evalL u 8)] : List UInt8).length = 4 from rfl)), rfl, hO.done HB0⟩
theorem u8I_eq (x y : UInt8) : ((x.toNat : Int) == (y.toNat : Int)) = (x == y) := by
  apply Bool.eq_iff_iff.2
  rw [beq_iff_eq, beq_iff_eq]
  exact ⟨fun h => UInt8.toNat_inj.1 (by omega), fun h => by rw [h]⟩
theorem u8I_zero (x : UInt8) : ((x.toNat : Int) == 0) = (x == 0) := u8I_eq x 0
theorem u8I_nz (x : UInt8) : ((x.toNat : Int) != 0) = (x != 0) := by unfold bne; rw [u8I_zero]
/-- The verdict's cells. -/
theorem vr_nul {s : List UInt8} (h : (((((s.getD 0 0).toNat : Int) == 0 && ((s.getD 1 0).toNat : Int) == 0) && ((s.getD 2 0).toNat : Int) == 0) && ((s.getD 3 0).toNat : Int) == 0) = true) : locF (co s) = ⟨0, -1, 0⟩ := by
  simp only [u8I_zero, Bool.and_eq_true, beq_iff_eq] at h
  exact locF_nul ⟨h.1.1.1, h.1.1.2, h.1.2, h.2⟩
theorem vr_not {s : List UInt8} (h : (((((s.getD 0 0).toNat : Int) == 0 && ((s.getD 1 0).toNat : Int) == 0) && ((s.getD 2 0).toNat : Int) == 0) && ((s.getD 3 0).toNat : Int) == 0) = false) : ¬ nul (co s) := by
  intro hn
  simp only [u8I_zero] at h
  rw [show s.getD 0 0 = 0 from hn.1, show s.getD 1 0 = 0 from hn.2.1, show s.getD 2 0 = 0 from hn.2.2.1, show s.getD 3 0 = 0 from hn.2.2.2] at h
  cases h
theorem vr_hit {s : List UInt8} {p : UInt8} {b : Bool} (h : (((((s.getD 0 0).toNat : Int) != 0 && ((s.getD 1 0).toNat : Int) == ((gm (s.getD 0 0) p).toNat : Int)) && ((s.getD 2 0).toNat : Int) == ((gm (gm (s.getD 0 0) p) p).toNat : Int)) && ((s.getD 3 0).toNat : Int) == ((gm (gm (gm (s.getD 0 0) p) p) p).toNat : Int)) = b) :
    (co s 0 != 0 && co s 1 == gm (co s 0) p && co s 2 == gm (co s 1) p && co s 3 == gm (co s 2) p) = b := by
  simp only [u8I_eq, u8I_nz] at h
  rw [← h]
  show (s.getD 0 0 != 0 && s.getD 1 0 == gm (s.getD 0 0) p && s.getD 2 0 == gm (s.getD 1 0) p && s.getD 3 0 == gm (s.getD 2 0) p) = _
  apply Bool.eq_iff_iff.2
  simp only [Bool.and_eq_true, beq_iff_eq, bne_iff_ne]
  constructor
  · rintro ⟨⟨⟨h1, h2⟩, h3⟩, h4⟩
    rw [h2] at h3; rw [h3] at h4
    exact ⟨⟨⟨h1, h2⟩, h3⟩, h4⟩
  · rintro ⟨⟨⟨h1, h2⟩, h3⟩, h4⟩
    refine ⟨⟨⟨h1, h2⟩, ?_⟩, ?_⟩
    · rw [h2]; exact h3
    · rw [h3]; exact h4
set_option maxRecDepth 100000 in
set_option maxHeartbeats 1000000 in
theorem refLocate_any (s : List UInt8) (hs : s.length = 4) (w : World) : Calls Try.prog 67 #[.agg (rawV s)] w fun e w' => e = .returned (.agg #[.int .i64 ((locF (co s)).kind : Int), .int .i64 (locF (co s)).place, .int .u8 ((locF (co s)).val.toNat : Int)]) ∧ Below w.heap.size w w' := by
  have HS := Lib.hid hs
  clear hs
  obtain ⟨b0, hb0⟩ : ∃ b0, w.heap.size = b0 := ⟨_, rfl⟩
  have HB0 := Lib.hid hb0
  have OW := Lib.hid (Own.start b0 w)
  have OZ := Lib.hid (And.intro hb0 (Nat.le_refl b0))
  clear hb0
  refine (callsIn_wide (n := 6)).1 ?_
  refine callsIn_of_wp_marks Try.func67 rfl trivial ?_ rfl
  simp only [Try.ntmps67, List.size_toArray, List.length_cons, List.length_nil, Nat.reduceAdd, Nat.reduceSub, Array.replicate_succ, Array.replicate_zero, List.push_toArray, List.append_toArray, List.nil_append, List.cons_append]
  gi_upto_region 1 with (first | (refine own_boxV 1 68 (.tmp 0) rfl rfl rfl (.agg (rawV s)) rfl (rawV s) rfl OW OZ ?_; clear OW OZ; intro W g1 OW OZ) | (refine own_allocV 2 125 rfl rfl rfl #[.int .i64 0, .int .i64 0, .int .u8 0] (fun _ => by kernel_rfl) OW OZ ?_; clear OW OZ; intro W g2 OW OZ))
  obtain ⟨eo32, qeo32⟩ : ∃ e, (((s.getD 0 0).toNat : Int) == 0) = e := ⟨_, rfl⟩
  obtain ⟨eo36, qeo36⟩ : ∃ e, (((s.getD 1 0).toNat : Int) == 0) = e := ⟨_, rfl⟩
  obtain ⟨eo37, qeo37⟩ : ∃ e, (eo32 && eo36) = e := ⟨_, rfl⟩
  obtain ⟨eo311, qeo311⟩ : ∃ e, (((s.getD 2 0).toNat : Int) == 0) = e := ⟨_, rfl⟩
  obtain ⟨eo312, qeo312⟩ : ∃ e, (eo37 && eo311) = e := ⟨_, rfl⟩
  obtain ⟨eo316, qeo316⟩ : ∃ e, (((s.getD 3 0).toNat : Int) == 0) = e := ⟨_, rfl⟩
  obtain ⟨eo317, qeo317⟩ : ∃ e, (eo312 && eo316) = e := ⟨_, rfl⟩
  refine wpIn_region_heldL 18 (atD [[], [0], [1], [2], [3], [3, 4], [3, 5], [3, 6], [7], [8], [8, 9], [8, 10], [8, 11], [12], [13], [13, 14], [13, 15], [13, 16]]) (atV [fun vH _ => vH = .pointer (some ⟨b0, 0, none⟩), fun vH _ => vH = .int .u8 ((s.getD 0 0).toNat : Int), fun vH _ => vH = .bool eo32, fun vH _ => vH = .bool eo32, cdV (True ∧ eo32 = true) (fun vH _ => vH = .pointer (some ⟨b0, 1, none⟩)), cdV (True ∧ eo32 = true) (fun vH _ => vH = .int .u8 ((s.getD 1 0).toNat : Int)), cdV (True ∧ eo32 = true) (fun vH _ => vH = .bool eo36), fun vH _ => vH = .bool eo37, fun vH _ => vH = .bool eo37, cdV (True ∧ eo37 = true) (fun vH _ => vH = .pointer (some ⟨b0, 2, none⟩)), cdV (True ∧ eo37 = true) (fun vH _ => vH = .int .u8 ((s.getD 2 0).toNat : Int)), cdV (True ∧ eo37 = true) (fun vH _ => vH = .bool eo311), fun vH _ => vH = .bool eo312, fun vH _ => vH = .bool eo312, cdV (True ∧ eo312 = true) (fun vH _ => vH = .pointer (some ⟨b0, 3, none⟩)), cdV (True ∧ eo312 = true) (fun vH _ => vH = .int .u8 ((s.getD 3 0).toNat : Int)), cdV (True ∧ eo312 = true) (fun vH _ => vH = .bool eo316), fun vH _ => vH = .bool eo317]) BelowR (by kernel_rfl) BelowR.trans (BelowR.refl _)
    (StV.atV (.const _ (.const _ (.const _ (.const _ (.cons (fun v x y h _ => h) (.cons (fun v x y h _ => h) (.cons (fun v x y h _ => h) (.const _ (.const _ (.cons (fun v x y h _ => h) (.cons (fun v x y h _ => h) (.cons (fun v x y h _ => h) (.const _ (.const _ (.cons (fun v x y h _ => h) (.cons (fun v x y h _ => h) (.cons (fun v x y h _ => h) (.const _ .nil)))))))))))))))))))
    ⟨?o3x0, ?o3x1, ?o3x2, ?o3x3, ?o3x4, ?o3x5, ?o3x6, ?o3x7, ?o3x8, ?o3x9, ?o3x10, ?o3x11, ?o3x12, ?o3x13, ?o3x14, ?o3x15, ?o3x16, ?o3x17, trivial⟩ ?_
  case o3x0 =>
    exact held_run free_wide rfl (by rfl) BelowR.refl fun xH w' kH hR => ⟨_, run_idxO rfl (pO (by kernel_rfl) rfl) rfl (by kernel_rfl), rfl⟩
  case o3x1 =>
    exact held_load free_wide rfl BelowR.refl 5 (.tmp 8) rfl fun xH w' kH hR => ⟨_, _, (pT 0 (by kernel_rfl) (by kernel_rfl) (kH 0 (by decide))), ldC OW hR 0 rfl (rawV_get _ (by rw [(show (s).length = 4 from HS.out)]; decide)) naU8, rfl⟩
  case o3x2 =>
    exact held_run free_wide rfl (by rfl) BelowR.refl fun xH w' kH hR => ⟨_, run_binO rfl (pT 1 (by kernel_rfl) (by kernel_rfl) (kH 1 (by decide))) rfl bin_eql, (congrArg Value.bool qeo32)⟩
  case o3x3 =>
    exact held_move free_wide rfl BelowR.refl (.tmp 10) (.inl rfl) fun xH w' kH _ => (pT 2 (by kernel_rfl) (by kernel_rfl) (kH 2 (by decide)))
  case o3x4 =>
    refine held_guard free_wide 3 11 true True eo32 BelowR.refl rfl (by kernel_rfl) (by kernel_rfl) (by kernel_rfl) (fun xH w' kH => .inl ⟨trivial, kH 3 (by decide)⟩) (fun hC hG => ?_) (fun hN w' => .inr ⟨hN, rfl⟩)
    exact held_runG free_wide hG (by rfl) BelowR.refl fun xH w' kH hR => ⟨_, run_idxO rfl (pO (by kernel_rfl) rfl) rfl (by kernel_rfl), (.inl ⟨hC, rfl⟩)⟩
  case o3x5 =>
    refine held_guard free_wide 3 11 true True eo32 BelowR.refl rfl (by kernel_rfl) (by kernel_rfl) (by kernel_rfl) (fun xH w' kH => .inl ⟨trivial, kH 3 (by decide)⟩) (fun hC hG => ?_) (fun hN w' => .inr ⟨hN, rfl⟩)
    exact held_loadG free_wide hG BelowR.refl 5 (.tmp 12) rfl fun xH w' kH hR => ⟨_, _, (pT 4 (by kernel_rfl) (by kernel_rfl) (cdAt (kH 4 (by decide)) rfl hC)), ldC OW hR 0 rfl (rawV_get _ (by rw [(show (s).length = 4 from HS.out)]; decide)) naU8, (.inl ⟨hC, rfl⟩)⟩
  case o3x6 =>
    refine held_guard free_wide 3 11 true True eo32 BelowR.refl rfl (by kernel_rfl) (by kernel_rfl) (by kernel_rfl) (fun xH w' kH => .inl ⟨trivial, kH 3 (by decide)⟩) (fun hC hG => ?_) (fun hN w' => .inr ⟨hN, rfl⟩)
    exact held_runG free_wide hG (by rfl) BelowR.refl fun xH w' kH hR => ⟨_, run_binO rfl (pT 5 (by kernel_rfl) (by kernel_rfl) (cdAt (kH 5 (by decide)) rfl hC)) rfl bin_eql, (.inl ⟨hC, congrArg Value.bool qeo36⟩)⟩
  case o3x7 =>
    exact held_run free_wide rfl (by rfl) BelowR.refl fun xH w' kH hR => ⟨_, run_pickAnd rfl (pT 3 (by kernel_rfl) (by kernel_rfl) (kH 3 (by decide))) rfl (fun h => pT 6 (by kernel_rfl) (by kernel_rfl) (cdAt (kH 6 (by decide)) rfl (And.intro trivial h))), (congrArg Value.bool qeo37)⟩
  case o3x8 =>
    exact held_move free_wide rfl BelowR.refl (.tmp 15) (.inl rfl) fun xH w' kH _ => (pT 7 (by kernel_rfl) (by kernel_rfl) (kH 7 (by decide)))
  case o3x9 =>
    refine held_guard free_wide 8 16 true True eo37 BelowR.refl rfl (by kernel_rfl) (by kernel_rfl) (by kernel_rfl) (fun xH w' kH => .inl ⟨trivial, kH 8 (by decide)⟩) (fun hC hG => ?_) (fun hN w' => .inr ⟨hN, rfl⟩)
    exact held_runG free_wide hG (by rfl) BelowR.refl fun xH w' kH hR => ⟨_, run_idxO rfl (pO (by kernel_rfl) rfl) rfl (by kernel_rfl), (.inl ⟨hC, rfl⟩)⟩
  case o3x10 =>
    refine held_guard free_wide 8 16 true True eo37 BelowR.refl rfl (by kernel_rfl) (by kernel_rfl) (by kernel_rfl) (fun xH w' kH => .inl ⟨trivial, kH 8 (by decide)⟩) (fun hC hG => ?_) (fun hN w' => .inr ⟨hN, rfl⟩)
    exact held_loadG free_wide hG BelowR.refl 5 (.tmp 17) rfl fun xH w' kH hR => ⟨_, _, (pT 9 (by kernel_rfl) (by kernel_rfl) (cdAt (kH 9 (by decide)) rfl hC)), ldC OW hR 0 rfl (rawV_get _ (by rw [(show (s).length = 4 from HS.out)]; decide)) naU8, (.inl ⟨hC, rfl⟩)⟩
  case o3x11 =>
    refine held_guard free_wide 8 16 true True eo37 BelowR.refl rfl (by kernel_rfl) (by kernel_rfl) (by kernel_rfl) (fun xH w' kH => .inl ⟨trivial, kH 8 (by decide)⟩) (fun hC hG => ?_) (fun hN w' => .inr ⟨hN, rfl⟩)
    exact held_runG free_wide hG (by rfl) BelowR.refl fun xH w' kH hR => ⟨_, run_binO rfl (pT 10 (by kernel_rfl) (by kernel_rfl) (cdAt (kH 10 (by decide)) rfl hC)) rfl bin_eql, (.inl ⟨hC, congrArg Value.bool qeo311⟩)⟩
  case o3x12 =>
    exact held_run free_wide rfl (by rfl) BelowR.refl fun xH w' kH hR => ⟨_, run_pickAnd rfl (pT 8 (by kernel_rfl) (by kernel_rfl) (kH 8 (by decide))) rfl (fun h => pT 11 (by kernel_rfl) (by kernel_rfl) (cdAt (kH 11 (by decide)) rfl (And.intro trivial h))), (congrArg Value.bool qeo312)⟩
  case o3x13 =>
    exact held_move free_wide rfl BelowR.refl (.tmp 20) (.inl rfl) fun xH w' kH _ => (pT 12 (by kernel_rfl) (by kernel_rfl) (kH 12 (by decide)))
  case o3x14 =>
    refine held_guard free_wide 13 21 true True eo312 BelowR.refl rfl (by kernel_rfl) (by kernel_rfl) (by kernel_rfl) (fun xH w' kH => .inl ⟨trivial, kH 13 (by decide)⟩) (fun hC hG => ?_) (fun hN w' => .inr ⟨hN, rfl⟩)
    exact held_runG free_wide hG (by rfl) BelowR.refl fun xH w' kH hR => ⟨_, run_idxO rfl (pO (by kernel_rfl) rfl) rfl (by kernel_rfl), (.inl ⟨hC, rfl⟩)⟩
  case o3x15 =>
    refine held_guard free_wide 13 21 true True eo312 BelowR.refl rfl (by kernel_rfl) (by kernel_rfl) (by kernel_rfl) (fun xH w' kH => .inl ⟨trivial, kH 13 (by decide)⟩) (fun hC hG => ?_) (fun hN w' => .inr ⟨hN, rfl⟩)
    exact held_loadG free_wide hG BelowR.refl 5 (.tmp 22) rfl fun xH w' kH hR => ⟨_, _, (pT 14 (by kernel_rfl) (by kernel_rfl) (cdAt (kH 14 (by decide)) rfl hC)), ldC OW hR 0 rfl (rawV_get _ (by rw [(show (s).length = 4 from HS.out)]; decide)) naU8, (.inl ⟨hC, rfl⟩)⟩
  case o3x16 =>
    refine held_guard free_wide 13 21 true True eo312 BelowR.refl rfl (by kernel_rfl) (by kernel_rfl) (by kernel_rfl) (fun xH w' kH => .inl ⟨trivial, kH 13 (by decide)⟩) (fun hC hG => ?_) (fun hN w' => .inr ⟨hN, rfl⟩)
    exact held_runG free_wide hG (by rfl) BelowR.refl fun xH w' kH hR => ⟨_, run_binO rfl (pT 15 (by kernel_rfl) (by kernel_rfl) (cdAt (kH 15 (by decide)) rfl hC)) rfl bin_eql, (.inl ⟨hC, congrArg Value.bool qeo316⟩)⟩
  case o3x17 =>
    exact held_run free_wide rfl (by rfl) BelowR.refl fun xH w' kH hR => ⟨_, run_pickAnd rfl (pT 13 (by kernel_rfl) (by kernel_rfl) (kH 13 (by decide))) rfl (fun h => pT 16 (by kernel_rfl) (by kernel_rfl) (cdAt (kH 16 (by decide)) rfl (And.intro trivial h))), (congrArg Value.bool qeo317)⟩
  intro xH w' hv hR
  subst qeo317 qeo316 qeo312 qeo311 qeo37 qeo36 qeo32
  have h0 : xH 0 = _ := hv 0 (by omega)
  have h1 : xH 1 = _ := hv 1 (by omega)
  have h2 : xH 2 = _ := hv 2 (by omega)
  have h3 : xH 3 = _ := hv 3 (by omega)
  have h7 : xH 7 = _ := hv 7 (by omega)
  have h8 : xH 8 = _ := hv 8 (by omega)
  have h12 : xH 12 = _ := hv 12 (by omega)
  have h13 : xH 13 = _ := hv 13 (by omega)
  have h17 : xH 17 = _ := hv 17 (by omega)
  simp only [List.take_succ_cons, List.take_zero, List.drop_succ_cons, List.drop_zero, putsH, Act.put, List.setIfInBounds_toArray, List.set_cons_succ, List.set_cons_zero, h0, h1, h2, h3, h7, h8, h12, h13, h17]
  have OW2 := Lib.hid (OW.out.step hR)
  clear hv hR OW OZ h0 h1 h2 h3 h7 h8 h12 h13 h17
  have OW := OW2
  clear OW2
  obtain ⟨g4, OZ⟩ := own_size OW HB0
  cases hB5 : ((((((s.getD 0 0).toNat : Int) == 0) && (((s.getD 1 0).toNat : Int) == 0)) && (((s.getD 2 0).toNat : Int) == 0)) && (((s.getD 3 0).toNat : Int) == 0))
  case true =>
    gi_wp2_with (first | (refine own_valV 26 rfl rfl rfl (.agg #[.int .i64 0, .int .i64 (-1), .int .u8 0]) (run_buildO rfl (vs := #[(0, .int .i64 0), (1, .int .i64 (-1))]) rfl _ (by kernel_rfl)) ?_) | (refine own_storeSub 1 0 125 (.tmp 2) (.tmp 26) rfl rfl rfl rfl [.int .i64 0, .int .i64 (-1), .int .u8 0] rfl (Nat.le_of_ble_eq_true rfl) rfl (by kernel_rfl) #[.int .i64 0, .int .i64 (-1), .int .u8 0] rfl _ rfl OW OZ ?_; clear OW OZ; intro W OW OZ))
    refine leaves_own [] _ (Nat.le_of_eq HB0.out) (by simpa using OW.out) ?_
    intro W' hO
    exact ⟨.agg #[.int .i64 0, .int .i64 (-1), .int .u8 0], results_ownRow hO 1 rfl rfl rfl Try.underlying125 rfl (by kernel_rfl), (by first | (rw [vr_nul (s := s) (by assumption)]; rfl) | (rw [locF_hi (s := co s) (i := k) (by omega) (by omega) (vr_hit (by assumption))]; rfl) | (rw [locF_lo (s := co s) (i := k) (by omega) (vr_hit (by assumption))]; rfl) | (rw [locF_lost (s := co s) (vr_not (by assumption)) HN.out]; rfl)), hO.done HB0⟩
  gi_wp2
  gi_loopw [3, 4] (fun z3 z4 wr => ∃ k : Nat, k ≤ 39 ∧ z3 = .int .u8 ((pw 2 k).toNat : Int) ∧ z4 = .int .i64 (k : Int) ∧ (∀ i, i < k → hit (co s) i = false) ∧ Own b0 w [(b0, Obj.cells (rawV s) 68 (0, 0)), (g1, Obj.cells (#[.int .i64 0, .int .i64 0, .int .u8 0]) 125 (0, 0))] wr) (fun z3 z4 _ => 39 - (intOf z4).toNat)
  case atStart => exact ⟨0, by omega, rfl, rfl, (fun i hi => absurd hi (by omega)), (by skip; exact OW.out)⟩
  case round =>
    obtain ⟨k, hk7, rfl, rfl, hn, hO⟩ := hrel
    clear OW OZ
    have OW := Lib.hid hO
    obtain ⟨g6, OZ⟩ := own_size OW HB0
    clear hO
    have HN := Lib.hid hn
    clear hn
    gi_upto_region 5 with fail
    obtain ⟨eo81, qeo81⟩ : ∃ e, (decide ((k : Int) < 39)) = e := ⟨_, rfl⟩
    refine wpIn_region_heldL 2 (atD [[], [0]]) (atV [fun vH _ => vH = .int .i64 (k : Int), fun vH _ => vH = .bool eo81]) BelowR (by kernel_rfl) BelowR.trans (BelowR.refl _)
      (StV.atV (.const _ (.const _ .nil)))
      ⟨?o8x0, ?o8x1, trivial⟩ ?_
    case o8x0 =>
      exact held_move free_wide rfl BelowR.refl (.tmp 4) (.inl rfl) fun xH w' kH _ => (pO (by kernel_rfl) rfl)
    case o8x1 =>
      exact held_run free_wide rfl (by rfl) BelowR.refl fun xH w' kH hR => ⟨_, run_binO rfl (pT 0 (by kernel_rfl) (by kernel_rfl) (kH 0 (by decide))) rfl bin_lss, (congrArg Value.bool qeo81)⟩
    intro xH w' hv hR
    subst qeo81
    have h0 : xH 0 = _ := hv 0 (by omega)
    have h1 : xH 1 = _ := hv 1 (by omega)
    simp only [List.take_succ_cons, List.take_zero, List.drop_succ_cons, List.drop_zero, putsH, Act.put, List.setIfInBounds_toArray, List.set_cons_succ, List.set_cons_zero, h0, h1]
    have OW2 := Lib.hid (OW.out.step hR)
    clear hv hR OW OZ h0 h1
    have OW := OW2
    clear OW2
    obtain ⟨g9, OZ⟩ := own_size OW HB0
    cases hB10 : (decide ((k : Int) < 39))
    case true =>
      have dhB10 := of_decide_eq_true hB10
      gi_upto_region 7 with fail
      refine wpIn_region_heldL 5 (atD [[], [0], [], [1, 2], [3]]) (atV [fun vH _ => vH = .pointer (some ⟨b0, 0, none⟩), fun vH _ => vH = .int .u8 ((s.getD 0 0).toNat : Int), fun vH _ => vH = .int .u8 ((pw 2 k).toNat : Int), fun vH _ => vH = .int .u8 ((gm (s.getD 0 0) (pw 2 k)).toNat : Int), fun vH _ => vH = .int .u8 ((gm (s.getD 0 0) (pw 2 k)).toNat : Int)]) BelowR (by kernel_rfl) BelowR.trans (BelowR.refl _)
        (StV.atV (.const _ (.const _ (.const _ (.const _ (.const _ .nil))))))
        ⟨?o11x0, ?o11x1, ?o11x2, ?o11x3, ?o11x4, trivial⟩ ?_
      case o11x0 =>
        exact held_run free_wide rfl (by rfl) BelowR.refl fun xH w' kH hR => ⟨_, run_idxO rfl (pO (by kernel_rfl) rfl) rfl (by kernel_rfl), rfl⟩
      case o11x1 =>
        exact held_load free_wide rfl BelowR.refl 5 (.tmp 31) rfl fun xH w' kH hR => ⟨_, _, (pT 0 (by kernel_rfl) (by kernel_rfl) (kH 0 (by decide))), ldC OW hR 0 rfl (rawV_get _ (by rw [(show (s).length = 4 from HS.out)]; decide)) naU8, rfl⟩
      case o11x2 =>
        exact held_move free_wide rfl BelowR.refl (.tmp 3) (.inl rfl) fun xH w' kH _ => (pO (by kernel_rfl) rfl)
      case o11x3 =>
        refine held_call free_wide rfl 65 _ _ rfl (enters_of Try.func65 (by kernel_rfl) rfl) fun xH w' kH hR => ⟨_, mapE2 (pT 1 (by kernel_rfl) (by kernel_rfl) (kH 1 (by decide))) (pT 2 (by kernel_rfl) (by kernel_rfl) (kH 2 (by decide))), ?_⟩
        refine (callsIn_wide.2 (rmul_any (s.getD 0 0) (pw 2 k) _)).mono ?_
        rintro e w2 ⟨rfl, rfl⟩
        exact ⟨_, rfl, rfl, BelowR.refl _⟩
      case o11x4 =>
        exact held_move free_wide rfl BelowR.refl (.tmp 34) (.inr rfl) fun xH w' kH _ => (pT 3 (by kernel_rfl) (by kernel_rfl) (kH 3 (by decide)))
      intro xH w' hv hR
      have h0 : xH 0 = _ := hv 0 (by omega)
      have h1 : xH 1 = _ := hv 1 (by omega)
      have h2 : xH 2 = _ := hv 2 (by omega)
      have h3 : xH 3 = _ := hv 3 (by omega)
      have h4 : xH 4 = _ := hv 4 (by omega)
      simp only [List.take_succ_cons, List.take_zero, List.drop_succ_cons, List.drop_zero, putsH, Act.put, List.setIfInBounds_toArray, List.set_cons_succ, List.set_cons_zero, h0, h1, h2, h3, h4]
      have OW2 := Lib.hid (OW.out.step hR)
      clear hv hR OW OZ h0 h1 h2 h3 h4
      have OW := OW2
      clear OW2
      obtain ⟨g12, OZ⟩ := own_size OW HB0
      gi_upto_region 8 with fail
      refine wpIn_region_heldL 4 (atD [[], [], [0, 1], [2]]) (atV [fun vH _ => vH = .int .u8 ((gm (s.getD 0 0) (pw 2 k)).toNat : Int), fun vH _ => vH = .int .u8 ((pw 2 k).toNat : Int), fun vH _ => vH = .int .u8 ((gm (gm (s.getD 0 0) (pw 2 k)) (pw 2 k)).toNat : Int), fun vH _ => vH = .int .u8 ((gm (gm (s.getD 0 0) (pw 2 k)) (pw 2 k)).toNat : Int)]) BelowR (by kernel_rfl) BelowR.trans (BelowR.refl _)
        (StV.atV (.const _ (.const _ (.const _ (.const _ .nil)))))
        ⟨?o13x0, ?o13x1, ?o13x2, ?o13x3, trivial⟩ ?_
      case o13x0 =>
        exact held_move free_wide rfl BelowR.refl (.tmp 5) (.inl rfl) fun xH w' kH _ => (pO (by kernel_rfl) rfl)
      case o13x1 =>
        exact held_move free_wide rfl BelowR.refl (.tmp 3) (.inl rfl) fun xH w' kH _ => (pO (by kernel_rfl) rfl)
      case o13x2 =>
        refine held_call free_wide rfl 65 _ _ rfl (enters_of Try.func65 (by kernel_rfl) rfl) fun xH w' kH hR => ⟨_, mapE2 (pT 0 (by kernel_rfl) (by kernel_rfl) (kH 0 (by decide))) (pT 1 (by kernel_rfl) (by kernel_rfl) (kH 1 (by decide))), ?_⟩
        refine (callsIn_wide.2 (rmul_any (gm (s.getD 0 0) (pw 2 k)) (pw 2 k) _)).mono ?_
        rintro e w2 ⟨rfl, rfl⟩
        exact ⟨_, rfl, rfl, BelowR.refl _⟩
      case o13x3 =>
        exact held_move free_wide rfl BelowR.refl (.tmp 37) (.inr rfl) fun xH w' kH _ => (pT 2 (by kernel_rfl) (by kernel_rfl) (kH 2 (by decide)))
      intro xH w' hv hR
      have h0 : xH 0 = _ := hv 0 (by omega)
      have h1 : xH 1 = _ := hv 1 (by omega)
      have h2 : xH 2 = _ := hv 2 (by omega)
      have h3 : xH 3 = _ := hv 3 (by omega)
      simp only [List.take_succ_cons, List.take_zero, List.drop_succ_cons, List.drop_zero, putsH, Act.put, List.setIfInBounds_toArray, List.set_cons_succ, List.set_cons_zero, h0, h1, h2, h3]
      have OW2 := Lib.hid (OW.out.step hR)
      clear hv hR OW OZ h0 h1 h2 h3
      have OW := OW2
      clear OW2
      obtain ⟨g14, OZ⟩ := own_size OW HB0
      gi_upto_region 9 with fail
      refine wpIn_region_heldL 4 (atD [[], [], [0, 1], [2]]) (atV [fun vH _ => vH = .int .u8 ((gm (gm (s.getD 0 0) (pw 2 k)) (pw 2 k)).toNat : Int), fun vH _ => vH = .int .u8 ((pw 2 k).toNat : Int), fun vH _ => vH = .int .u8 ((gm (gm (gm (s.getD 0 0) (pw 2 k)) (pw 2 k)) (pw 2 k)).toNat : Int), fun vH _ => vH = .int .u8 ((gm (gm (gm (s.getD 0 0) (pw 2 k)) (pw 2 k)) (pw 2 k)).toNat : Int)]) BelowR (by kernel_rfl) BelowR.trans (BelowR.refl _)
        (StV.atV (.const _ (.const _ (.const _ (.const _ .nil)))))
        ⟨?o15x0, ?o15x1, ?o15x2, ?o15x3, trivial⟩ ?_
      case o15x0 =>
        exact held_move free_wide rfl BelowR.refl (.tmp 6) (.inl rfl) fun xH w' kH _ => (pO (by kernel_rfl) rfl)
      case o15x1 =>
        exact held_move free_wide rfl BelowR.refl (.tmp 3) (.inl rfl) fun xH w' kH _ => (pO (by kernel_rfl) rfl)
      case o15x2 =>
        refine held_call free_wide rfl 65 _ _ rfl (enters_of Try.func65 (by kernel_rfl) rfl) fun xH w' kH hR => ⟨_, mapE2 (pT 0 (by kernel_rfl) (by kernel_rfl) (kH 0 (by decide))) (pT 1 (by kernel_rfl) (by kernel_rfl) (kH 1 (by decide))), ?_⟩
        refine (callsIn_wide.2 (rmul_any (gm (gm (s.getD 0 0) (pw 2 k)) (pw 2 k)) (pw 2 k) _)).mono ?_
        rintro e w2 ⟨rfl, rfl⟩
        exact ⟨_, rfl, rfl, BelowR.refl _⟩
      case o15x3 =>
        exact held_move free_wide rfl BelowR.refl (.tmp 40) (.inr rfl) fun xH w' kH _ => (pT 2 (by kernel_rfl) (by kernel_rfl) (kH 2 (by decide)))
      intro xH w' hv hR
      have h0 : xH 0 = _ := hv 0 (by omega)
      have h1 : xH 1 = _ := hv 1 (by omega)
      have h2 : xH 2 = _ := hv 2 (by omega)
      have h3 : xH 3 = _ := hv 3 (by omega)
      simp only [List.take_succ_cons, List.take_zero, List.drop_succ_cons, List.drop_zero, putsH, Act.put, List.setIfInBounds_toArray, List.set_cons_succ, List.set_cons_zero, h0, h1, h2, h3]
      have OW2 := Lib.hid (OW.out.step hR)
      clear hv hR OW OZ h0 h1 h2 h3
      have OW := OW2
      clear OW2
      obtain ⟨g16, OZ⟩ := own_size OW HB0
      gi_upto_region 10 with fail
      obtain ⟨eo172, qeo172⟩ : ∃ e, (((s.getD 0 0).toNat : Int) != 0) = e := ⟨_, rfl⟩
      obtain ⟨eo177, qeo177⟩ : ∃ e, (((s.getD 1 0).toNat : Int) == ((gm (s.getD 0 0) (pw 2 k)).toNat : Int)) = e := ⟨_, rfl⟩
      obtain ⟨eo178, qeo178⟩ : ∃ e, (eo172 && eo177) = e := ⟨_, rfl⟩
      obtain ⟨eo1713, qeo1713⟩ : ∃ e, (((s.getD 2 0).toNat : Int) == ((gm (gm (s.getD 0 0) (pw 2 k)) (pw 2 k)).toNat : Int)) = e := ⟨_, rfl⟩
      obtain ⟨eo1714, qeo1714⟩ : ∃ e, (eo178 && eo1713) = e := ⟨_, rfl⟩
      obtain ⟨eo1719, qeo1719⟩ : ∃ e, (((s.getD 3 0).toNat : Int) == ((gm (gm (gm (s.getD 0 0) (pw 2 k)) (pw 2 k)) (pw 2 k)).toNat : Int)) = e := ⟨_, rfl⟩
      obtain ⟨eo1720, qeo1720⟩ : ∃ e, (eo1714 && eo1719) = e := ⟨_, rfl⟩
      refine wpIn_region_heldL 21 (atD [[], [0], [1], [2], [3], [3, 4], [3], [3, 5, 6], [3, 7], [8], [9], [9, 10], [9], [9, 11, 12], [9, 13], [14], [15], [15, 16], [15], [15, 17, 18], [15, 19]]) (atV [fun vH _ => vH = .pointer (some ⟨b0, 0, none⟩), fun vH _ => vH = .int .u8 ((s.getD 0 0).toNat : Int), fun vH _ => vH = .bool eo172, fun vH _ => vH = .bool eo172, cdV (True ∧ eo172 = true) (fun vH _ => vH = .pointer (some ⟨b0, 1, none⟩)), cdV (True ∧ eo172 = true) (fun vH _ => vH = .int .u8 ((s.getD 1 0).toNat : Int)), cdV (True ∧ eo172 = true) (fun vH _ => vH = .int .u8 ((gm (s.getD 0 0) (pw 2 k)).toNat : Int)), cdV (True ∧ eo172 = true) (fun vH _ => vH = .bool eo177), fun vH _ => vH = .bool eo178, fun vH _ => vH = .bool eo178, cdV (True ∧ eo178 = true) (fun vH _ => vH = .pointer (some ⟨b0, 2, none⟩)), cdV (True ∧ eo178 = true) (fun vH _ => vH = .int .u8 ((s.getD 2 0).toNat : Int)), cdV (True ∧ eo178 = true) (fun vH _ => vH = .int .u8 ((gm (gm (s.getD 0 0) (pw 2 k)) (pw 2 k)).toNat : Int)), cdV (True ∧ eo178 = true) (fun vH _ => vH = .bool eo1713), fun vH _ => vH = .bool eo1714, fun vH _ => vH = .bool eo1714, cdV (True ∧ eo1714 = true) (fun vH _ => vH = .pointer (some ⟨b0, 3, none⟩)), cdV (True ∧ eo1714 = true) (fun vH _ => vH = .int .u8 ((s.getD 3 0).toNat : Int)), cdV (True ∧ eo1714 = true) (fun vH _ => vH = .int .u8 ((gm (gm (gm (s.getD 0 0) (pw 2 k)) (pw 2 k)) (pw 2 k)).toNat : Int)), cdV (True ∧ eo1714 = true) (fun vH _ => vH = .bool eo1719), fun vH _ => vH = .bool eo1720]) BelowR (by kernel_rfl) BelowR.trans (BelowR.refl _)
        (StV.atV (.const _ (.const _ (.const _ (.const _ (.cons (fun v x y h _ => h) (.cons (fun v x y h _ => h) (.cons (fun v x y h _ => h) (.cons (fun v x y h _ => h) (.const _ (.const _ (.cons (fun v x y h _ => h) (.cons (fun v x y h _ => h) (.cons (fun v x y h _ => h) (.cons (fun v x y h _ => h) (.const _ (.const _ (.cons (fun v x y h _ => h) (.cons (fun v x y h _ => h) (.cons (fun v x y h _ => h) (.cons (fun v x y h _ => h) (.const _ .nil))))))))))))))))))))))
        ⟨?o17x0, ?o17x1, ?o17x2, ?o17x3, ?o17x4, ?o17x5, ?o17x6, ?o17x7, ?o17x8, ?o17x9, ?o17x10, ?o17x11, ?o17x12, ?o17x13, ?o17x14, ?o17x15, ?o17x16, ?o17x17, ?o17x18, ?o17x19, ?o17x20, trivial⟩ ?_
      case o17x0 =>
        exact held_run free_wide rfl (by rfl) BelowR.refl fun xH w' kH hR => ⟨_, run_idxO rfl (pO (by kernel_rfl) rfl) rfl (by kernel_rfl), rfl⟩
      case o17x1 =>
        exact held_load free_wide rfl BelowR.refl 5 (.tmp 41) rfl fun xH w' kH hR => ⟨_, _, (pT 0 (by kernel_rfl) (by kernel_rfl) (kH 0 (by decide))), ldC OW hR 0 rfl (rawV_get _ (by rw [(show (s).length = 4 from HS.out)]; decide)) naU8, rfl⟩
      case o17x2 =>
        exact held_run free_wide rfl (by rfl) BelowR.refl fun xH w' kH hR => ⟨_, run_binO rfl (pT 1 (by kernel_rfl) (by kernel_rfl) (kH 1 (by decide))) rfl bin_neq, (congrArg Value.bool qeo172)⟩
      case o17x3 =>
        exact held_move free_wide rfl BelowR.refl (.tmp 43) (.inl rfl) fun xH w' kH _ => (pT 2 (by kernel_rfl) (by kernel_rfl) (kH 2 (by decide)))
      case o17x4 =>
        refine held_guard free_wide 3 44 true True eo172 BelowR.refl rfl (by kernel_rfl) (by kernel_rfl) (by kernel_rfl) (fun xH w' kH => .inl ⟨trivial, kH 3 (by decide)⟩) (fun hC hG => ?_) (fun hN w' => .inr ⟨hN, rfl⟩)
        exact held_runG free_wide hG (by rfl) BelowR.refl fun xH w' kH hR => ⟨_, run_idxO rfl (pO (by kernel_rfl) rfl) rfl (by kernel_rfl), (.inl ⟨hC, rfl⟩)⟩
      case o17x5 =>
        refine held_guard free_wide 3 44 true True eo172 BelowR.refl rfl (by kernel_rfl) (by kernel_rfl) (by kernel_rfl) (fun xH w' kH => .inl ⟨trivial, kH 3 (by decide)⟩) (fun hC hG => ?_) (fun hN w' => .inr ⟨hN, rfl⟩)
        exact held_loadG free_wide hG BelowR.refl 5 (.tmp 45) rfl fun xH w' kH hR => ⟨_, _, (pT 4 (by kernel_rfl) (by kernel_rfl) (cdAt (kH 4 (by decide)) rfl hC)), ldC OW hR 0 rfl (rawV_get _ (by rw [(show (s).length = 4 from HS.out)]; decide)) naU8, (.inl ⟨hC, rfl⟩)⟩
      case o17x6 =>
        refine held_guard free_wide 3 44 true True eo172 BelowR.refl rfl (by kernel_rfl) (by kernel_rfl) (by kernel_rfl) (fun xH w' kH => .inl ⟨trivial, kH 3 (by decide)⟩) (fun hC hG => ?_) (fun hN w' => .inr ⟨hN, rfl⟩)
        exact held_moveG free_wide hG BelowR.refl (.tmp 5) (.inl rfl) fun xH w' kH _ => .inl ⟨hC, (pO (by kernel_rfl) rfl)⟩
      case o17x7 =>
        refine held_guard free_wide 3 44 true True eo172 BelowR.refl rfl (by kernel_rfl) (by kernel_rfl) (by kernel_rfl) (fun xH w' kH => .inl ⟨trivial, kH 3 (by decide)⟩) (fun hC hG => ?_) (fun hN w' => .inr ⟨hN, rfl⟩)
        exact held_runG free_wide hG (by rfl) BelowR.refl fun xH w' kH hR => ⟨_, run_binO rfl (pT 5 (by kernel_rfl) (by kernel_rfl) (cdAt (kH 5 (by decide)) rfl hC)) (pT 6 (by kernel_rfl) (by kernel_rfl) (cdAt (kH 6 (by decide)) rfl hC)) bin_eql, (.inl ⟨hC, congrArg Value.bool qeo177⟩)⟩
      case o17x8 =>
        exact held_run free_wide rfl (by rfl) BelowR.refl fun xH w' kH hR => ⟨_, run_pickAnd rfl (pT 3 (by kernel_rfl) (by kernel_rfl) (kH 3 (by decide))) rfl (fun h => pT 7 (by kernel_rfl) (by kernel_rfl) (cdAt (kH 7 (by decide)) rfl (And.intro trivial h))), (congrArg Value.bool qeo178)⟩
      case o17x9 =>
        exact held_move free_wide rfl BelowR.refl (.tmp 49) (.inl rfl) fun xH w' kH _ => (pT 8 (by kernel_rfl) (by kernel_rfl) (kH 8 (by decide)))
      case o17x10 =>
        refine held_guard free_wide 9 50 true True eo178 BelowR.refl rfl (by kernel_rfl) (by kernel_rfl) (by kernel_rfl) (fun xH w' kH => .inl ⟨trivial, kH 9 (by decide)⟩) (fun hC hG => ?_) (fun hN w' => .inr ⟨hN, rfl⟩)
        exact held_runG free_wide hG (by rfl) BelowR.refl fun xH w' kH hR => ⟨_, run_idxO rfl (pO (by kernel_rfl) rfl) rfl (by kernel_rfl), (.inl ⟨hC, rfl⟩)⟩
      case o17x11 =>
        refine held_guard free_wide 9 50 true True eo178 BelowR.refl rfl (by kernel_rfl) (by kernel_rfl) (by kernel_rfl) (fun xH w' kH => .inl ⟨trivial, kH 9 (by decide)⟩) (fun hC hG => ?_) (fun hN w' => .inr ⟨hN, rfl⟩)
        exact held_loadG free_wide hG BelowR.refl 5 (.tmp 51) rfl fun xH w' kH hR => ⟨_, _, (pT 10 (by kernel_rfl) (by kernel_rfl) (cdAt (kH 10 (by decide)) rfl hC)), ldC OW hR 0 rfl (rawV_get _ (by rw [(show (s).length = 4 from HS.out)]; decide)) naU8, (.inl ⟨hC, rfl⟩)⟩
      case o17x12 =>
        refine held_guard free_wide 9 50 true True eo178 BelowR.refl rfl (by kernel_rfl) (by kernel_rfl) (by kernel_rfl) (fun xH w' kH => .inl ⟨trivial, kH 9 (by decide)⟩) (fun hC hG => ?_) (fun hN w' => .inr ⟨hN, rfl⟩)
        exact held_moveG free_wide hG BelowR.refl (.tmp 6) (.inl rfl) fun xH w' kH _ => .inl ⟨hC, (pO (by kernel_rfl) rfl)⟩
      case o17x13 =>
        refine held_guard free_wide 9 50 true True eo178 BelowR.refl rfl (by kernel_rfl) (by kernel_rfl) (by kernel_rfl) (fun xH w' kH => .inl ⟨trivial, kH 9 (by decide)⟩) (fun hC hG => ?_) (fun hN w' => .inr ⟨hN, rfl⟩)
        exact held_runG free_wide hG (by rfl) BelowR.refl fun xH w' kH hR => ⟨_, run_binO rfl (pT 11 (by kernel_rfl) (by kernel_rfl) (cdAt (kH 11 (by decide)) rfl hC)) (pT 12 (by kernel_rfl) (by kernel_rfl) (cdAt (kH 12 (by decide)) rfl hC)) bin_eql, (.inl ⟨hC, congrArg Value.bool qeo1713⟩)⟩
      case o17x14 =>
        exact held_run free_wide rfl (by rfl) BelowR.refl fun xH w' kH hR => ⟨_, run_pickAnd rfl (pT 9 (by kernel_rfl) (by kernel_rfl) (kH 9 (by decide))) rfl (fun h => pT 13 (by kernel_rfl) (by kernel_rfl) (cdAt (kH 13 (by decide)) rfl (And.intro trivial h))), (congrArg Value.bool qeo1714)⟩
      case o17x15 =>
        exact held_move free_wide rfl BelowR.refl (.tmp 55) (.inl rfl) fun xH w' kH _ => (pT 14 (by kernel_rfl) (by kernel_rfl) (kH 14 (by decide)))
      case o17x16 =>
        refine held_guard free_wide 15 56 true True eo1714 BelowR.refl rfl (by kernel_rfl) (by kernel_rfl) (by kernel_rfl) (fun xH w' kH => .inl ⟨trivial, kH 15 (by decide)⟩) (fun hC hG => ?_) (fun hN w' => .inr ⟨hN, rfl⟩)
        exact held_runG free_wide hG (by rfl) BelowR.refl fun xH w' kH hR => ⟨_, run_idxO rfl (pO (by kernel_rfl) rfl) rfl (by kernel_rfl), (.inl ⟨hC, rfl⟩)⟩
      case o17x17 =>
        refine held_guard free_wide 15 56 true True eo1714 BelowR.refl rfl (by kernel_rfl) (by kernel_rfl) (by kernel_rfl) (fun xH w' kH => .inl ⟨trivial, kH 15 (by decide)⟩) (fun hC hG => ?_) (fun hN w' => .inr ⟨hN, rfl⟩)
        exact held_loadG free_wide hG BelowR.refl 5 (.tmp 57) rfl fun xH w' kH hR => ⟨_, _, (pT 16 (by kernel_rfl) (by kernel_rfl) (cdAt (kH 16 (by decide)) rfl hC)), ldC OW hR 0 rfl (rawV_get _ (by rw [(show (s).length = 4 from HS.out)]; decide)) naU8, (.inl ⟨hC, rfl⟩)⟩
      case o17x18 =>
        refine held_guard free_wide 15 56 true True eo1714 BelowR.refl rfl (by kernel_rfl) (by kernel_rfl) (by kernel_rfl) (fun xH w' kH => .inl ⟨trivial, kH 15 (by decide)⟩) (fun hC hG => ?_) (fun hN w' => .inr ⟨hN, rfl⟩)
        exact held_moveG free_wide hG BelowR.refl (.tmp 7) (.inl rfl) fun xH w' kH _ => .inl ⟨hC, (pO (by kernel_rfl) rfl)⟩
      case o17x19 =>
        refine held_guard free_wide 15 56 true True eo1714 BelowR.refl rfl (by kernel_rfl) (by kernel_rfl) (by kernel_rfl) (fun xH w' kH => .inl ⟨trivial, kH 15 (by decide)⟩) (fun hC hG => ?_) (fun hN w' => .inr ⟨hN, rfl⟩)
        exact held_runG free_wide hG (by rfl) BelowR.refl fun xH w' kH hR => ⟨_, run_binO rfl (pT 17 (by kernel_rfl) (by kernel_rfl) (cdAt (kH 17 (by decide)) rfl hC)) (pT 18 (by kernel_rfl) (by kernel_rfl) (cdAt (kH 18 (by decide)) rfl hC)) bin_eql, (.inl ⟨hC, congrArg Value.bool qeo1719⟩)⟩
      case o17x20 =>
        exact held_run free_wide rfl (by rfl) BelowR.refl fun xH w' kH hR => ⟨_, run_pickAnd rfl (pT 15 (by kernel_rfl) (by kernel_rfl) (kH 15 (by decide))) rfl (fun h => pT 19 (by kernel_rfl) (by kernel_rfl) (cdAt (kH 19 (by decide)) rfl (And.intro trivial h))), (congrArg Value.bool qeo1720)⟩
      intro xH w' hv hR
      subst qeo1720 qeo1719 qeo1714 qeo1713 qeo178 qeo177 qeo172
      have h0 : xH 0 = _ := hv 0 (by omega)
      have h1 : xH 1 = _ := hv 1 (by omega)
      have h2 : xH 2 = _ := hv 2 (by omega)
      have h3 : xH 3 = _ := hv 3 (by omega)
      have h8 : xH 8 = _ := hv 8 (by omega)
      have h9 : xH 9 = _ := hv 9 (by omega)
      have h14 : xH 14 = _ := hv 14 (by omega)
      have h15 : xH 15 = _ := hv 15 (by omega)
      have h20 : xH 20 = _ := hv 20 (by omega)
      simp only [List.take_succ_cons, List.take_zero, List.drop_succ_cons, List.drop_zero, putsH, Act.put, List.setIfInBounds_toArray, List.set_cons_succ, List.set_cons_zero, h0, h1, h2, h3, h8, h9, h14, h15, h20]
      have OW2 := Lib.hid (OW.out.step hR)
      clear hv hR OW OZ h0 h1 h2 h3 h8 h9 h14 h15 h20
      have OW := OW2
      clear OW2
      obtain ⟨g18, OZ⟩ := own_size OW HB0
      cases hB19 : ((((((s.getD 0 0).toNat : Int) != 0) && (((s.getD 1 0).toNat : Int) == ((gm (s.getD 0 0) (pw 2 k)).toNat : Int))) && (((s.getD 2 0).toNat : Int) == ((gm (gm (s.getD 0 0) (pw 2 k)) (pw 2 k)).toNat : Int))) && (((s.getD 3 0).toNat : Int) == ((gm (gm (gm (s.getD 0 0) (pw 2 k)) (pw 2 k)) (pw 2 k)).toNat : Int)))
      case true =>
        gi_upto_region 11 with fail
        obtain ⟨eo201, qeo201⟩ : ∃ e, (decide (35 < (k : Int))) = e := ⟨_, rfl⟩
        refine wpIn_region_heldL 2 (atD [[], [0]]) (atV [fun vH _ => vH = .int .i64 (k : Int), fun vH _ => vH = .bool eo201]) BelowR (by kernel_rfl) BelowR.trans (BelowR.refl _)
          (StV.atV (.const _ (.const _ .nil)))
          ⟨?o20x0, ?o20x1, trivial⟩ ?_
        case o20x0 =>
          exact held_move free_wide rfl BelowR.refl (.tmp 4) (.inl rfl) fun xH w' kH _ => (pO (by kernel_rfl) rfl)
        case o20x1 =>
          exact held_run free_wide rfl (by rfl) BelowR.refl fun xH w' kH hR => ⟨_, run_binO rfl (pT 0 (by kernel_rfl) (by kernel_rfl) (kH 0 (by decide))) rfl bin_gtr, (congrArg Value.bool qeo201)⟩
        intro xH w' hv hR
        subst qeo201
        have h0 : xH 0 = _ := hv 0 (by omega)
        have h1 : xH 1 = _ := hv 1 (by omega)
        simp only [List.take_succ_cons, List.take_zero, List.drop_succ_cons, List.drop_zero, putsH, Act.put, List.setIfInBounds_toArray, List.set_cons_succ, List.set_cons_zero, h0, h1]
        have OW2 := Lib.hid (OW.out.step hR)
        clear hv hR OW OZ h0 h1
        have OW := OW2
        clear OW2
        obtain ⟨g21, OZ⟩ := own_size OW HB0
        cases hB22 : (decide (35 < (k : Int)))
        case true =>
          have dhB22 := of_decide_eq_true hB22
          gi_wp2_with (first | (refine own_loadV 66 0 5 (.tmp 65) rfl rfl rfl rfl rfl (.int .u8 ((s.getD 0 0).toNat : Int)) (rawV_get _ (by rw [(show (s).length = 4 from HS.out)]; decide)) naU8 OW ?_) | (refine own_valV 67 rfl rfl rfl (.agg #[.int .i64 2, .int .i64 (k : Int), .int .u8 ((s.getD 0 0).toNat : Int)]) (run_buildO rfl (vs := #[(0, .int .i64 2), (1, .int .i64 (k : Int)), (2, .int .u8 ((s.getD 0 0).toNat : Int))]) rfl _ (by kernel_rfl)) ?_) | (refine own_storeSub 1 0 125 (.tmp 2) (.tmp 67) rfl rfl rfl rfl [.int .i64 2, .int .i64 (k : Int), .int .u8 ((s.getD 0 0).toNat : Int)] rfl (Nat.le_of_ble_eq_true rfl) rfl (by kernel_rfl) #[.int .i64 2, .int .i64 (k : Int), .int .u8 ((s.getD 0 0).toNat : Int)] rfl _ rfl OW OZ ?_; clear OW OZ; intro W OW OZ))
          refine leaves_own [] _ (Nat.le_of_eq HB0.out) (by simpa using OW.out) ?_
          intro W' hO
          exact ⟨.agg #[.int .i64 2, .int .i64 (k : Int), .int .u8 ((s.getD 0 0).toNat : Int)], results_ownRow hO 1 rfl rfl rfl Try.underlying125 rfl (by kernel_rfl), (by first | (rw [vr_nul (s := s) (by assumption)]; rfl) | (rw [locF_hi (s := co s) (i := k) (by omega) (by omega) (vr_hit (by assumption))]; rfl) | (rw [locF_lo (s := co s) (i := k) (by omega) (vr_hit (by assumption))]; rfl) | (rw [locF_lost (s := co s) (vr_not (by assumption)) HN.out]; rfl)), hO.done HB0⟩
        have dhB22 := of_decide_eq_false hB22
        gi_wp2_with (first | (refine own_loadV 70 0 5 (.tmp 69) rfl rfl rfl rfl rfl (.int .u8 ((s.getD 0 0).toNat : Int)) (rawV_get _ (by rw [(show (s).length = 4 from HS.out)]; decide)) naU8 OW ?_) | (refine own_valV 71 rfl rfl rfl (.agg #[.int .i64 1, .int .i64 (k : Int), .int .u8 ((s.getD 0 0).toNat : Int)]) (run_buildO rfl (vs := #[(0, .int .i64 1), (1, .int .i64 (k : Int)), (2, .int .u8 ((s.getD 0 0).toNat : Int))]) rfl _ (by kernel_rfl)) ?_) | (refine own_storeSub 1 0 125 (.tmp 2) (.tmp 71) rfl rfl rfl rfl [.int .i64 1, .int .i64 (k : Int), .int .u8 ((s.getD 0 0).toNat : Int)] rfl (Nat.le_of_ble_eq_true rfl) rfl (by kernel_rfl) #[.int .i64 1, .int .i64 (k : Int), .int .u8 ((s.getD 0 0).toNat : Int)] rfl _ rfl OW OZ ?_; clear OW OZ; intro W OW OZ))
        refine leaves_own [] _ (Nat.le_of_eq HB0.out) (by simpa using OW.out) ?_
        intro W' hO
        exact ⟨.agg #[.int .i64 1, .int .i64 (k : Int), .int .u8 ((s.getD 0 0).toNat : Int)], results_ownRow hO 1 rfl rfl rfl Try.underlying125 rfl (by kernel_rfl), (by first | (rw [vr_nul (s := s) (by assumption)]; rfl) | (rw [locF_hi (s := co s) (i := k) (by omega) (by omega) (vr_hit (by assumption))]; rfl) | (rw [locF_lo (s := co s) (i := k) (by omega) (vr_hit (by assumption))]; rfl) | (rw [locF_lost (s := co s) (vr_not (by assumption)) HN.out]; rfl)), hO.done HB0⟩
      gi_wp2_with fail
      refine ⟨trivial, ?_⟩
      refine (callsIn_wide.2 (rmul_any (pw 2 k) 2 _)).mono ?_
      rintro e W2 ⟨rfl, rfl⟩
      gi_wp2_with (first | (refine own_valV 30 rfl rfl rfl (.int .i64 ((k : Int) + 1)) (run_binO (vx := .int .i64 (k : Int)) (vy := .int .i64 1) rfl rfl rfl (bin_add_in (by omega) (by omega))) ?_))
      go_roundw
      case rel => ((repeat apply Exists.intro); refine ⟨?rlg6, rfl⟩; exact ⟨k + 1, by omega, rfl, by go_num, (fun i hi => by rcases Nat.lt_or_ge i k with e | e; exact HN.out i e; obtain rfl : i = k := (by omega); exact vr_hit (by assumption)), (by skip; exact OW.out)⟩)
      case measure => (simp [intOf] <;> omega)
    have dhB10 := of_decide_eq_false hB10
    obtain rfl : k = 39 := by omega
    gi_wp2_with (first | (refine own_valV 74 rfl rfl rfl (.agg #[.int .i64 3, .int .i64 (-1), .int .u8 0]) (run_buildO rfl (vs := #[(0, .int .i64 3), (1, .int .i64 (-1))]) rfl _ (by kernel_rfl)) ?_) | (refine own_storeSub 1 0 125 (.tmp 2) (.tmp 74) rfl rfl rfl rfl [.int .i64 3, .int .i64 (-1), .int .u8 0] rfl (Nat.le_of_ble_eq_true rfl) rfl (by kernel_rfl) #[.int .i64 3, .int .i64 (-1), .int .u8 0] rfl _ rfl OW OZ ?_; clear OW OZ; intro W OW OZ))
    refine leaves_own [] _ (Nat.le_of_eq HB0.out) (by simpa using OW.out) ?_
    intro W' hO
    exact ⟨.agg #[.int .i64 3, .int .i64 (-1), .int .u8 0], results_ownRow hO 1 rfl rfl rfl Try.underlying125 rfl (by kernel_rfl), (by first | (rw [vr_nul (s := s) (by assumption)]; rfl) | (rw [locF_hi (s := co s) (i := k) (by omega) (by omega) (vr_hit (by assumption))]; rfl) | (rw [locF_lo (s := co s) (i := k) (by omega) (vr_hit (by assumption))]; rfl) | (rw [locF_lost (s := co s) (vr_not (by assumption)) HN.out]; rfl)), hO.done HB0⟩
end Go.Proofs.Ytkeheickaogpiaa
