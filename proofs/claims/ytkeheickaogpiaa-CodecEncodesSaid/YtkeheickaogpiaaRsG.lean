/- Several texts in one: RsF. -/
import Derived.Test.YtkeheickaogpiaaRsR
namespace Go.Proofs.Ytkeheickaogpiaa
open Go.RowKit Go.Shelf
attribute [local go_sem] Oper.semAt_some
set_option linter.unusedVariables false
set_option linter.unusedSimpArgs false

/-- A list's first k places. -/
def upTo (n : Nat) (x : List UInt8) (k : Nat) : List UInt8 := ofF n fun i => if i < k then co x i else 0
theorem upTo_len (n : Nat) (x : List UInt8) (k : Nat) : (upTo n x k).length = n := ofF_len _ _
theorem upTo_zero (n : Nat) (x : List UInt8) : upTo n x 0 = List.replicate n 0 := ofF_zero _ _ fun i _ => if_neg (by omega)
theorem upTo_all {n : Nat} {x : List UInt8} (h : x.length = n) : upTo n x n = x := by
  unfold upTo
  rw [ofF_congr (g := co x) fun i hi => if_pos hi, ← h]
  exact ofF_co x
theorem upTo_set (n : Nat) (x : List UInt8) (k : Nat) : (upTo n x k).set k (co x k) = upTo n x (k + 1) :=
  ofF_succ_set _ _ _ _ _ fun i _ => by
    by_cases e : i = k
    · subst e; rw [if_pos (by omega), if_pos rfl]
    · rw [if_neg e]
      by_cases h : i < k
      · rw [if_pos (by omega), if_pos h]
      · rw [if_neg (by omega), if_neg h]
theorem co_left {x y : List UInt8} {i : Nat} (h : i < x.length) : co (x ++ y) i = x.getD i 0 := by
  unfold co
  rw [List.getD_eq_getElem?_getD, List.getD_eq_getElem?_getD, List.getElem?_append_left h]
theorem co_right {x y : List UInt8} {n i : Nat} (h : x.length = n) : co (x ++ y) (n + i) = y.getD i 0 := by
  unfold co
  rw [List.getD_eq_getElem?_getD, List.getD_eq_getElem?_getD, List.getElem?_append_right (by omega), ← h, Nat.add_sub_cancel_left]
set_option maxRecDepth 100000 in
set_option maxHeartbeats 1000000 in
theorem refWord_any (d v : List UInt8) (hd : d.length = 36) (hv : v.length = 3) (w : World) : Calls Try.prog 40 #[.agg (rawV d), .agg (rawV v)] w fun e w' => e = .returned (.agg (rawV (d ++ v))) ∧ Below w.heap.size w w' := by
  obtain ⟨b0, hb0⟩ : ∃ b0, w.heap.size = b0 := ⟨_, rfl⟩
  have HB0 := Lib.hid hb0
  have OW := Lib.hid (Own.start b0 w)
  have OZ := Lib.hid (And.intro hb0 (Nat.le_refl b0))
  clear hb0
  refine (callsIn_wide (n := 6)).1 ?_
  refine callsIn_of_wp_marks Try.func40 rfl trivial ?_ rfl
  simp only [Try.ntmps40, List.size_toArray, List.length_cons, List.length_nil, Nat.reduceAdd, Nat.reduceSub, Array.replicate_succ, Array.replicate_zero, List.push_toArray, List.append_toArray, List.nil_append, List.cons_append]
  gi_wp2_with (first | (refine own_boxV 2 79 (.tmp 0) rfl rfl rfl (.agg (rawV d)) rfl (rawV d) rfl OW OZ ?_; clear OW OZ; intro W g1 OW OZ) | (refine own_boxV 3 43 (.tmp 1) rfl rfl rfl (.agg (rawV v)) rfl (rawV v) rfl OW OZ ?_; clear OW OZ; intro W g2 OW OZ) | (refine own_allocV 4 81 rfl rfl rfl (rawV (List.replicate 39 0)) al39 OW OZ ?_; clear OW OZ; intro W g3 OW OZ) | (refine own_allocV 5 81 rfl rfl rfl (rawV (List.replicate 39 0)) al39 OW OZ ?_; clear OW OZ; intro W g4 OW OZ))
  gi_loopw [6] (fun z6 wr => ∃ k : Nat, k ≤ 36 ∧ z6 = .int .i64 (k : Int) ∧ Own b0 w [(b0, Obj.cells (rawV d) 79 (0, 0)), (g1, Obj.cells (rawV v) 43 (0, 0)), (g2, Obj.cells (rawV (List.replicate 39 0)) 81 (0, 0)), (g3, Obj.cells (rawV (upTo 39 (d ++ v) k)) 81 (0, 0))] wr) (fun z6 _ => 36 - (intOf z6).toNat)
  case atStart => exact ⟨0, by omega, rfl, (by rw [upTo_zero]; exact OW.out)⟩
  case round =>
    obtain ⟨k, hk6, rfl, hO⟩ := hrel
    clear OW OZ
    have OW := Lib.hid hO
    obtain ⟨g5, OZ⟩ := own_size OW HB0
    clear hO
    gi_upto_region 3 with fail
    obtain ⟨eo71, qeo71⟩ : ∃ e, (decide ((k : Int) < 36)) = e := ⟨_, rfl⟩
    refine wpIn_region_heldL 2 (atD [[], [0]]) (atV [fun vH _ => vH = .int .i64 (k : Int), fun vH _ => vH = .bool eo71]) BelowR (by kernel_rfl) BelowR.trans (BelowR.refl _)
      (StV.atV (.const _ (.const _ .nil)))
      ⟨?o7x0, ?o7x1, trivial⟩ ?_
    case o7x0 =>
      exact held_move free_wide rfl BelowR.refl (.tmp 6) (.inl rfl) fun xH w' kH _ => (pO (by kernel_rfl) rfl)
    case o7x1 =>
      exact held_run free_wide rfl (by rfl) BelowR.refl fun xH w' kH hR => ⟨_, run_binO rfl (pT 0 (by kernel_rfl) (by kernel_rfl) (kH 0 (by decide))) rfl bin_lss, (congrArg Value.bool qeo71)⟩
    intro xH w' hv hR
    subst qeo71
    have h0 : xH 0 = _ := hv 0 (by omega)
    have h1 : xH 1 = _ := hv 1 (by omega)
    simp only [List.take_succ_cons, List.take_zero, List.drop_succ_cons, List.drop_zero, putsH, Act.put, List.setIfInBounds_toArray, List.set_cons_succ, List.set_cons_zero, h0, h1]
    have OW2 := Lib.hid (OW.out.step hR)
    clear hv hR OW OZ h0 h1
    have OW := OW2
    clear OW2
    obtain ⟨g8, OZ⟩ := own_size OW HB0
    cases hB9 : (decide ((k : Int) < 36))
    case true =>
      have dhB9 := of_decide_eq_true hB9
      gi_wp2_with (first | (refine own_valV 14 rfl rfl rfl (.pointer (some ⟨b0, k, none⟩)) (run_idxO (vx := .pointer (some ⟨b0, 0, none⟩)) (vi := .int .i64 (k : Int)) rfl rfl rfl (arX36 _ k (by omega) _)) ?_) | (refine own_loadV 15 0 5 (.tmp 14) rfl rfl rfl rfl rfl (.int .u8 ((d.getD k 0).toNat : Int)) (rawV_get _ (by rw [(show (d).length = 36 from hd)]; omega)) naU8 OW ?_) | (refine own_valV 16 rfl rfl rfl (.pointer (some ⟨g3, k, none⟩)) (run_idxO (vx := .pointer (some ⟨g3, 0, none⟩)) (vi := .int .i64 (k : Int)) rfl rfl rfl (arX39 _ k (by omega) _)) ?_) | (refine own_store 3 5 (.tmp 16) (.tmp 15) rfl rfl rfl rfl (.int .u8 ((d.getD k 0).toNat : Int)) rfl (rawV ((upTo 39 (d ++ v) k).set k (d.getD k 0))) (rawV_set _ _ (d.getD k 0)) (by rw [rawV_size, (show ((upTo 39 (d ++ v) k)).length = 39 by simp only [upTo_len, List.length_set, hd, hv])]; omega) rfl szU8 _ rfl OW OZ ?_; clear OW OZ; intro W OW OZ) | (refine own_valV 11 rfl rfl rfl (.int .i64 ((k : Int) + 1)) (run_binO (vx := .int .i64 (k : Int)) (vy := .int .i64 1) rfl rfl rfl (bin_add_in (by omega) (by omega))) ?_))
      go_roundw
      case rel => exact ⟨k + 1, by omega, by go_num, (by rw [← upTo_set, co_left (by omega)]; exact OW.out)⟩
      case measure => (simp [intOf] <;> omega)
    have dhB9 := of_decide_eq_false hB9
    obtain rfl : k = 36 := by omega
    gi_wp2
    gi_loopw [7] (fun z7 wr => ∃ j : Nat, j ≤ 3 ∧ z7 = .int .i64 (j : Int) ∧ Own b0 w [(b0, Obj.cells (rawV d) 79 (0, 0)), (g1, Obj.cells (rawV v) 43 (0, 0)), (g2, Obj.cells (rawV (List.replicate 39 0)) 81 (0, 0)), (g3, Obj.cells (rawV (upTo 39 (d ++ v) (36 + j))) 81 (0, 0))] wr) (fun z7 _ => 3 - (intOf z7).toNat)
    case atStart => exact ⟨0, by omega, rfl, (by skip; exact OW.out)⟩
    case round =>
      obtain ⟨j, hk11, rfl, hO⟩ := hrel
      clear OW OZ
      have OW := Lib.hid hO
      obtain ⟨g10, OZ⟩ := own_size OW HB0
      clear hO
      gi_upto_region 7 with fail
      obtain ⟨eo121, qeo121⟩ : ∃ e, (decide ((j : Int) < 3)) = e := ⟨_, rfl⟩
      refine wpIn_region_heldL 2 (atD [[], [0]]) (atV [fun vH _ => vH = .int .i64 (j : Int), fun vH _ => vH = .bool eo121]) BelowR (by kernel_rfl) BelowR.trans (BelowR.refl _)
        (StV.atV (.const _ (.const _ .nil)))
        ⟨?o12x0, ?o12x1, trivial⟩ ?_
      case o12x0 =>
        exact held_move free_wide rfl BelowR.refl (.tmp 7) (.inl rfl) fun xH w' kH _ => (pO (by kernel_rfl) rfl)
      case o12x1 =>
        exact held_run free_wide rfl (by rfl) BelowR.refl fun xH w' kH hR => ⟨_, run_binO rfl (pT 0 (by kernel_rfl) (by kernel_rfl) (kH 0 (by decide))) rfl bin_lss, (congrArg Value.bool qeo121)⟩
      intro xH w' hv hR
      subst qeo121
      have h0 : xH 0 = _ := hv 0 (by omega)
      have h1 : xH 1 = _ := hv 1 (by omega)
      simp only [List.take_succ_cons, List.take_zero, List.drop_succ_cons, List.drop_zero, putsH, Act.put, List.setIfInBounds_toArray, List.set_cons_succ, List.set_cons_zero, h0, h1]
      have OW2 := Lib.hid (OW.out.step hR)
      clear hv hR OW OZ h0 h1
      have OW := OW2
      clear OW2
      obtain ⟨g13, OZ⟩ := own_size OW HB0
      cases hB14 : (decide ((j : Int) < 3))
      case true =>
        have dhB14 := of_decide_eq_true hB14
        gi_wp2_with (first | (refine own_valV 22 rfl rfl rfl (.int .i64 (36 + (j : Int))) (run_binO (vx := .int .i64 36) (vy := .int .i64 (j : Int)) rfl rfl rfl (bin_add_in (by omega) (by omega))) ?_) | (refine own_valV 24 rfl rfl rfl (.pointer (some ⟨g1, j, none⟩)) (run_idxO (vx := .pointer (some ⟨g1, 0, none⟩)) (vi := .int .i64 (j : Int)) rfl rfl rfl (arX3 _ j (by omega) _)) ?_) | (refine own_loadV 25 1 5 (.tmp 24) rfl rfl rfl rfl rfl (.int .u8 ((v.getD j 0).toNat : Int)) (rawV_get _ (by rw [(show (v).length = 3 from hv)]; omega)) naU8 OW ?_) | (refine own_valV 26 rfl rfl rfl (.pointer (some ⟨g3, 36 + j, none⟩)) (run_idxO (vx := .pointer (some ⟨g3, 0, none⟩)) (vi := .int .i64 (36 + (j : Int))) rfl rfl rfl (arX39 _ (36 + j) (by omega) _)) ?_) | (refine own_store 3 5 (.tmp 26) (.tmp 25) rfl rfl rfl rfl (.int .u8 ((v.getD j 0).toNat : Int)) rfl (rawV ((upTo 39 (d ++ v) (36 + j)).set (36 + j) (v.getD j 0))) (rawV_set _ _ (v.getD j 0)) (by rw [rawV_size, (show ((upTo 39 (d ++ v) (36 + j))).length = 39 by simp only [upTo_len, List.length_set, hd, hv])]; omega) rfl szU8 _ rfl OW OZ ?_; clear OW OZ; intro W OW OZ) | (refine own_valV 20 rfl rfl rfl (.int .i64 ((j : Int) + 1)) (run_binO (vx := .int .i64 (j : Int)) (vy := .int .i64 1) rfl rfl rfl (bin_add_in (by omega) (by omega))) ?_))
        go_roundw
        case rel => exact ⟨j + 1, by omega, by go_num, (by rw [← Nat.add_assoc, ← upTo_set, co_right hd]; exact OW.out)⟩
        case measure => (simp [intOf] <;> omega)
      have dhB14 := of_decide_eq_false hB14
      obtain rfl : j = 3 := by omega
      gi_wp2_with (first | (refine own_loadRowV 27 3 81 (.tmp 5) rfl rfl rfl rfl rfl _ Try.underlying81 rfl (arJ39 (show ((upTo 39 (d ++ v) (36 + (3 : Nat)))).length = 39 by simp only [upTo_len, List.length_set, hd, hv])) OW ?_) | (refine own_storeRow 2 81 (.tmp 4) (.tmp 27) rfl rfl rfl rfl (rawV (upTo 39 (d ++ v) (36 + (3 : Nat)))) rfl (by rw [rawV_size, rawV_size, (show ((upTo 39 (d ++ v) (36 + (3 : Nat)))).length = 39 by simp only [upTo_len, List.length_set, hd, hv]), (show ((List.replicate 39 0) : List UInt8).length = 39 from List.length_replicate)]) (rawV_one _) (arJ39 (show ((upTo 39 (d ++ v) (36 + (3 : Nat)))).length = 39 by simp only [upTo_len, List.length_set, hd, hv])) _ rfl OW OZ ?_; clear OW OZ; intro W OW OZ))
      refine leaves_own [] _ (Nat.le_of_eq HB0.out) (by simpa using OW.out) ?_
      intro W' hO
      exact ⟨.agg (rawV (upTo 39 (d ++ v) (36 + (3 : Nat)))), results_ownRow hO 2 rfl rfl rfl Try.underlying81 rfl (arJ39 (show ((upTo 39 (d ++ v) (36 + (3 : Nat)))).length = 39 by simp only [upTo_len, List.length_set, hd, hv])), (by rw [show 36 + 3 = 39 from rfl, upTo_all (by simp only [List.length_append, hd, hv])]), hO.done HB0⟩
/-- The sum's first k places. -/
def evK (u : List UInt8) (x : UInt8) (k : Nat) : UInt8 := xs k fun i => gm (co u i) (pw x i)
theorem evK_all {u : List UInt8} (x : UInt8) (h : u.length = 39) : evK u x 39 = evalL u x := by
  unfold evalL; rw [h]; rfl

set_option maxRecDepth 100000 in
set_option maxHeartbeats 1000000 in
theorem refValue_any (u : List UInt8) (x : UInt8) (hu : u.length = 39) (w : World) : Calls Try.prog 64 #[.agg (rawV u), .int .u8 (x.toNat : Int)] w fun e w' => e = .returned (.int .u8 ((evalL u x).toNat : Int)) ∧ Below w.heap.size w w' := by
  obtain ⟨b0, hb0⟩ : ∃ b0, w.heap.size = b0 := ⟨_, rfl⟩
  have HB0 := Lib.hid hb0
  have OW := Lib.hid (Own.start b0 w)
  have OZ := Lib.hid (And.intro hb0 (Nat.le_refl b0))
  clear hb0
  refine (callsIn_wide (n := 6)).1 ?_
  refine callsIn_of_wp_marks Try.func64 rfl trivial ?_ rfl
  simp only [Try.ntmps64, List.size_toArray, List.length_cons, List.length_nil, Nat.reduceAdd, Nat.reduceSub, Array.replicate_succ, Array.replicate_zero, List.push_toArray, List.append_toArray, List.nil_append, List.cons_append]
  gi_wp2_with (first | (refine own_boxV 2 81 (.tmp 0) rfl rfl rfl (.agg (rawV u)) rfl (rawV u) rfl OW OZ ?_; clear OW OZ; intro W g1 OW OZ))
  gi_loopw [5, 6, 7] (fun z5 z6 z7 wr => ∃ k : Nat, k ≤ 39 ∧ z5 = .int .u8 ((evK u x k).toNat : Int) ∧ z6 = .int .u8 ((pw x k).toNat : Int) ∧ z7 = .int .i64 (k : Int) ∧ Own b0 w [(b0, Obj.cells (rawV u) 81 (0, 0))] wr) (fun z5 z6 z7 _ => 39 - (intOf z7).toNat)
  case atStart => exact ⟨0, by omega, rfl, rfl, rfl, (by skip; exact OW.out)⟩
  case round =>
    obtain ⟨k, hk3, rfl, rfl, rfl, hO⟩ := hrel
    clear OW OZ
    have OW := Lib.hid hO
    obtain ⟨g2, OZ⟩ := own_size OW HB0
    clear hO
    gi_upto_region 4 with fail
    obtain ⟨eo41, qeo41⟩ : ∃ e, (decide ((k : Int) < 39)) = e := ⟨_, rfl⟩
    refine wpIn_region_heldL 2 (atD [[], [0]]) (atV [fun vH _ => vH = .int .i64 (k : Int), fun vH _ => vH = .bool eo41]) BelowR (by kernel_rfl) BelowR.trans (BelowR.refl _)
      (StV.atV (.const _ (.const _ .nil)))
      ⟨?o4x0, ?o4x1, trivial⟩ ?_
    case o4x0 =>
      exact held_move free_wide rfl BelowR.refl (.tmp 7) (.inl rfl) fun xH w' kH _ => (pO (by kernel_rfl) rfl)
    case o4x1 =>
      exact held_run free_wide rfl (by rfl) BelowR.refl fun xH w' kH hR => ⟨_, run_binO rfl (pT 0 (by kernel_rfl) (by kernel_rfl) (kH 0 (by decide))) rfl bin_lss, (congrArg Value.bool qeo41)⟩
    intro xH w' hv hR
    subst qeo41
    have h0 : xH 0 = _ := hv 0 (by omega)
    have h1 : xH 1 = _ := hv 1 (by omega)
    simp only [List.take_succ_cons, List.take_zero, List.drop_succ_cons, List.drop_zero, putsH, Act.put, List.setIfInBounds_toArray, List.set_cons_succ, List.set_cons_zero, h0, h1]
    have OW2 := Lib.hid (OW.out.step hR)
    clear hv hR OW OZ h0 h1
    have OW := OW2
    clear OW2
    obtain ⟨g5, OZ⟩ := own_size OW HB0
    cases hB6 : (decide ((k : Int) < 39))
    case true =>
      have dhB6 := of_decide_eq_true hB6
      gi_wp2_with (first | (refine own_valV 14 rfl rfl rfl (.pointer (some ⟨b0, k, none⟩)) (run_idxO (vx := .pointer (some ⟨b0, 0, none⟩)) (vi := .int .i64 (k : Int)) rfl rfl rfl (arX39 _ k (by omega) _)) ?_) | (refine own_loadV 15 0 5 (.tmp 14) rfl rfl rfl rfl rfl (.int .u8 ((u.getD k 0).toNat : Int)) (rawV_get _ (by rw [(show (u).length = 39 from hu)]; omega)) naU8 OW ?_))
      refine ⟨trivial, ?_⟩
      refine (callsIn_wide.2 (rmul_any (u.getD k 0) (pw x k) _)).mono ?_
      rintro e W2 ⟨rfl, rfl⟩
      gi_wp2_with (first | (refine own_valV 18 rfl rfl rfl (.int .u8 (((evK u x k) ^^^ (gm (u.getD k 0) (pw x k))).toNat : Int)) (run_binO (vx := .int .u8 ((evK u x k).toNat : Int)) (vy := .int .u8 ((gm (u.getD k 0) (pw x k)).toNat : Int)) rfl rfl rfl (bin_xor8)) ?_))
      refine ⟨trivial, ?_⟩
      refine (callsIn_wide.2 (rmul_any (pw x k) x _)).mono ?_
      rintro e W2 ⟨rfl, rfl⟩
      gi_wp2_with (first | (refine own_valV 11 rfl rfl rfl (.int .i64 ((k : Int) + 1)) (run_binO (vx := .int .i64 (k : Int)) (vy := .int .i64 1) rfl rfl rfl (bin_add_in (by omega) (by omega))) ?_))
      go_roundw
      case rel => exact ⟨k + 1, by omega, rfl, rfl, by go_num, (by skip; exact OW.out)⟩
      case measure => (simp [intOf] <;> omega)
    have dhB6 := of_decide_eq_false hB6
    obtain rfl : k = 39 := by omega
    gi_upto_region 8 with fail
    refine wpIn_region_heldL 2 (atD [[], [0]]) (atV [fun vH _ => vH = .int .u8 ((evK u x (39 : Nat)).toNat : Int), fun vH _ => vH = .int .u8 ((evK u x (39 : Nat)).toNat : Int)]) BelowR (by kernel_rfl) BelowR.trans (BelowR.refl _)
      (StV.atV (.const _ (.const _ .nil)))
      ⟨?o7x0, ?o7x1, trivial⟩ ?_
    case o7x0 =>
      exact held_move free_wide rfl BelowR.refl (.tmp 5) (.inl rfl) fun xH w' kH _ => (pO (by kernel_rfl) rfl)
    case o7x1 =>
      exact held_move free_wide rfl BelowR.refl (.tmp 22) (.inr rfl) fun xH w' kH _ => (pT 0 (by kernel_rfl) (by kernel_rfl) (kH 0 (by decide)))
    intro xH w' hv hR
    have h0 : xH 0 = _ := hv 0 (by omega)
    have h1 : xH 1 = _ := hv 1 (by omega)
    simp only [List.take_succ_cons, List.take_zero, List.drop_succ_cons, List.drop_zero, putsH, Act.put, List.setIfInBounds_toArray, List.set_cons_succ, List.set_cons_zero, h0, h1]
    have OW2 := Lib.hid (OW.out.step hR)
    clear hv hR OW OZ h0 h1
    have OW := OW2
    clear OW2
    obtain ⟨g8, OZ⟩ := own_size OW HB0
    gi_wp2
    refine leaves_own [] _ (Nat.le_of_eq HB0.out) (by simpa using OW.out) ?_
    intro W' hO
    exact ⟨.int .u8 ((evK u x (39 : Nat)).toNat : Int), by simp [results, Try.results64, go_sem], (by rw [← evK_all x hu]), hO.done HB0⟩
set_option maxRecDepth 100000 in
set_option maxHeartbeats 1000000 in
theorem refValues_any (u : List UInt8) (hu : u.length = 39) (w : World) : Calls Try.prog 39 #[.agg (rawV u)] w fun e w' => e = .returned (.agg (rawV [evalL u 1, evalL u 2, evalL u 4, evalL u 8])) ∧ Below w.heap.size w w' := by
  obtain ⟨b0, hb0⟩ : ∃ b0, w.heap.size = b0 := ⟨_, rfl⟩
  have HB0 := Lib.hid hb0
  have OW := Lib.hid (Own.start b0 w)
  have OZ := Lib.hid (And.intro hb0 (Nat.le_refl b0))
  clear hb0
  refine (callsIn_wide (n := 6)).1 ?_
  refine callsIn_of_wp_marks Try.func39 rfl trivial ?_ rfl
  simp only [Try.ntmps39, List.size_toArray, List.length_cons, List.length_nil, Nat.reduceAdd, Nat.reduceSub, Array.replicate_succ, Array.replicate_zero, List.push_toArray, List.append_toArray, List.nil_append, List.cons_append]
  gi_upto_region 1 with (first | (refine own_boxV 1 81 (.tmp 0) rfl rfl rfl (.agg (rawV u)) rfl (rawV u) rfl OW OZ ?_; clear OW OZ; intro W g1 OW OZ) | (refine own_allocV 2 68 rfl rfl rfl (rawV (List.replicate 4 0)) al4 OW OZ ?_; clear OW OZ; intro W g2 OW OZ))
  refine wpIn_region_held 9 (atD [[], [0], [], [2], [], [4], [], [6], [1, 3, 5, 7]]) (atV [fun vH _ => vH = .agg (rawV u), fun vH _ => vH = .int .u8 ((evalL u 1).toNat : Int), fun vH _ => vH = .agg (rawV u), fun vH _ => vH = .int .u8 ((evalL u 2).toNat : Int), fun vH _ => vH = .agg (rawV u), fun vH _ => vH = .int .u8 ((evalL u 4).toNat : Int), fun vH _ => vH = .agg (rawV u), fun vH _ => vH = .int .u8 ((evalL u 8).toNat : Int), fun vH _ => vH = .agg (rawV [(evalL u 1), (evalL u 2), (evalL u 4), (evalL u 8)])]) BelowR (by kernel_rfl) (by kernel_rfl) BelowR.trans (BelowR.drew _)
    (StV.atV (.const _ (.const _ (.const _ (.const _ (.const _ (.const _ (.const _ (.const _ (.const _ .nil))))))))))
    ⟨?o3x0, ?o3x1, ?o3x2, ?o3x3, ?o3x4, ?o3x5, ?o3x6, ?o3x7, ?o3x8, trivial⟩ ?_
  case o3x0 =>
    exact held_load free_wide rfl BelowR.refl 81 (.tmp 1) rfl fun xH w' kH hR => ⟨_, _, (pO (by kernel_rfl) rfl), ldR OW hR 0 rfl Try.underlying81 rfl (arJ39 (show (u).length = 39 from hu)), rfl⟩
  case o3x1 =>
    refine held_call free_wide rfl 64 _ _ rfl (enters_of Try.func64 (by kernel_rfl) rfl) fun xH w' kH hR => ⟨_, mapE2 (pT 0 (by kernel_rfl) (by kernel_rfl) (kH 0 (by decide))) rfl, ?_⟩
    refine (callsIn_wide.2 ((refValue_any) u 1 (hu) _)).mono ?_
    rintro e w2 ⟨rfl, h2⟩
    exact ⟨_, rfl, rfl, h2⟩
  case o3x2 =>
    exact held_load free_wide rfl BelowR.refl 81 (.tmp 1) rfl fun xH w' kH hR => ⟨_, _, (pO (by kernel_rfl) rfl), ldR OW hR 0 rfl Try.underlying81 rfl (arJ39 (show (u).length = 39 from hu)), rfl⟩
  case o3x3 =>
    refine held_call free_wide rfl 64 _ _ rfl (enters_of Try.func64 (by kernel_rfl) rfl) fun xH w' kH hR => ⟨_, mapE2 (pT 2 (by kernel_rfl) (by kernel_rfl) (kH 2 (by decide))) rfl, ?_⟩
    refine (callsIn_wide.2 ((refValue_any) u 2 (hu) _)).mono ?_
    rintro e w2 ⟨rfl, h2⟩
    exact ⟨_, rfl, rfl, h2⟩
  case o3x4 =>
    exact held_load free_wide rfl BelowR.refl 81 (.tmp 1) rfl fun xH w' kH hR => ⟨_, _, (pO (by kernel_rfl) rfl), ldR OW hR 0 rfl Try.underlying81 rfl (arJ39 (show (u).length = 39 from hu)), rfl⟩
  case o3x5 =>
    refine held_call free_wide rfl 64 _ _ rfl (enters_of Try.func64 (by kernel_rfl) rfl) fun xH w' kH hR => ⟨_, mapE2 (pT 4 (by kernel_rfl) (by kernel_rfl) (kH 4 (by decide))) rfl, ?_⟩
    refine (callsIn_wide.2 ((refValue_any) u 4 (hu) _)).mono ?_
    rintro e w2 ⟨rfl, h2⟩
    exact ⟨_, rfl, rfl, h2⟩
  case o3x6 =>
    exact held_load free_wide rfl BelowR.refl 81 (.tmp 1) rfl fun xH w' kH hR => ⟨_, _, (pO (by kernel_rfl) rfl), ldR OW hR 0 rfl Try.underlying81 rfl (arJ39 (show (u).length = 39 from hu)), rfl⟩
  case o3x7 =>
    refine held_call free_wide rfl 64 _ _ rfl (enters_of Try.func64 (by kernel_rfl) rfl) fun xH w' kH hR => ⟨_, mapE2 (pT 6 (by kernel_rfl) (by kernel_rfl) (kH 6 (by decide))) rfl, ?_⟩
    refine (callsIn_wide.2 ((refValue_any) u 8 (hu) _)).mono ?_
    rintro e w2 ⟨rfl, h2⟩
    exact ⟨_, rfl, rfl, h2⟩
  case o3x8 =>
    exact held_run free_wide rfl (by rfl) BelowR.refl fun xH w' kH hR => ⟨_, run_buildO rfl (mapB4 (pT 1 (by kernel_rfl) (by kernel_rfl) (kH 1 (by decide))) (pT 3 (by kernel_rfl) (by kernel_rfl) (kH 3 (by decide))) (pT 5 (by kernel_rfl) (by kernel_rfl) (kH 5 (by decide))) (pT 7 (by kernel_rfl) (by kernel_rfl) (kH 7 (by decide)))) _ (by kernel_rfl), rfl⟩
  intro xH w' hv hR
  have h0 : xH 0 = _ := hv 0 (by omega)
  have h1 : xH 1 = _ := hv 1 (by omega)
  have h2 : xH 2 = _ := hv 2 (by omega)
  have h3 : xH 3 = _ := hv 3 (by omega)
  have h4 : xH 4 = _ := hv 4 (by omega)
  have h5 : xH 5 = _ := hv 5 (by omega)
  have h6 : xH 6 = _ := hv 6 (by omega)
  have h7 : xH 7 = _ := hv 7 (by omega)
  have h8 : xH 8 = _ := hv 8 (by omega)
  simp only [List.take_succ_cons, List.take_zero, List.drop_succ_cons, List.drop_zero, putsH, Act.put, List.setIfInBounds_toArray, List.set_cons_succ, List.set_cons_zero, h0, h1, h2, h3, h4, h5, h6, h7, h8]
  have OW2 := Lib.hid (OW.out.step hR)
  clear hv hR OW OZ h0 h1 h2 h3 h4 h5 h6 h7 h8
  have OW := OW2
  clear OW2
  obtain ⟨g4, OZ⟩ := own_size OW HB0
  gi_wp2_with (first | (refine own_storeRow 1 68 (.tmp 2) (.tmp 11) rfl rfl rfl rfl (rawV [(evalL u 1), (evalL u 2), (evalL u 4), (evalL u 8)]) rfl (by rw [rawV_size, rawV_size, (show ([(evalL u 1), (evalL u 2), (evalL u 4), (evalL u 8)] : List UInt8).length = 4 from rfl), (show ((List.replicate 4 0) : List UInt8).length = 4 from List.length_replicate)]) (rawV_one _) (arJ4 (show ([(evalL u 1), (evalL u 2), (evalL u 4), (evalL u 8)] : List UInt8).length = 4 from rfl)) _ rfl OW OZ ?_; clear OW OZ; intro W OW OZ))
  refine leaves_own [] _ (Nat.le_of_eq HB0.out) (by simpa using OW.out) ?_
  intro W' hO
  exact ⟨.agg (rawV [(evalL u 1), (evalL u 2), (evalL u 4), (evalL u 8)]), results_ownRow hO 1 rfl rfl rfl Try.underlying68 rfl (arJ4 (show ([(evalL u 1), (evalL u 2), (evalL u 4), (evalL u 8)] : List UInt8).length = 4 from rfl)), rfl, hO.done HB0⟩
end Go.Proofs.Ytkeheickaogpiaa
