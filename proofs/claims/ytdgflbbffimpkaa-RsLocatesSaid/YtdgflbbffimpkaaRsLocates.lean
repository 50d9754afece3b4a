/- The statement RsLocates: its walk. -/
import Derived.Test.YtdgflbbffimpkaaRsT
import Derived.Test.YtdgflbbffimpkaaArrO
namespace Go.Proofs.Ytdgflbbffimpkaa
open Go.RowKit Go.Shelf
attribute [local go_sem] Oper.semAt_some
set_option linter.unusedVariables false
set_option linter.unusedSimpArgs false

theorem getD_drop8 (l : List UInt8) (n j : Nat) : (l.drop n).getD j 0 = l.getD (n + j) 0 := by
  rw [List.getD_eq_getElem?_getD, List.getD_eq_getElem?_getD, List.getElem?_drop]
theorem dec_t {u v : List UInt8} (h : (((locF (co (synL u v))).kind : Int) == 1) = true) (j : Nat) : (decL u v).getD j 0 = (u.set (locF (co (synL u v))).place.toNat ((u.getD (locF (co (synL u v))).place.toNat 0) ^^^ (locF (co (synL u v))).val)).getD (4 + j) 0 := by
  unfold decL; rw [h, cond_true, getD_drop8]
theorem dec_f {u v : List UInt8} (h : (((locF (co (synL u v))).kind : Int) == 1) = false) (j : Nat) : (decL u v).getD j 0 = u.getD (4 + j) 0 := by
  unfold decL; rw [h, cond_false, getD_drop8]
theorem neU {p q : UInt8} (e : p = q) (x y : Operand) (w : World) : (do eqGuard .neq 5 x y (.int .u8 (p.toNat : Int)) (.int .u8 (q.toNat : Int)); Go.binOp .neq 5 (.int .u8 (p.toNat : Int)) (.int .u8 (q.toNat : Int)) : Sem Value).run Try.prog w = .ok (.bool false) w := by
  subst e
  rw [bin_neq]; simp
attribute [local irreducible] decL wordL synL locF chkL gm

set_option maxRecDepth 100000 in
set_option maxHeartbeats 1000000 in
theorem RsLocates_any (s u v : List UInt8) (hs : s.length = 4) (hu : u.length = 36) (hv : v.length = 3) (w : World) : Calls Try.prog 3 #[.agg (rawV s), .agg (rawV u), .agg (rawV v)] w fun e w' => e = .returned (.bool true) ∧ Below w.heap.size w w' := by
  obtain ⟨b0, hb0⟩ : ∃ b0, w.heap.size = b0 := ⟨_, rfl⟩
  have HB0 := Lib.hid hb0
  have OW := Lib.hid (Own.start b0 w)
  have OZ := Lib.hid (And.intro hb0 (Nat.le_refl b0))
  clear hb0
  have HS := Lib.hid hs
  have HU := Lib.hid hu
  have HV := Lib.hid hv
  clear hs hu hv
  refine (callsIn_wide (n := 6)).1 ?_
  refine callsIn_of_wp_marks Try.func3 rfl trivial ?_ rfl
  simp only [Try.ntmps3, List.size_toArray, List.length_cons, List.length_nil, Nat.reduceAdd, Nat.reduceSub, Array.replicate_succ, Array.replicate_zero, List.push_toArray, List.append_toArray, List.nil_append, List.cons_append]
  gi_upto_region 1 with (first | (refine onlyD 3 rfl ?_; refine own_boxV 3 22 (.tmp 0) rfl rfl rfl (.agg (rawV s)) rfl (rawV s) rfl OW OZ ?_; clear OW OZ; intro W g1 OW OZ; simp only [Act.put, List.setIfInBounds_toArray, List.set_cons_succ, List.set_cons_zero]) | (refine onlyD 4 rfl ?_; refine own_boxV 4 23 (.tmp 1) rfl rfl rfl (.agg (rawV u)) rfl (rawV u) rfl OW OZ ?_; clear OW OZ; intro W g2 OW OZ; simp only [Act.put, List.setIfInBounds_toArray, List.set_cons_succ, List.set_cons_zero]) | (refine onlyD 5 rfl ?_; refine own_boxV 5 24 (.tmp 2) rfl rfl rfl (.agg (rawV v)) rfl (rawV v) rfl OW OZ ?_; clear OW OZ; intro W g3 OW OZ; simp only [Act.put, List.setIfInBounds_toArray, List.set_cons_succ, List.set_cons_zero]))
  gi_wp2_with fail
  refine ⟨trivial, ?_⟩
  refine (callsIn_wide.2 (coded_any _)).mono ?_
  rintro e Wg ⟨cb, fb, gb, rest, rfl, hO⟩
  have OW1 := Lib.hid (Own.join OW.out (by rw [OZ.out.1]; exact OZ.out.2) hO)
  clear OW OZ hO
  have OW := OW1
  clear OW1
  obtain ⟨grg4, OZ⟩ := own_size OW HB0
  have HCODE := Lib.hid (fun (L : Objs) (V : World) (h : Own b0 w L V) (h1 : L[3]? = some (fb, Obj.cells fieldCells 68 (0, 0))) (h2 : L[4]? = some (gb, Obj.cells (rowV genL rest) 5 (0, 0))) (h3 : L[5]? = some (cb, Obj.cells #[.pointer (some ⟨fb, 0, none⟩), .slice (some ⟨gb, 0, none⟩) 5 (5 + rest.length)] 59 (0, 0))) => CodeAt.mk3 h h1 h2 h3)
  gi_upto_region 2 with fail
  refine wpIn_region_heldL 2 (atD [[], [0]]) (atV [fun vH _ => vH = .pointer (some ⟨cb, 0, none⟩), fun vH _ => vH = .bool false]) BelowR (by kernel_rfl) BelowR.trans (BelowR.refl _)
    (StV.atV (.const _ (.const _ .nil)))
    ⟨?o5x0, ?o5x1, trivial⟩ ?_
  case o5x0 =>
    exact held_move free_wide rfl BelowR.refl (.tmp 7) (.inl rfl) fun xH w' kH _ => (pO (by kernel_rfl) rfl)
  case o5x1 =>
    exact held_run free_wide rfl (by rfl) BelowR.refl fun xH w' kH hR => ⟨_, run_binO rfl (pT 0 (by kernel_rfl) (by kernel_rfl) (kH 0 (by decide))) rfl (by kernel_rfl), rfl⟩
  intro xH w' hv hR
  have h0 : xH 0 = _ := hv 0 (by omega)
  have h1 : xH 1 = _ := hv 1 (by omega)
  simp only [List.take_succ_cons, List.take_zero, List.drop_succ_cons, List.drop_zero, putsH, Act.put, List.setIfInBounds_toArray, List.set_cons_succ, List.set_cons_zero, h0, h1]
  have OW2 := Lib.hid (OW.out.step hR)
  clear hv hR OW OZ h0 h1
  have OW := OW2
  clear OW2
  obtain ⟨g6, OZ⟩ := own_size OW HB0
  gi_wp2_with (first | (refine onlyD 16 rfl ?_; refine own_loadRowV 16 0 22 (.tmp 3) rfl rfl rfl rfl rfl _ Try.underlying22 rfl (arJ4 (show (s).length = 4 from HS.out)) OW ?_; simp only [Act.put, List.setIfInBounds_toArray, List.set_cons_succ, List.set_cons_zero]))
  refine ⟨trivial, ?_⟩
  refine (callsIn_wide.2 (refLocate_any s (HS.out) _)).mono ?_
  rintro e Wg7 ⟨rfl, hbw⟩
  obtain ⟨g7, OW2, OZ2⟩ := own_call OW OZ hbw
  clear hbw OW OZ
  have OW := OW2
  have OZ := OZ2
  clear OW2 OZ2
  gi_upto_region 5 with (first | (refine onlyD 8 rfl ?_; refine own_allocV 8 28 rfl rfl rfl #[.int .i64 0, .int .i64 0, .int .u8 0] (fun _ => by kernel_rfl) OW OZ ?_; clear OW OZ; intro W g8 OW OZ; simp only [Act.put, List.setIfInBounds_toArray, List.set_cons_succ, List.set_cons_zero]) | (refine onlyO (.store 28 (.tmp 8) (.tmp 17)) rfl ?_; refine own_storeSub 6 0 28 (.tmp 8) (.tmp 17) rfl rfl rfl rfl [.int .i64 ((locF (co s)).kind : Int), .int .i64 (locF (co s)).place, .int .u8 ((locF (co s)).val.toNat : Int)] rfl (Nat.le_of_ble_eq_true rfl) rfl (by kernel_rfl) #[.int .i64 ((locF (co s)).kind : Int), .int .i64 (locF (co s)).place, .int .u8 ((locF (co s)).val.toNat : Int)] rfl _ rfl OW OZ ?_; clear OW OZ; intro W OW OZ; simp only [Act.put, List.setIfInBounds_toArray, List.set_cons_succ, List.set_cons_zero]))
  refine wpIn_region_held 11 (atD [[], [], [0, 1], [], [3], [], [5], [], [7], [4, 6, 8], [2, 9]]) (atV [fun vH _ => vH = .pointer (some ⟨cb, 0, none⟩), fun vH _ => vH = .agg (rawV s), fun vH _ => vH = .agg #[.int .i64 ((locF (co s)).kind : Int), .int .i64 (locF (co s)).place, .int .u8 ((locF (co s)).val.toNat : Int)], fun vH _ => vH = .pointer (some ⟨g7, 0, none⟩), fun vH _ => vH = .int .i64 ((locF (co s)).kind : Int), fun vH _ => vH = .pointer (some ⟨g7, 1, none⟩), fun vH _ => vH = .int .i64 (locF (co s)).place, fun vH _ => vH = .pointer (some ⟨g7, 2, none⟩), fun vH _ => vH = .int .u8 ((locF (co s)).val.toNat : Int), fun vH _ => vH = .agg #[.int .i64 ((locF (co s)).kind : Int), .int .i64 (locF (co s)).place, .int .u8 ((locF (co s)).val.toNat : Int)], fun vH _ => vH = .bool false]) BelowR (by kernel_rfl) (by kernel_rfl) BelowR.trans (BelowR.drew _)
    (StV.atV (.const _ (.const _ (.const _ (.const _ (.const _ (.const _ (.const _ (.const _ (.const _ (.const _ (.const _ .nil))))))))))))
    ⟨?o9x0, ?o9x1, ?o9x2, ?o9x3, ?o9x4, ?o9x5, ?o9x6, ?o9x7, ?o9x8, ?o9x9, ?o9x10, trivial⟩ ?_
  case o9x0 =>
    exact held_move free_wide rfl BelowR.refl (.tmp 7) (.inl rfl) fun xH w' kH _ => (pO (by kernel_rfl) rfl)
  case o9x1 =>
    exact held_load free_wide rfl BelowR.refl 22 (.tmp 3) rfl fun xH w' kH hR => ⟨_, _, (pO (by kernel_rfl) rfl), ldR OW hR 0 rfl Try.underlying22 rfl (arJ4 (show (s).length = 4 from HS.out)), rfl⟩
  case o9x2 =>
    refine held_call free_wide rfl 12 _ _ rfl (enters_of Try.func12 (by kernel_rfl) rfl) fun xH w' kH hR => ⟨_, mapE2 (pT 0 (by kernel_rfl) (by kernel_rfl) (kH 0 (by decide))) (pT 1 (by kernel_rfl) (by kernel_rfl) (kH 1 (by decide))), ?_⟩
    refine (callsIn_wide.2 (locate_any cb fb s (HS.out) _ (HCODE.out _ _ (OW.out.step hR) rfl rfl rfl))).mono ?_
    rintro e w2 ⟨rfl, h2⟩
    exact ⟨_, rfl, rfl, h2⟩
  case o9x3 =>
    exact held_run free_wide rfl (by rfl) BelowR.refl fun xH w' kH hR => ⟨_, run_fldO rfl (pO (by kernel_rfl) rfl) (by kernel_rfl), rfl⟩
  case o9x4 =>
    exact held_load free_wide rfl BelowR.refl 3 (.tmp 21) rfl fun xH w' kH hR => ⟨_, _, (pT 3 (by kernel_rfl) (by kernel_rfl) (kH 3 (by decide))), ldC OW hR 6 rfl rfl naInt, rfl⟩
  case o9x5 =>
    exact held_run free_wide rfl (by rfl) BelowR.refl fun xH w' kH hR => ⟨_, run_fldO rfl (pO (by kernel_rfl) rfl) (by kernel_rfl), rfl⟩
  case o9x6 =>
    exact held_load free_wide rfl BelowR.refl 3 (.tmp 23) rfl fun xH w' kH hR => ⟨_, _, (pT 5 (by kernel_rfl) (by kernel_rfl) (kH 5 (by decide))), ldC OW hR 6 rfl rfl naInt, rfl⟩
  case o9x7 =>
    exact held_run free_wide rfl (by rfl) BelowR.refl fun xH w' kH hR => ⟨_, run_fldO rfl (pO (by kernel_rfl) rfl) (by kernel_rfl), rfl⟩
  case o9x8 =>
    exact held_load free_wide rfl BelowR.refl 5 (.tmp 25) rfl fun xH w' kH hR => ⟨_, _, (pT 7 (by kernel_rfl) (by kernel_rfl) (kH 7 (by decide))), ldC OW hR 6 rfl rfl naU8, rfl⟩
  case o9x9 =>
    exact held_run free_wide rfl (by rfl) BelowR.refl fun xH w' kH hR => ⟨_, run_buildO rfl (mapB3 (pT 4 (by kernel_rfl) (by kernel_rfl) (kH 4 (by decide))) (pT 6 (by kernel_rfl) (by kernel_rfl) (kH 6 (by decide))) (pT 8 (by kernel_rfl) (by kernel_rfl) (kH 8 (by decide)))) _ (by kernel_rfl), rfl⟩
  case o9x10 =>
    exact held_run free_wide rfl (by rfl) BelowR.refl fun xH w' kH hR => ⟨_, run_binO rfl (pT 2 (by kernel_rfl) (by kernel_rfl) (kH 2 (by decide))) (pT 9 (by kernel_rfl) (by kernel_rfl) (kH 9 (by decide))) (neqV_self _ _ _ _ _ _), rfl⟩
  intro xH w' hv hR
  have h0 : xH 0 = _ := hv 0 (by omega)
  have h1 : xH 1 = _ := hv 1 (by omega)
  have h2 : xH 2 = _ := hv 2 (by omega)
  have h3 : xH 3 = _ := hv 3 (by omega)
  have h4 : xH 4 = _ := hv 4 (by omega)
  have h5 : xH 5 = _ := hv 5 (by omega)
  have h6 : xH 6 = _ := hv 6 (by omega)
  have h7 : xH 7 = _ := hv 7 (by omega)
  have h8 : xH 8 = _ := hv 8 (by omega)
  have h9 : xH 9 = _ := hv 9 (by omega)
  have h10 : xH 10 = _ := hv 10 (by omega)
  simp only [List.take_succ_cons, List.take_zero, List.drop_succ_cons, List.drop_zero, putsH, Act.put, List.setIfInBounds_toArray, List.set_cons_succ, List.set_cons_zero, h0, h1, h2, h3, h4, h5, h6, h7, h8, h9, h10]
  have OW2 := Lib.hid (OW.out.step hR)
  clear hv hR OW OZ h0 h1 h2 h3 h4 h5 h6 h7 h8 h9 h10
  have OW := OW2
  clear OW2
  obtain ⟨g10, OZ⟩ := own_size OW HB0
  gi_wp2_with (first | (refine onlyD 31 rfl ?_; refine own_loadRowV 31 1 23 (.tmp 4) rfl rfl rfl rfl rfl _ Try.underlying23 rfl (arJ36 (show (u).length = 36 from HU.out)) OW ?_; simp only [Act.put, List.setIfInBounds_toArray, List.set_cons_succ, List.set_cons_zero]) | (refine onlyD 32 rfl ?_; refine own_loadRowV 32 2 24 (.tmp 5) rfl rfl rfl rfl rfl _ Try.underlying24 rfl (arJ3 (show (v).length = 3 from HV.out)) OW ?_; simp only [Act.put, List.setIfInBounds_toArray, List.set_cons_succ, List.set_cons_zero]))
  refine ⟨trivial, ?_⟩
  refine (callsIn_wide.2 (decode_any cb fb u v (HU.out) (HV.out) _ (HCODE.out _ _ OW.out rfl rfl rfl))).mono ?_
  rintro e Wg11 ⟨rfl, hbw⟩
  obtain ⟨g11, OW2, OZ2⟩ := own_call OW OZ hbw
  clear hbw OW OZ
  have OW := OW2
  have OZ := OZ2
  clear OW2 OZ2
  gi_wp2_with (first | (refine onlyD 34 rfl ?_; refine own_valV 34 rfl rfl rfl (.agg (rawV (decL u v))) (run_extractO rfl rfl rfl) ?_; simp only [Act.put, List.setIfInBounds_toArray, List.set_cons_succ, List.set_cons_zero]) | (refine onlyD 35 rfl ?_; refine own_valV 35 rfl rfl rfl (.agg #[.int .i64 ((locF (co (synL u v))).kind : Int), .int .i64 (locF (co (synL u v))).place, .int .u8 ((locF (co (synL u v))).val.toNat : Int)]) (run_extractO rfl rfl rfl) ?_; simp only [Act.put, List.setIfInBounds_toArray, List.set_cons_succ, List.set_cons_zero]) | (refine onlyD 9 rfl ?_; refine own_allocV 9 32 rfl rfl rfl (rawV (List.replicate 32 0)) al32 OW OZ ?_; clear OW OZ; intro W g12 OW OZ; simp only [Act.put, List.setIfInBounds_toArray, List.set_cons_succ, List.set_cons_zero]) | (refine onlyD 10 rfl ?_; refine own_allocV 10 30 rfl rfl rfl #[.int .i64 0, .int .i64 0, .int .u8 0] (fun _ => by kernel_rfl) OW OZ ?_; clear OW OZ; intro W g13 OW OZ; simp only [Act.put, List.setIfInBounds_toArray, List.set_cons_succ, List.set_cons_zero]) | (refine onlyO (.store 32 (.tmp 9) (.tmp 34)) rfl ?_; refine own_storeRow 7 32 (.tmp 9) (.tmp 34) rfl rfl rfl rfl (rawV (decL u v)) rfl (by rw [rawV_size, rawV_size, (show ((decL u v)).length = 32 by simp only [synL_len, decL_len, List.length_set, List.length_append, Nat.reduceAdd, HS.out, HU.out, HV.out]), (show ((List.replicate 32 0) : List UInt8).length = 32 from List.length_replicate)]) (rawV_one _) (arJ32 (show ((decL u v)).length = 32 by simp only [synL_len, decL_len, List.length_set, List.length_append, Nat.reduceAdd, HS.out, HU.out, HV.out])) _ rfl OW OZ ?_; clear OW OZ; intro W OW OZ; simp only [Act.put, List.setIfInBounds_toArray, List.set_cons_succ, List.set_cons_zero]) | (refine onlyO (.store 30 (.tmp 10) (.tmp 35)) rfl ?_; refine own_storeSub 8 0 30 (.tmp 10) (.tmp 35) rfl rfl rfl rfl [.int .i64 ((locF (co (synL u v))).kind : Int), .int .i64 (locF (co (synL u v))).place, .int .u8 ((locF (co (synL u v))).val.toNat : Int)] rfl (Nat.le_of_ble_eq_true rfl) rfl (by kernel_rfl) #[.int .i64 ((locF (co (synL u v))).kind : Int), .int .i64 (locF (co (synL u v))).place, .int .u8 ((locF (co (synL u v))).val.toNat : Int)] rfl _ rfl OW OZ ?_; clear OW OZ; intro W OW OZ; simp only [Act.put, List.setIfInBounds_toArray, List.set_cons_succ, List.set_cons_zero]) | (refine onlyD 36 rfl ?_; refine own_loadRowV 36 1 23 (.tmp 4) rfl rfl rfl rfl rfl _ Try.underlying23 rfl (arJ36 (show (u).length = 36 from HU.out)) OW ?_; simp only [Act.put, List.setIfInBounds_toArray, List.set_cons_succ, List.set_cons_zero]) | (refine onlyD 37 rfl ?_; refine own_loadRowV 37 2 24 (.tmp 5) rfl rfl rfl rfl rfl _ Try.underlying24 rfl (arJ3 (show (v).length = 3 from HV.out)) OW ?_; simp only [Act.put, List.setIfInBounds_toArray, List.set_cons_succ, List.set_cons_zero]))
  refine ⟨trivial, ?_⟩
  refine (callsIn_wide.2 (refWord_any u v (HU.out) (HV.out) _)).mono ?_
  rintro e Wg14 ⟨rfl, hbw⟩
  obtain ⟨g14, OW2, OZ2⟩ := own_call OW OZ hbw
  clear hbw OW OZ
  have OW := OW2
  have OZ := OZ2
  clear OW2 OZ2
  gi_wp2_with fail
  refine ⟨trivial, ?_⟩
  refine (callsIn_wide.2 (refValuesS_any u v (by rw [List.length_append, HU.out, HV.out]) _)).mono ?_
  rintro e Wg15 ⟨rfl, hbw⟩
  obtain ⟨g15, OW2, OZ2⟩ := own_call OW OZ hbw
  clear hbw OW OZ
  have OW := OW2
  have OZ := OZ2
  clear OW2 OZ2
  gi_wp2_with fail
  refine ⟨trivial, ?_⟩
  refine (callsIn_wide.2 (refLocate_any (synL u v) (by simp only [synL_len, decL_len, List.length_set, List.length_append, Nat.reduceAdd, HS.out, HU.out, HV.out]) _)).mono ?_
  rintro e Wg16 ⟨rfl, hbw⟩
  obtain ⟨g16, OW2, OZ2⟩ := own_call OW OZ hbw
  clear hbw OW OZ
  have OW := OW2
  have OZ := OZ2
  clear OW2 OZ2
  gi_upto_region 9 with (first | (refine onlyD 11 rfl ?_; refine own_allocV 11 28 rfl rfl rfl #[.int .i64 0, .int .i64 0, .int .u8 0] (fun _ => by kernel_rfl) OW OZ ?_; clear OW OZ; intro W g17 OW OZ; simp only [Act.put, List.setIfInBounds_toArray, List.set_cons_succ, List.set_cons_zero]) | (refine onlyO (.store 28 (.tmp 11) (.tmp 40)) rfl ?_; refine own_storeSub 9 0 28 (.tmp 11) (.tmp 40) rfl rfl rfl rfl [.int .i64 ((locF (co (synL u v))).kind : Int), .int .i64 (locF (co (synL u v))).place, .int .u8 ((locF (co (synL u v))).val.toNat : Int)] rfl (Nat.le_of_ble_eq_true rfl) rfl (by kernel_rfl) #[.int .i64 ((locF (co (synL u v))).kind : Int), .int .i64 (locF (co (synL u v))).place, .int .u8 ((locF (co (synL u v))).val.toNat : Int)] rfl _ rfl OW OZ ?_; clear OW OZ; intro W OW OZ; simp only [Act.put, List.setIfInBounds_toArray, List.set_cons_succ, List.set_cons_zero]))
  obtain ⟨eo182, qeo182⟩ : ∃ e, (((locF (co (synL u v))).kind : Int) == 1) = e := ⟨_, rfl⟩
  refine wpIn_region_heldL 3 (atD [[], [0], [1]]) (atV [fun vH _ => vH = .pointer (some ⟨g16, 0, none⟩), fun vH _ => vH = .int .i64 ((locF (co (synL u v))).kind : Int), fun vH _ => vH = .bool eo182]) BelowR (by kernel_rfl) BelowR.trans (BelowR.refl _)
    (StV.atV (.const _ (.const _ (.const _ .nil))))
    ⟨?o18x0, ?o18x1, ?o18x2, trivial⟩ ?_
  case o18x0 =>
    exact held_run free_wide rfl (by rfl) BelowR.refl fun xH w' kH hR => ⟨_, run_fldO rfl (pO (by kernel_rfl) rfl) (by kernel_rfl), rfl⟩
  case o18x1 =>
    exact held_load free_wide rfl BelowR.refl 3 (.tmp 41) rfl fun xH w' kH hR => ⟨_, _, (pT 0 (by kernel_rfl) (by kernel_rfl) (kH 0 (by decide))), ldC OW hR 9 rfl rfl naInt, rfl⟩
  case o18x2 =>
    exact held_run free_wide rfl (by rfl) BelowR.refl fun xH w' kH hR => ⟨_, run_binO rfl (pT 1 (by kernel_rfl) (by kernel_rfl) (kH 1 (by decide))) rfl bin_eql, (congrArg Value.bool qeo182)⟩
  intro xH w' hv hR
  subst qeo182
  have h0 : xH 0 = _ := hv 0 (by omega)
  have h1 : xH 1 = _ := hv 1 (by omega)
  have h2 : xH 2 = _ := hv 2 (by omega)
  simp only [List.take_succ_cons, List.take_zero, List.drop_succ_cons, List.drop_zero, putsH, Act.put, List.setIfInBounds_toArray, List.set_cons_succ, List.set_cons_zero, h0, h1, h2]
  have OW2 := Lib.hid (OW.out.step hR)
  clear hv hR OW OZ h0 h1 h2
  have OW := OW2
  clear OW2
  obtain ⟨g19, OZ⟩ := own_size OW HB0
  cases hB20 : (((locF (co (synL u v))).kind : Int) == 1)
  case true =>
    gi_upto_region 10 with fail
    refine wpIn_region_held 8 (atD [[], [0], [1], [2], [], [4], [3, 5], [1]]) (atV [fun vH _ => vH = .pointer (some ⟨g16, 1, none⟩), fun vH _ => vH = .int .i64 (locF (co (synL u v))).place, fun vH _ => vH = .pointer (some ⟨g1, ((locF (co (synL u v))).place.toNat), none⟩), fun vH _ => vH = .int .u8 ((u.getD ((locF (co (synL u v))).place.toNat) 0).toNat : Int), fun vH _ => vH = .pointer (some ⟨g16, 2, none⟩), fun vH _ => vH = .int .u8 ((locF (co (synL u v))).val.toNat : Int), fun vH _ => vH = .int .u8 (((u.getD ((locF (co (synL u v))).place.toNat) 0) ^^^ (locF (co (synL u v))).val).toNat : Int), fun vH _ => vH = .pointer (some ⟨g1, ((locF (co (synL u v))).place.toNat), none⟩)]) BelowR (by kernel_rfl) (by kernel_rfl) BelowR.trans (BelowR.drew _)
      (StV.atV (.const _ (.const _ (.const _ (.const _ (.const _ (.const _ (.const _ (.const _ .nil)))))))))
      ⟨?o21x0, ?o21x1, ?o21x2, ?o21x3, ?o21x4, ?o21x5, ?o21x6, ?o21x7, trivial⟩ ?_
    case o21x0 =>
      exact held_run free_wide rfl (by rfl) BelowR.refl fun xH w' kH hR => ⟨_, run_fldO rfl (pO (by kernel_rfl) rfl) (by kernel_rfl), rfl⟩
    case o21x1 =>
      exact held_load free_wide rfl BelowR.refl 3 (.tmp 44) rfl fun xH w' kH hR => ⟨_, _, (pT 0 (by kernel_rfl) (by kernel_rfl) (kH 0 (by decide))), ldC OW hR 9 rfl rfl naInt, rfl⟩
    case o21x2 =>
      exact held_run free_wide rfl (by rfl) BelowR.refl fun xH w' kH hR => ⟨_, run_idxO (vx := .pointer (some ⟨g1, 0, none⟩)) (vi := .int .i64 (locF (co (synL u v))).place) rfl (pO (by kernel_rfl) rfl) (pT 1 (by kernel_rfl) (by kernel_rfl) (kH 1 (by decide))) (idx36 _ (by assumption) _), rfl⟩
    case o21x3 =>
      exact held_load free_wide rfl BelowR.refl 5 (.tmp 46) rfl fun xH w' kH hR => ⟨_, _, (pT 2 (by kernel_rfl) (by kernel_rfl) (kH 2 (by decide))), ldC OW hR 1 rfl (rawV_get _ (by rw [(show (u).length = 36 from HU.out)]; first | omega | exact fixed_lt (by assumption))) naU8, rfl⟩
    case o21x4 =>
      exact held_run free_wide rfl (by rfl) BelowR.refl fun xH w' kH hR => ⟨_, run_fldO rfl (pO (by kernel_rfl) rfl) (by kernel_rfl), rfl⟩
    case o21x5 =>
      exact held_load free_wide rfl BelowR.refl 5 (.tmp 48) rfl fun xH w' kH hR => ⟨_, _, (pT 4 (by kernel_rfl) (by kernel_rfl) (kH 4 (by decide))), ldC OW hR 9 rfl rfl naU8, rfl⟩
    case o21x6 =>
      exact held_run free_wide rfl (by rfl) BelowR.refl fun xH w' kH hR => ⟨_, run_binO rfl (pT 3 (by kernel_rfl) (by kernel_rfl) (kH 3 (by decide))) (pT 5 (by kernel_rfl) (by kernel_rfl) (kH 5 (by decide))) (bin_xor8), rfl⟩
    case o21x7 =>
      exact held_run free_wide rfl (by rfl) BelowR.refl fun xH w' kH hR => ⟨_, run_idxO (vx := .pointer (some ⟨g1, 0, none⟩)) (vi := .int .i64 (locF (co (synL u v))).place) rfl (pO (by kernel_rfl) rfl) (pT 1 (by kernel_rfl) (by kernel_rfl) (kH 1 (by decide))) (idx36 _ (by assumption) _), rfl⟩
    intro xH w' hv hR
    have h0 : xH 0 = _ := hv 0 (by omega)
    have h1 : xH 1 = _ := hv 1 (by omega)
    have h2 : xH 2 = _ := hv 2 (by omega)
    have h3 : xH 3 = _ := hv 3 (by omega)
    have h4 : xH 4 = _ := hv 4 (by omega)
    have h5 : xH 5 = _ := hv 5 (by omega)
    have h6 : xH 6 = _ := hv 6 (by omega)
    have h7 : xH 7 = _ := hv 7 (by omega)
    simp only [List.take_succ_cons, List.take_zero, List.drop_succ_cons, List.drop_zero, putsH, Act.put, List.setIfInBounds_toArray, List.set_cons_succ, List.set_cons_zero, h0, h1, h2, h3, h4, h5, h6, h7]
    have OW2 := Lib.hid (OW.out.step hR)
    clear hv hR OW OZ h0 h1 h2 h3 h4 h5 h6 h7
    have OW := OW2
    clear OW2
    obtain ⟨g22, OZ⟩ := own_size OW HB0
    gi_wp2_with (first | (refine onlyO (.store 5 (.tmp 51) (.tmp 50)) rfl ?_; refine own_store 1 5 (.tmp 51) (.tmp 50) rfl rfl rfl rfl (.int .u8 (((u.getD ((locF (co (synL u v))).place.toNat) 0) ^^^ (locF (co (synL u v))).val).toNat : Int)) rfl (rawV (u.set ((locF (co (synL u v))).place.toNat) ((u.getD ((locF (co (synL u v))).place.toNat) 0) ^^^ (locF (co (synL u v))).val))) (rawV_set _ _ ((u.getD ((locF (co (synL u v))).place.toNat) 0) ^^^ (locF (co (synL u v))).val)) (by rw [rawV_size, (show (u).length = 36 from HU.out)]; first | omega | exact fixed_lt (by assumption)) rfl szU8 _ rfl OW OZ ?_; clear OW OZ; intro W OW OZ; simp only [Act.put, List.setIfInBounds_toArray, List.set_cons_succ, List.set_cons_zero]))
    gi_loopw [52] (fun z52 wr => ∃ j : Nat, j ≤ 32 ∧ z52 = .int .i64 (j : Int) ∧ Own b0 w [(b0, Obj.cells (rawV s) 22 (0, 0)), (g1, Obj.cells (rawV (u.set ((locF (co (synL u v))).place.toNat) ((u.getD ((locF (co (synL u v))).place.toNat) 0) ^^^ (locF (co (synL u v))).val))) 23 (0, 0)), (g2, Obj.cells (rawV v) 24 (0, 0)), (fb, Obj.cells (fieldCells) 68 (0, 0)), (gb, Obj.cells (rowV genL rest) 5 (0, 0)), (cb, Obj.cells (#[.pointer (some ⟨fb, 0, none⟩), .slice (some ⟨gb, 0, none⟩) 5 (5 + rest.length)]) 59 (0, 0)), (g7, Obj.cells (#[.int .i64 ((locF (co s)).kind : Int), .int .i64 (locF (co s)).place, .int .u8 ((locF (co s)).val.toNat : Int)]) 28 (0, 0)), (g11, Obj.cells (rawV (decL u v)) 32 (0, 0)), (g12, Obj.cells (#[.int .i64 ((locF (co (synL u v))).kind : Int), .int .i64 (locF (co (synL u v))).place, .int .u8 ((locF (co (synL u v))).val.toNat : Int)]) 30 (0, 0)), (g16, Obj.cells (#[.int .i64 ((locF (co (synL u v))).kind : Int), .int .i64 (locF (co (synL u v))).place, .int .u8 ((locF (co (synL u v))).val.toNat : Int)]) 28 (0, 0))] wr) (fun z52 _ => 32 - (intOf z52).toNat)
    case atStart => exact ⟨0, by omega, rfl, (by skip; exact OW.out)⟩
    case round =>
      obtain ⟨j, hk24, rfl, hO⟩ := hrel
      clear OW OZ
      have OW := Lib.hid hO
      obtain ⟨g23, OZ⟩ := own_size OW HB0
      clear hO
      gi_upto_region 12 with fail
      obtain ⟨eo250, qeo250⟩ : ∃ e, (decide ((j : Int) < 32)) = e := ⟨_, rfl⟩
      refine wpIn_region_heldL 1 (atD [[]]) (atV [fun vH _ => vH = .bool eo250]) BelowR (by kernel_rfl) BelowR.trans (BelowR.refl _)
        (StV.atV (.const _ .nil))
        ⟨?o25x0, trivial⟩ ?_
      case o25x0 =>
        exact held_run free_wide rfl (by rfl) BelowR.refl fun xH w' kH hR => ⟨_, run_binO rfl (pO (by kernel_rfl) rfl) rfl bin_lss, (congrArg Value.bool qeo250)⟩
      intro xH w' hv hR
      subst qeo250
      have h0 : xH 0 = _ := hv 0 (by omega)
      simp only [List.take_succ_cons, List.take_zero, List.drop_succ_cons, List.drop_zero, putsH, Act.put, List.setIfInBounds_toArray, List.set_cons_succ, List.set_cons_zero, h0]
      have OW2 := Lib.hid (OW.out.step hR)
      clear hv hR OW OZ h0
      have OW := OW2
      clear OW2
      obtain ⟨g26, OZ⟩ := own_size OW HB0
      cases hB27 : (decide ((j : Int) < 32))
      case true =>
        have dhB27 := of_decide_eq_true hB27
        gi_upto_region 13 with fail
        refine wpIn_region_heldL 2 (atD [[], [0]]) (atV [fun vH _ => vH = .int .i64 (j : Int), fun vH _ => vH = .int .i64 (j : Int)]) BelowR (by kernel_rfl) BelowR.trans (BelowR.refl _)
          (StV.atV (.const _ (.const _ .nil)))
          ⟨?o28x0, ?o28x1, trivial⟩ ?_
        case o28x0 =>
          exact held_move free_wide rfl BelowR.refl (.tmp 52) (.inl rfl) fun xH w' kH _ => (pO (by kernel_rfl) rfl)
        case o28x1 =>
          exact held_move free_wide rfl BelowR.refl (.tmp 54) (.inr rfl) fun xH w' kH _ => (pT 0 (by kernel_rfl) (by kernel_rfl) (kH 0 (by decide)))
        intro xH w' hv hR
        have h0 : xH 0 = _ := hv 0 (by omega)
        have h1 : xH 1 = _ := hv 1 (by omega)
        simp only [List.take_succ_cons, List.take_zero, List.drop_succ_cons, List.drop_zero, putsH, Act.put, List.setIfInBounds_toArray, List.set_cons_succ, List.set_cons_zero, h0, h1]
        have OW2 := Lib.hid (OW.out.step hR)
        clear hv hR OW OZ h0 h1
        have OW := OW2
        clear OW2
        obtain ⟨g29, OZ⟩ := own_size OW HB0
        gi_upto_region 14 with fail
        refine wpIn_region_held 8 (atD [[], [0], [1], [], [3], [4], [5], [2, 6]]) (atV [fun vH _ => vH = .int .i64 (j : Int), fun vH _ => vH = .pointer (some ⟨g11, j, none⟩), fun vH _ => vH = .int .u8 (((decL u v).getD j 0).toNat : Int), fun vH _ => vH = .int .i64 (j : Int), fun vH _ => vH = .int .i64 (4 + (j : Int)), fun vH _ => vH = .pointer (some ⟨g1, 4 + j, none⟩), fun vH _ => vH = .int .u8 (((u.set ((locF (co (synL u v))).place.toNat) ((u.getD ((locF (co (synL u v))).place.toNat) 0) ^^^ (locF (co (synL u v))).val)).getD (4 + j) 0).toNat : Int), fun vH _ => vH = .bool false]) BelowR (by kernel_rfl) (by kernel_rfl) BelowR.trans (BelowR.drew _)
          (StV.atV (.const _ (.const _ (.const _ (.const _ (.const _ (.const _ (.const _ (.const _ .nil)))))))))
          ⟨?o30x0, ?o30x1, ?o30x2, ?o30x3, ?o30x4, ?o30x5, ?o30x6, ?o30x7, trivial⟩ ?_
        case o30x0 =>
          exact held_move free_wide rfl BelowR.refl (.tmp 12) (.inl rfl) fun xH w' kH _ => (pO (by kernel_rfl) rfl)
        case o30x1 =>
          exact held_run free_wide rfl (by rfl) BelowR.refl fun xH w' kH hR => ⟨_, run_idxO (vx := .pointer (some ⟨g11, 0, none⟩)) (vi := .int .i64 (j : Int)) rfl (pO (by kernel_rfl) rfl) (pT 0 (by kernel_rfl) (by kernel_rfl) (kH 0 (by decide))) (arX32 _ j (by omega) _), rfl⟩
        case o30x2 =>
          exact held_load free_wide rfl BelowR.refl 5 (.tmp 56) rfl fun xH w' kH hR => ⟨_, _, (pT 1 (by kernel_rfl) (by kernel_rfl) (kH 1 (by decide))), ldC OW hR 7 rfl (rawV_get _ (by rw [(show ((decL u v)).length = 32 by simp only [synL_len, decL_len, List.length_set, List.length_append, Nat.reduceAdd, HS.out, HU.out, HV.out])]; first | omega | exact fixed_lt (by assumption))) naU8, rfl⟩
        case o30x3 =>
          exact held_move free_wide rfl BelowR.refl (.tmp 12) (.inl rfl) fun xH w' kH _ => (pO (by kernel_rfl) rfl)
        case o30x4 =>
          exact held_run free_wide rfl (by rfl) BelowR.refl fun xH w' kH hR => ⟨_, run_binO rfl rfl (pT 3 (by kernel_rfl) (by kernel_rfl) (kH 3 (by decide))) (bin_add_in (by first | omega | exact fixed_lt (by assumption)) (by first | omega | exact fixed_lt (by assumption))), rfl⟩
        case o30x5 =>
          exact held_run free_wide rfl (by rfl) BelowR.refl fun xH w' kH hR => ⟨_, run_idxO (vx := .pointer (some ⟨g1, 0, none⟩)) (vi := .int .i64 (4 + (j : Int))) rfl (pO (by kernel_rfl) rfl) (pT 4 (by kernel_rfl) (by kernel_rfl) (kH 4 (by decide))) (arX36 _ (4 + j) (by omega) _), rfl⟩
        case o30x6 =>
          exact held_load free_wide rfl BelowR.refl 5 (.tmp 60) rfl fun xH w' kH hR => ⟨_, _, (pT 5 (by kernel_rfl) (by kernel_rfl) (kH 5 (by decide))), ldC OW hR 1 rfl (rawV_get _ (by rw [(show ((u.set ((locF (co (synL u v))).place.toNat) ((u.getD ((locF (co (synL u v))).place.toNat) 0) ^^^ (locF (co (synL u v))).val))).length = 36 by simp only [synL_len, decL_len, List.length_set, List.length_append, Nat.reduceAdd, HS.out, HU.out, HV.out])]; first | omega | exact fixed_lt (by assumption))) naU8, rfl⟩
        case o30x7 =>
          exact held_run free_wide rfl (by rfl) BelowR.refl fun xH w' kH hR => ⟨_, run_binO rfl (pT 2 (by kernel_rfl) (by kernel_rfl) (kH 2 (by decide))) (pT 6 (by kernel_rfl) (by kernel_rfl) (kH 6 (by decide))) (by first | exact neU (dec_t (by assumption) j) _ _ _ | exact neU (dec_f (by assumption) j) _ _ _), rfl⟩
        intro xH w' hv hR
        have h0 : xH 0 = _ := hv 0 (by omega)
        have h1 : xH 1 = _ := hv 1 (by omega)
        have h2 : xH 2 = _ := hv 2 (by omega)
        have h3 : xH 3 = _ := hv 3 (by omega)
        have h4 : xH 4 = _ := hv 4 (by omega)
        have h5 : xH 5 = _ := hv 5 (by omega)
        have h6 : xH 6 = _ := hv 6 (by omega)
        have h7 : xH 7 = _ := hv 7 (by omega)
        simp only [List.take_succ_cons, List.take_zero, List.drop_succ_cons, List.drop_zero, putsH, Act.put, List.setIfInBounds_toArray, List.set_cons_succ, List.set_cons_zero, h0, h1, h2, h3, h4, h5, h6, h7]
        have OW2 := Lib.hid (OW.out.step hR)
        clear hv hR OW OZ h0 h1 h2 h3 h4 h5 h6 h7
        have OW := OW2
        clear OW2
        obtain ⟨g31, OZ⟩ := own_size OW HB0
        gi_wp2_with (first | (refine onlyD 63 rfl ?_; refine own_valV 63 rfl rfl rfl (.int .i64 ((j : Int) + 1)) (run_binO (vx := .int .i64 (j : Int)) (vy := .int .i64 1) rfl rfl rfl (bin_add_in (by first | omega | exact fixed_lt (by assumption)) (by first | omega | exact fixed_lt (by assumption)))) ?_; simp only [Act.put, List.setIfInBounds_toArray, List.set_cons_succ, List.set_cons_zero]))
        go_roundw
        case rel => exact ⟨j + 1, by omega, by go_num, (by skip; exact OW.out)⟩
        case measure => (simp [intOf] <;> omega)
      have dhB27 := of_decide_eq_false hB27
      obtain rfl : j = 32 := by omega
      gi_upto_region 17 with fail
      refine wpIn_region_heldL 10 (atD [[], [], [1], [], [3], [], [5], [2, 4, 6], [0, 7], [8]]) (atV [fun vH _ => vH = .agg #[.int .i64 ((locF (co (synL u v))).kind : Int), .int .i64 (locF (co (synL u v))).place, .int .u8 ((locF (co (synL u v))).val.toNat : Int)], fun vH _ => vH = .pointer (some ⟨g16, 0, none⟩), fun vH _ => vH = .int .i64 ((locF (co (synL u v))).kind : Int), fun vH _ => vH = .pointer (some ⟨g16, 1, none⟩), fun vH _ => vH = .int .i64 (locF (co (synL u v))).place, fun vH _ => vH = .pointer (some ⟨g16, 2, none⟩), fun vH _ => vH = .int .u8 ((locF (co (synL u v))).val.toNat : Int), fun vH _ => vH = .agg #[.int .i64 ((locF (co (synL u v))).kind : Int), .int .i64 (locF (co (synL u v))).place, .int .u8 ((locF (co (synL u v))).val.toNat : Int)], fun vH _ => vH = .bool true, fun vH _ => vH = .bool true]) BelowR (by kernel_rfl) BelowR.trans (BelowR.refl _)
        (StV.atV (.const _ (.const _ (.const _ (.const _ (.const _ (.const _ (.const _ (.const _ (.const _ (.const _ .nil)))))))))))
        ⟨?o32x0, ?o32x1, ?o32x2, ?o32x3, ?o32x4, ?o32x5, ?o32x6, ?o32x7, ?o32x8, ?o32x9, trivial⟩ ?_
      case o32x0 =>
        exact held_load free_wide rfl BelowR.refl 30 (.tmp 10) rfl fun xH w' kH hR => ⟨_, _, (pO (by kernel_rfl) rfl), ldS OW hR 8 rfl 3 rfl Try.underlying30 rfl rfl (by kernel_rfl), rfl⟩
      case o32x1 =>
        exact held_run free_wide rfl (by rfl) BelowR.refl fun xH w' kH hR => ⟨_, run_fldO rfl (pO (by kernel_rfl) rfl) (by kernel_rfl), rfl⟩
      case o32x2 =>
        exact held_load free_wide rfl BelowR.refl 3 (.tmp 65) rfl fun xH w' kH hR => ⟨_, _, (pT 1 (by kernel_rfl) (by kernel_rfl) (kH 1 (by decide))), ldC OW hR 9 rfl rfl naInt, rfl⟩
      case o32x3 =>
        exact held_run free_wide rfl (by rfl) BelowR.refl fun xH w' kH hR => ⟨_, run_fldO rfl (pO (by kernel_rfl) rfl) (by kernel_rfl), rfl⟩
      case o32x4 =>
        exact held_load free_wide rfl BelowR.refl 3 (.tmp 67) rfl fun xH w' kH hR => ⟨_, _, (pT 3 (by kernel_rfl) (by kernel_rfl) (kH 3 (by decide))), ldC OW hR 9 rfl rfl naInt, rfl⟩
      case o32x5 =>
        exact held_run free_wide rfl (by rfl) BelowR.refl fun xH w' kH hR => ⟨_, run_fldO rfl (pO (by kernel_rfl) rfl) (by kernel_rfl), rfl⟩
      case o32x6 =>
        exact held_load free_wide rfl BelowR.refl 5 (.tmp 69) rfl fun xH w' kH hR => ⟨_, _, (pT 5 (by kernel_rfl) (by kernel_rfl) (kH 5 (by decide))), ldC OW hR 9 rfl rfl naU8, rfl⟩
      case o32x7 =>
        exact held_run free_wide rfl (by rfl) BelowR.refl fun xH w' kH hR => ⟨_, run_buildO rfl (mapB3 (pT 2 (by kernel_rfl) (by kernel_rfl) (kH 2 (by decide))) (pT 4 (by kernel_rfl) (by kernel_rfl) (kH 4 (by decide))) (pT 6 (by kernel_rfl) (by kernel_rfl) (kH 6 (by decide)))) _ (by kernel_rfl), rfl⟩
      case o32x8 =>
        exact held_run free_wide rfl (by rfl) BelowR.refl fun xH w' kH hR => ⟨_, run_binO rfl (pT 0 (by kernel_rfl) (by kernel_rfl) (kH 0 (by decide))) (pT 7 (by kernel_rfl) (by kernel_rfl) (kH 7 (by decide))) (eqV_self _ _ _ _ _ _), rfl⟩
      case o32x9 =>
        exact held_move free_wide rfl BelowR.refl (.tmp 72) (.inr rfl) fun xH w' kH _ => (pT 8 (by kernel_rfl) (by kernel_rfl) (kH 8 (by decide)))
      intro xH w' hv hR
      have h0 : xH 0 = _ := hv 0 (by omega)
      have h1 : xH 1 = _ := hv 1 (by omega)
      have h2 : xH 2 = _ := hv 2 (by omega)
      have h3 : xH 3 = _ := hv 3 (by omega)
      have h4 : xH 4 = _ := hv 4 (by omega)
      have h5 : xH 5 = _ := hv 5 (by omega)
      have h6 : xH 6 = _ := hv 6 (by omega)
      have h7 : xH 7 = _ := hv 7 (by omega)
      have h8 : xH 8 = _ := hv 8 (by omega)
      have h9 : xH 9 = _ := hv 9 (by omega)
      simp only [List.take_succ_cons, List.take_zero, List.drop_succ_cons, List.drop_zero, putsH, Act.put, List.setIfInBounds_toArray, List.set_cons_succ, List.set_cons_zero, h0, h1, h2, h3, h4, h5, h6, h7, h8, h9]
      have OW2 := Lib.hid (OW.out.step hR)
      clear hv hR OW OZ h0 h1 h2 h3 h4 h5 h6 h7 h8 h9
      have OW := OW2
      clear OW2
      obtain ⟨g33, OZ⟩ := own_size OW HB0
      gi_wp2
      refine leaves_own [] _ (Nat.le_of_eq HB0.out) (by simpa using OW.out) ?_
      intro W' hO
      exact ⟨.bool true, by simp [results, Try.results3, go_sem], rfl, hO.done HB0⟩
  gi_wp2
  gi_loopw [52] (fun z52 wr => ∃ j : Nat, j ≤ 32 ∧ z52 = .int .i64 (j : Int) ∧ Own b0 w [(b0, Obj.cells (rawV s) 22 (0, 0)), (g1, Obj.cells (rawV u) 23 (0, 0)), (g2, Obj.cells (rawV v) 24 (0, 0)), (fb, Obj.cells (fieldCells) 68 (0, 0)), (gb, Obj.cells (rowV genL rest) 5 (0, 0)), (cb, Obj.cells (#[.pointer (some ⟨fb, 0, none⟩), .slice (some ⟨gb, 0, none⟩) 5 (5 + rest.length)]) 59 (0, 0)), (g7, Obj.cells (#[.int .i64 ((locF (co s)).kind : Int), .int .i64 (locF (co s)).place, .int .u8 ((locF (co s)).val.toNat : Int)]) 28 (0, 0)), (g11, Obj.cells (rawV (decL u v)) 32 (0, 0)), (g12, Obj.cells (#[.int .i64 ((locF (co (synL u v))).kind : Int), .int .i64 (locF (co (synL u v))).place, .int .u8 ((locF (co (synL u v))).val.toNat : Int)]) 30 (0, 0)), (g16, Obj.cells (#[.int .i64 ((locF (co (synL u v))).kind : Int), .int .i64 (locF (co (synL u v))).place, .int .u8 ((locF (co (synL u v))).val.toNat : Int)]) 28 (0, 0))] wr) (fun z52 _ => 32 - (intOf z52).toNat)
  case atStart => exact ⟨0, by omega, rfl, (by skip; exact OW.out)⟩
  case round =>
    obtain ⟨j, hk35, rfl, hO⟩ := hrel
    clear OW OZ
    have OW := Lib.hid hO
    obtain ⟨g34, OZ⟩ := own_size OW HB0
    clear hO
    gi_upto_region 12 with fail
    obtain ⟨eo360, qeo360⟩ : ∃ e, (decide ((j : Int) < 32)) = e := ⟨_, rfl⟩
    refine wpIn_region_heldL 1 (atD [[]]) (atV [fun vH _ => vH = .bool eo360]) BelowR (by kernel_rfl) BelowR.trans (BelowR.refl _)
      (StV.atV (.const _ .nil))
      ⟨?o36x0, trivial⟩ ?_
    case o36x0 =>
      exact held_run free_wide rfl (by rfl) BelowR.refl fun xH w' kH hR => ⟨_, run_binO rfl (pO (by kernel_rfl) rfl) rfl bin_lss, (congrArg Value.bool qeo360)⟩
    intro xH w' hv hR
    subst qeo360
    have h0 : xH 0 = _ := hv 0 (by omega)
    simp only [List.take_succ_cons, List.take_zero, List.drop_succ_cons, List.drop_zero, putsH, Act.put, List.setIfInBounds_toArray, List.set_cons_succ, List.set_cons_zero, h0]
    have OW2 := Lib.hid (OW.out.step hR)
    clear hv hR OW OZ h0
    have OW := OW2
    clear OW2
    obtain ⟨g37, OZ⟩ := own_size OW HB0
    cases hB38 : (decide ((j : Int) < 32))
    case true =>
      have dhB38 := of_decide_eq_true hB38
      gi_upto_region 13 with fail
      refine wpIn_region_heldL 2 (atD [[], [0]]) (atV [fun vH _ => vH = .int .i64 (j : Int), fun vH _ => vH = .int .i64 (j : Int)]) BelowR (by kernel_rfl) BelowR.trans (BelowR.refl _)
        (StV.atV (.const _ (.const _ .nil)))
        ⟨?o39x0, ?o39x1, trivial⟩ ?_
      case o39x0 =>
        exact held_move free_wide rfl BelowR.refl (.tmp 52) (.inl rfl) fun xH w' kH _ => (pO (by kernel_rfl) rfl)
      case o39x1 =>
        exact held_move free_wide rfl BelowR.refl (.tmp 54) (.inr rfl) fun xH w' kH _ => (pT 0 (by kernel_rfl) (by kernel_rfl) (kH 0 (by decide)))
      intro xH w' hv hR
      have h0 : xH 0 = _ := hv 0 (by omega)
      have h1 : xH 1 = _ := hv 1 (by omega)
      simp only [List.take_succ_cons, List.take_zero, List.drop_succ_cons, List.drop_zero, putsH, Act.put, List.setIfInBounds_toArray, List.set_cons_succ, List.set_cons_zero, h0, h1]
      have OW2 := Lib.hid (OW.out.step hR)
      clear hv hR OW OZ h0 h1
      have OW := OW2
      clear OW2
      obtain ⟨g40, OZ⟩ := own_size OW HB0
      gi_upto_region 14 with fail
      refine wpIn_region_held 8 (atD [[], [0], [1], [], [3], [4], [5], [2, 6]]) (atV [fun vH _ => vH = .int .i64 (j : Int), fun vH _ => vH = .pointer (some ⟨g11, j, none⟩), fun vH _ => vH = .int .u8 (((decL u v).getD j 0).toNat : Int), fun vH _ => vH = .int .i64 (j : Int), fun vH _ => vH = .int .i64 (4 + (j : Int)), fun vH _ => vH = .pointer (some ⟨g1, 4 + j, none⟩), fun vH _ => vH = .int .u8 ((u.getD (4 + j) 0).toNat : Int), fun vH _ => vH = .bool false]) BelowR (by kernel_rfl) (by kernel_rfl) BelowR.trans (BelowR.drew _)
        (StV.atV (.const _ (.const _ (.const _ (.const _ (.const _ (.const _ (.const _ (.const _ .nil)))))))))
        ⟨?o41x0, ?o41x1, ?o41x2, ?o41x3, ?o41x4, ?o41x5, ?o41x6, ?o41x7, trivial⟩ ?_
      case o41x0 =>
        exact held_move free_wide rfl BelowR.refl (.tmp 12) (.inl rfl) fun xH w' kH _ => (pO (by kernel_rfl) rfl)
      case o41x1 =>
        exact held_run free_wide rfl (by rfl) BelowR.refl fun xH w' kH hR => ⟨_, run_idxO (vx := .pointer (some ⟨g11, 0, none⟩)) (vi := .int .i64 (j : Int)) rfl (pO (by kernel_rfl) rfl) (pT 0 (by kernel_rfl) (by kernel_rfl) (kH 0 (by decide))) (arX32 _ j (by omega) _), rfl⟩
      case o41x2 =>
        exact held_load free_wide rfl BelowR.refl 5 (.tmp 56) rfl fun xH w' kH hR => ⟨_, _, (pT 1 (by kernel_rfl) (by kernel_rfl) (kH 1 (by decide))), ldC OW hR 7 rfl (rawV_get _ (by rw [(show ((decL u v)).length = 32 by simp only [synL_len, decL_len, List.length_set, List.length_append, Nat.reduceAdd, HS.out, HU.out, HV.out])]; first | omega | exact fixed_lt (by assumption))) naU8, rfl⟩
      case o41x3 =>
        exact held_move free_wide rfl BelowR.refl (.tmp 12) (.inl rfl) fun xH w' kH _ => (pO (by kernel_rfl) rfl)
      case o41x4 =>
        exact held_run free_wide rfl (by rfl) BelowR.refl fun xH w' kH hR => ⟨_, run_binO rfl rfl (pT 3 (by kernel_rfl) (by kernel_rfl) (kH 3 (by decide))) (bin_add_in (by first | omega | exact fixed_lt (by assumption)) (by first | omega | exact fixed_lt (by assumption))), rfl⟩
      case o41x5 =>
        exact held_run free_wide rfl (by rfl) BelowR.refl fun xH w' kH hR => ⟨_, run_idxO (vx := .pointer (some ⟨g1, 0, none⟩)) (vi := .int .i64 (4 + (j : Int))) rfl (pO (by kernel_rfl) rfl) (pT 4 (by kernel_rfl) (by kernel_rfl) (kH 4 (by decide))) (arX36 _ (4 + j) (by omega) _), rfl⟩
      case o41x6 =>
        exact held_load free_wide rfl BelowR.refl 5 (.tmp 60) rfl fun xH w' kH hR => ⟨_, _, (pT 5 (by kernel_rfl) (by kernel_rfl) (kH 5 (by decide))), ldC OW hR 1 rfl (rawV_get _ (by rw [(show (u).length = 36 from HU.out)]; first | omega | exact fixed_lt (by assumption))) naU8, rfl⟩
      case o41x7 =>
        exact held_run free_wide rfl (by rfl) BelowR.refl fun xH w' kH hR => ⟨_, run_binO rfl (pT 2 (by kernel_rfl) (by kernel_rfl) (kH 2 (by decide))) (pT 6 (by kernel_rfl) (by kernel_rfl) (kH 6 (by decide))) (by first | exact neU (dec_t (by assumption) j) _ _ _ | exact neU (dec_f (by assumption) j) _ _ _), rfl⟩
      intro xH w' hv hR
      have h0 : xH 0 = _ := hv 0 (by omega)
      have h1 : xH 1 = _ := hv 1 (by omega)
      have h2 : xH 2 = _ := hv 2 (by omega)
      have h3 : xH 3 = _ := hv 3 (by omega)
      have h4 : xH 4 = _ := hv 4 (by omega)
      have h5 : xH 5 = _ := hv 5 (by omega)
      have h6 : xH 6 = _ := hv 6 (by omega)
      have h7 : xH 7 = _ := hv 7 (by omega)
      simp only [List.take_succ_cons, List.take_zero, List.drop_succ_cons, List.drop_zero, putsH, Act.put, List.setIfInBounds_toArray, List.set_cons_succ, List.set_cons_zero, h0, h1, h2, h3, h4, h5, h6, h7]
      have OW2 := Lib.hid (OW.out.step hR)
      clear hv hR OW OZ h0 h1 h2 h3 h4 h5 h6 h7
      have OW := OW2
      clear OW2
      obtain ⟨g42, OZ⟩ := own_size OW HB0
      gi_wp2_with (first | (refine onlyD 63 rfl ?_; refine own_valV 63 rfl rfl rfl (.int .i64 ((j : Int) + 1)) (run_binO (vx := .int .i64 (j : Int)) (vy := .int .i64 1) rfl rfl rfl (bin_add_in (by first | omega | exact fixed_lt (by assumption)) (by first | omega | exact fixed_lt (by assumption)))) ?_; simp only [Act.put, List.setIfInBounds_toArray, List.set_cons_succ, List.set_cons_zero]))
      go_roundw
      case rel => exact ⟨j + 1, by omega, by go_num, (by skip; exact OW.out)⟩
      case measure => (simp [intOf] <;> omega)
    have dhB38 := of_decide_eq_false hB38
    obtain rfl : j = 32 := by omega
    gi_upto_region 17 with fail
    refine wpIn_region_heldL 10 (atD [[], [], [1], [], [3], [], [5], [2, 4, 6], [0, 7], [8]]) (atV [fun vH _ => vH = .agg #[.int .i64 ((locF (co (synL u v))).kind : Int), .int .i64 (locF (co (synL u v))).place, .int .u8 ((locF (co (synL u v))).val.toNat : Int)], fun vH _ => vH = .pointer (some ⟨g16, 0, none⟩), fun vH _ => vH = .int .i64 ((locF (co (synL u v))).kind : Int), fun vH _ => vH = .pointer (some ⟨g16, 1, none⟩), fun vH _ => vH = .int .i64 (locF (co (synL u v))).place, fun vH _ => vH = .pointer (some ⟨g16, 2, none⟩), fun vH _ => vH = .int .u8 ((locF (co (synL u v))).val.toNat : Int), fun vH _ => vH = .agg #[.int .i64 ((locF (co (synL u v))).kind : Int), .int .i64 (locF (co (synL u v))).place, .int .u8 ((locF (co (synL u v))).val.toNat : Int)], fun vH _ => vH = .bool true, fun vH _ => vH = .bool true]) BelowR (by kernel_rfl) BelowR.trans (BelowR.refl _)
      (StV.atV (.const _ (.const _ (.const _ (.const _ (.const _ (.const _ (.const _ (.const _ (.const _ (.const _ .nil)))))))))))
      ⟨?o43x0, ?o43x1, ?o43x2, ?o43x3, ?o43x4, ?o43x5, ?o43x6, ?o43x7, ?o43x8, ?o43x9, trivial⟩ ?_
    case o43x0 =>
      exact held_load free_wide rfl BelowR.refl 30 (.tmp 10) rfl fun xH w' kH hR => ⟨_, _, (pO (by kernel_rfl) rfl), ldS OW hR 8 rfl 3 rfl Try.underlying30 rfl rfl (by kernel_rfl), rfl⟩
    case o43x1 =>
      exact held_run free_wide rfl (by rfl) BelowR.refl fun xH w' kH hR => ⟨_, run_fldO rfl (pO (by kernel_rfl) rfl) (by kernel_rfl), rfl⟩
    case o43x2 =>
      exact held_load free_wide rfl BelowR.refl 3 (.tmp 65) rfl fun xH w' kH hR => ⟨_, _, (pT 1 (by kernel_rfl) (by kernel_rfl) (kH 1 (by decide))), ldC OW hR 9 rfl rfl naInt, rfl⟩
    case o43x3 =>
      exact held_run free_wide rfl (by rfl) BelowR.refl fun xH w' kH hR => ⟨_, run_fldO rfl (pO (by kernel_rfl) rfl) (by kernel_rfl), rfl⟩
    case o43x4 =>
      exact held_load free_wide rfl BelowR.refl 3 (.tmp 67) rfl fun xH w' kH hR => ⟨_, _, (pT 3 (by kernel_rfl) (by kernel_rfl) (kH 3 (by decide))), ldC OW hR 9 rfl rfl naInt, rfl⟩
    case o43x5 =>
      exact held_run free_wide rfl (by rfl) BelowR.refl fun xH w' kH hR => ⟨_, run_fldO rfl (pO (by kernel_rfl) rfl) (by kernel_rfl), rfl⟩
    case o43x6 =>
      exact held_load free_wide rfl BelowR.refl 5 (.tmp 69) rfl fun xH w' kH hR => ⟨_, _, (pT 5 (by kernel_rfl) (by kernel_rfl) (kH 5 (by decide))), ldC OW hR 9 rfl rfl naU8, rfl⟩
    case o43x7 =>
      exact held_run free_wide rfl (by rfl) BelowR.refl fun xH w' kH hR => ⟨_, run_buildO rfl (mapB3 (pT 2 (by kernel_rfl) (by kernel_rfl) (kH 2 (by decide))) (pT 4 (by kernel_rfl) (by kernel_rfl) (kH 4 (by decide))) (pT 6 (by kernel_rfl) (by kernel_rfl) (kH 6 (by decide)))) _ (by kernel_rfl), rfl⟩
    case o43x8 =>
      exact held_run free_wide rfl (by rfl) BelowR.refl fun xH w' kH hR => ⟨_, run_binO rfl (pT 0 (by kernel_rfl) (by kernel_rfl) (kH 0 (by decide))) (pT 7 (by kernel_rfl) (by kernel_rfl) (kH 7 (by decide))) (eqV_self _ _ _ _ _ _), rfl⟩
    case o43x9 =>
      exact held_move free_wide rfl BelowR.refl (.tmp 72) (.inr rfl) fun xH w' kH _ => (pT 8 (by kernel_rfl) (by kernel_rfl) (kH 8 (by decide)))
    intro xH w' hv hR
    have h0 : xH 0 = _ := hv 0 (by omega)
    have h1 : xH 1 = _ := hv 1 (by omega)
    have h2 : xH 2 = _ := hv 2 (by omega)
    have h3 : xH 3 = _ := hv 3 (by omega)
    have h4 : xH 4 = _ := hv 4 (by omega)
    have h5 : xH 5 = _ := hv 5 (by omega)
    have h6 : xH 6 = _ := hv 6 (by omega)
    have h7 : xH 7 = _ := hv 7 (by omega)
    have h8 : xH 8 = _ := hv 8 (by omega)
    have h9 : xH 9 = _ := hv 9 (by omega)
    simp only [List.take_succ_cons, List.take_zero, List.drop_succ_cons, List.drop_zero, putsH, Act.put, List.setIfInBounds_toArray, List.set_cons_succ, List.set_cons_zero, h0, h1, h2, h3, h4, h5, h6, h7, h8, h9]
    have OW2 := Lib.hid (OW.out.step hR)
    clear hv hR OW OZ h0 h1 h2 h3 h4 h5 h6 h7 h8 h9
    have OW := OW2
    clear OW2
    obtain ⟨g44, OZ⟩ := own_size OW HB0
    gi_wp2
    refine leaves_own [] _ (Nat.le_of_eq HB0.out) (by simpa using OW.out) ?_
    intro W' hO
    exact ⟨.bool true, by simp [results, Try.results3, go_sem], rfl, hO.done HB0⟩
end Go.Proofs.Ytdgflbbffimpkaa
