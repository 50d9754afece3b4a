/- The statement RsSyndromes: its walk. -/
import Derived.Test.YtdgflbbffimpkaaRsT
import Derived.Test.YtdgflbbffimpkaaArrO
namespace Go.Proofs.Ytdgflbbffimpkaa
open Go.RowKit Go.Shelf
attribute [local go_sem] Oper.semAt_some
set_option linter.unusedVariables false
set_option linter.unusedSimpArgs false


set_option maxRecDepth 100000 in
set_option maxHeartbeats 1000000 in
theorem RsSyndromes_any (d v u x : List UInt8) (hd : d.length = 32) (hv : v.length = 3) (hu : u.length = 36) (hx : x.length = 3) (w : World) : Calls Try.prog 8 #[.agg (rawV d), .agg (rawV v), .agg (rawV u), .agg (rawV x)] w fun e w' => e = .returned (.bool true) ∧ Below w.heap.size w w' := by
  obtain ⟨b0, hb0⟩ : ∃ b0, w.heap.size = b0 := ⟨_, rfl⟩
  have HB0 := Lib.hid hb0
  have OW := Lib.hid (Own.start b0 w)
  have OZ := Lib.hid (And.intro hb0 (Nat.le_refl b0))
  clear hb0
  have HD := Lib.hid hd
  have HV := Lib.hid hv
  have HU := Lib.hid hu
  have HX := Lib.hid hx
  have HS := Lib.hid (syn_app d v u x hd hv hu hx)
  clear hd hv hu hx
  refine (callsIn_wide (n := 6)).1 ?_
  refine callsIn_of_wp_marks Try.func8 rfl trivial ?_ rfl
  simp only [Try.ntmps8, List.size_toArray, List.length_cons, List.length_nil, Nat.reduceAdd, Nat.reduceSub, Array.replicate_succ, Array.replicate_zero, List.push_toArray, List.append_toArray, List.nil_append, List.cons_append]
  gi_upto_region 1 with (first | (refine own_boxV 4 32 (.tmp 0) rfl rfl rfl (.agg (rawV d)) rfl (rawV d) rfl OW OZ ?_; clear OW OZ; intro W g1 OW OZ) | (refine own_boxV 5 24 (.tmp 1) rfl rfl rfl (.agg (rawV v)) rfl (rawV v) rfl OW OZ ?_; clear OW OZ; intro W g2 OW OZ) | (refine own_boxV 6 23 (.tmp 2) rfl rfl rfl (.agg (rawV u)) rfl (rawV u) rfl OW OZ ?_; clear OW OZ; intro W g3 OW OZ) | (refine own_boxV 7 24 (.tmp 3) rfl rfl rfl (.agg (rawV x)) rfl (rawV x) rfl OW OZ ?_; clear OW OZ; intro W g4 OW OZ))
  gi_wp2_with fail
  refine ⟨trivial, ?_⟩
  refine (callsIn_wide.2 (coded_any _)).mono ?_
  rintro e Wg ⟨cb, fb, gb, rest, rfl, hO⟩
  have OW1 := Lib.hid (Own.join OW.out (by rw [OZ.out.1]; exact OZ.out.2) hO)
  clear OW OZ hO
  have OW := OW1
  clear OW1
  obtain ⟨grg5, OZ⟩ := own_size OW HB0
  have HCODE := Lib.hid (fun (L : Objs) (V : World) (h : Own b0 w L V) (h1 : L[4]? = some (fb, Obj.cells fieldCells 68 (0, 0))) (h2 : L[5]? = some (gb, Obj.cells (rowV genL rest) 5 (0, 0))) (h3 : L[6]? = some (cb, Obj.cells #[.pointer (some ⟨fb, 0, none⟩), .slice (some ⟨gb, 0, none⟩) 5 (5 + rest.length)] 59 (0, 0))) => CodeAt.mk3 h h1 h2 h3)
  gi_upto_region 2 with fail
  refine wpIn_region_heldL 2 (atD [[], [0]]) (atV [fun vH _ => vH = .pointer (some ⟨cb, 0, none⟩), fun vH _ => vH = .bool false]) BelowR (by kernel_rfl) BelowR.trans (BelowR.refl _)
    (StV.atV (.const _ (.const _ .nil)))
    ⟨?o6x0, ?o6x1, trivial⟩ ?_
  case o6x0 =>
    exact held_move free_wide rfl BelowR.refl (.tmp 9) (.inl rfl) fun xH w' kH _ => (pO (by kernel_rfl) rfl)
  case o6x1 =>
    exact held_run free_wide rfl (by rfl) BelowR.refl fun xH w' kH hR => ⟨_, run_binO rfl (pT 0 (by kernel_rfl) (by kernel_rfl) (kH 0 (by decide))) rfl (by kernel_rfl), rfl⟩
  intro xH w' hv hR
  have h0 : xH 0 = _ := hv 0 (by omega)
  have h1 : xH 1 = _ := hv 1 (by omega)
  simp only [List.take_succ_cons, List.take_zero, List.drop_succ_cons, List.drop_zero, putsH, Act.put, List.setIfInBounds_toArray, List.set_cons_succ, List.set_cons_zero, h0, h1]
  have OW2 := Lib.hid (OW.out.step hR)
  clear hv hR OW OZ h0 h1
  have OW := OW2
  clear OW2
  obtain ⟨g7, OZ⟩ := own_size OW HB0
  gi_wp2_with (first | (refine own_loadRowV 17 0 32 (.tmp 4) rfl rfl rfl rfl rfl _ Try.underlying32 rfl (arJ32 (show (d).length = 32 from HD.out)) OW ?_) | (refine own_loadRowV 18 1 24 (.tmp 5) rfl rfl rfl rfl rfl _ Try.underlying24 rfl (arJ3 (show (v).length = 3 from HV.out)) OW ?_))
  refine ⟨trivial, ?_⟩
  refine (callsIn_wide.2 (word_any cb fb d v (HD.out) (HV.out) _ (HCODE.out _ _ OW.out rfl rfl rfl))).mono ?_
  rintro e Wg8 ⟨rfl, hbw⟩
  obtain ⟨g8, OW2, OZ2⟩ := own_call OW OZ hbw
  clear hbw OW OZ
  have OW := OW2
  have OZ := OZ2
  clear OW2 OZ2
  gi_wp2_with (first | (refine own_allocV 10 23 rfl rfl rfl (rawV (List.replicate 36 0)) al36 OW OZ ?_; clear OW OZ; intro W g9 OW OZ) | (refine own_storeRow 7 23 (.tmp 10) (.tmp 19) rfl rfl rfl rfl (rawV (wordL d v)) rfl (by rw [rawV_size, rawV_size, (show ((wordL d v)).length = 36 by simp only [wordL_len, synL_len, xorTo_len, List.length_set, HD.out, HV.out, HU.out, HX.out]), (show ((List.replicate 36 0) : List UInt8).length = 36 from List.length_replicate)]) (rawV_one _) (arJ36 (show ((wordL d v)).length = 36 by simp only [wordL_len, synL_len, xorTo_len, List.length_set, HD.out, HV.out, HU.out, HX.out])) _ rfl OW OZ ?_; clear OW OZ; intro W OW OZ))
  gi_loopw [20] (fun z20 wr => ∃ k : Nat, k ≤ 36 ∧ z20 = .int .i64 (k : Int) ∧ Own b0 w [(b0, Obj.cells (rawV d) 32 (0, 0)), (g1, Obj.cells (rawV v) 24 (0, 0)), (g2, Obj.cells (rawV u) 23 (0, 0)), (g3, Obj.cells (rawV x) 24 (0, 0)), (fb, Obj.cells (fieldCells) 68 (0, 0)), (gb, Obj.cells (rowV genL rest) 5 (0, 0)), (cb, Obj.cells (#[.pointer (some ⟨fb, 0, none⟩), .slice (some ⟨gb, 0, none⟩) 5 (5 + rest.length)]) 59 (0, 0)), (g8, Obj.cells (rawV (xorTo 36 (wordL d v) u k)) 23 (0, 0))] wr) (fun z20 _ => 36 - (intOf z20).toNat)
  case atStart => exact ⟨0, by omega, rfl, (by rw [xorTo_zero u (wordL_len d v HD.out)]; exact OW.out)⟩
  case round =>
    obtain ⟨k, hk11, rfl, hO⟩ := hrel
    clear OW OZ
    have OW := Lib.hid hO
    obtain ⟨g10, OZ⟩ := own_size OW HB0
    clear hO
    gi_upto_region 6 with fail
    obtain ⟨eo120, qeo120⟩ : ∃ e, (decide ((k : Int) < 36)) = e := ⟨_, rfl⟩
    refine wpIn_region_heldL 1 (atD [[]]) (atV [fun vH _ => vH = .bool eo120]) BelowR (by kernel_rfl) BelowR.trans (BelowR.refl _)
      (StV.atV (.const _ .nil))
      ⟨?o12x0, trivial⟩ ?_
    case o12x0 =>
      exact held_run free_wide rfl (by rfl) BelowR.refl fun xH w' kH hR => ⟨_, run_binO rfl (pO (by kernel_rfl) rfl) rfl bin_lss, (congrArg Value.bool qeo120)⟩
    intro xH w' hv hR
    subst qeo120
    have h0 : xH 0 = _ := hv 0 (by omega)
    simp only [List.take_succ_cons, List.take_zero, List.drop_succ_cons, List.drop_zero, putsH, Act.put, List.setIfInBounds_toArray, List.set_cons_succ, List.set_cons_zero, h0]
    have OW2 := Lib.hid (OW.out.step hR)
    clear hv hR OW OZ h0
    have OW := OW2
    clear OW2
    obtain ⟨g13, OZ⟩ := own_size OW HB0
    cases hB14 : (decide ((k : Int) < 36))
    case true =>
      have dhB14 := of_decide_eq_true hB14
      gi_upto_region 7 with fail
      refine wpIn_region_heldL 2 (atD [[], [0]]) (atV [fun vH _ => vH = .int .i64 (k : Int), fun vH _ => vH = .int .i64 (k : Int)]) BelowR (by kernel_rfl) BelowR.trans (BelowR.refl _)
        (StV.atV (.const _ (.const _ .nil)))
        ⟨?o15x0, ?o15x1, trivial⟩ ?_
      case o15x0 =>
        exact held_move free_wide rfl BelowR.refl (.tmp 20) (.inl rfl) fun xH w' kH _ => (pO (by kernel_rfl) rfl)
      case o15x1 =>
        exact held_move free_wide rfl BelowR.refl (.tmp 22) (.inr rfl) fun xH w' kH _ => (pT 0 (by kernel_rfl) (by kernel_rfl) (kH 0 (by decide)))
      intro xH w' hv hR
      have h0 : xH 0 = _ := hv 0 (by omega)
      have h1 : xH 1 = _ := hv 1 (by omega)
      simp only [List.take_succ_cons, List.take_zero, List.drop_succ_cons, List.drop_zero, putsH, Act.put, List.setIfInBounds_toArray, List.set_cons_succ, List.set_cons_zero, h0, h1]
      have OW2 := Lib.hid (OW.out.step hR)
      clear hv hR OW OZ h0 h1
      have OW := OW2
      clear OW2
      obtain ⟨g16, OZ⟩ := own_size OW HB0
      gi_upto_region 8 with fail
      refine wpIn_region_held 8 (atD [[], [0], [1], [], [3], [4], [2, 5], [0]]) (atV [fun vH _ => vH = .int .i64 (k : Int), fun vH _ => vH = .pointer (some ⟨g8, k, none⟩), fun vH _ => vH = .int .u8 (((xorTo 36 (wordL d v) u k).getD k 0).toNat : Int), fun vH _ => vH = .int .i64 (k : Int), fun vH _ => vH = .pointer (some ⟨g2, k, none⟩), fun vH _ => vH = .int .u8 ((u.getD k 0).toNat : Int), fun vH _ => vH = .int .u8 ((((xorTo 36 (wordL d v) u k).getD k 0) ^^^ (u.getD k 0)).toNat : Int), fun vH _ => vH = .pointer (some ⟨g8, k, none⟩)]) BelowR (by kernel_rfl) (by kernel_rfl) BelowR.trans (BelowR.drew _)
        (StV.atV (.const _ (.const _ (.const _ (.const _ (.const _ (.const _ (.const _ (.const _ .nil)))))))))
        ⟨?o17x0, ?o17x1, ?o17x2, ?o17x3, ?o17x4, ?o17x5, ?o17x6, ?o17x7, trivial⟩ ?_
      case o17x0 =>
        exact held_move free_wide rfl BelowR.refl (.tmp 11) (.inl rfl) fun xH w' kH _ => (pO (by kernel_rfl) rfl)
      case o17x1 =>
        exact held_run free_wide rfl (by rfl) BelowR.refl fun xH w' kH hR => ⟨_, run_idxO (vx := .pointer (some ⟨g8, 0, none⟩)) (vi := .int .i64 (k : Int)) rfl (pO (by kernel_rfl) rfl) (pT 0 (by kernel_rfl) (by kernel_rfl) (kH 0 (by decide))) (arX36 _ k (by omega) _), rfl⟩
      case o17x2 =>
        exact held_load free_wide rfl BelowR.refl 5 (.tmp 24) rfl fun xH w' kH hR => ⟨_, _, (pT 1 (by kernel_rfl) (by kernel_rfl) (kH 1 (by decide))), ldC OW hR 7 rfl (rawV_get _ (by rw [(show ((xorTo 36 (wordL d v) u k)).length = 36 by simp only [wordL_len, synL_len, xorTo_len, List.length_set, HD.out, HV.out, HU.out, HX.out])]; omega)) naU8, rfl⟩
      case o17x3 =>
        exact held_move free_wide rfl BelowR.refl (.tmp 11) (.inl rfl) fun xH w' kH _ => (pO (by kernel_rfl) rfl)
      case o17x4 =>
        exact held_run free_wide rfl (by rfl) BelowR.refl fun xH w' kH hR => ⟨_, run_idxO (vx := .pointer (some ⟨g2, 0, none⟩)) (vi := .int .i64 (k : Int)) rfl (pO (by kernel_rfl) rfl) (pT 3 (by kernel_rfl) (by kernel_rfl) (kH 3 (by decide))) (arX36 _ k (by omega) _), rfl⟩
      case o17x5 =>
        exact held_load free_wide rfl BelowR.refl 5 (.tmp 27) rfl fun xH w' kH hR => ⟨_, _, (pT 4 (by kernel_rfl) (by kernel_rfl) (kH 4 (by decide))), ldC OW hR 2 rfl (rawV_get _ (by rw [(show (u).length = 36 from HU.out)]; omega)) naU8, rfl⟩
      case o17x6 =>
        exact held_run free_wide rfl (by rfl) BelowR.refl fun xH w' kH hR => ⟨_, run_binO rfl (pT 2 (by kernel_rfl) (by kernel_rfl) (kH 2 (by decide))) (pT 5 (by kernel_rfl) (by kernel_rfl) (kH 5 (by decide))) (bin_xor8), rfl⟩
      case o17x7 =>
        exact held_run free_wide rfl (by rfl) BelowR.refl fun xH w' kH hR => ⟨_, run_idxO (vx := .pointer (some ⟨g8, 0, none⟩)) (vi := .int .i64 (k : Int)) rfl (pO (by kernel_rfl) rfl) (pT 0 (by kernel_rfl) (by kernel_rfl) (kH 0 (by decide))) (arX36 _ k (by omega) _), rfl⟩
      intro xH w' hv hR
      have h0 : xH 0 = _ := hv 0 (by omega)
      have h1 : xH 1 = _ := hv 1 (by omega)
      have h2 : xH 2 = _ := hv 2 (by omega)
      have h3 : xH 3 = _ := hv 3 (by omega)
      have h4 : xH 4 = _ := hv 4 (by omega)
      have h5 : xH 5 = _ := hv 5 (by omega)
      have h6 : xH 6 = _ := hv 6 (by omega)
      have h7 : xH 7 = _ := hv 7 (by omega)
      simp only [List.take_succ_cons, List.take_zero, List.drop_succ_cons, List.drop_zero, putsH, Act.put, List.setIfInBounds_toArray, List.set_cons_succ, List.set_cons_zero, h0, h1, h2, h3, h4, h5, h6, h7]
      have OW2 := Lib.hid (OW.out.step hR)
      clear hv hR OW OZ h0 h1 h2 h3 h4 h5 h6 h7
      have OW := OW2
      clear OW2
      obtain ⟨g18, OZ⟩ := own_size OW HB0
      gi_wp2_with (first | (refine own_store 7 5 (.tmp 30) (.tmp 29) rfl rfl rfl rfl (.int .u8 ((((xorTo 36 (wordL d v) u k).getD k 0) ^^^ (u.getD k 0)).toNat : Int)) rfl (rawV ((xorTo 36 (wordL d v) u k).set k (((xorTo 36 (wordL d v) u k).getD k 0) ^^^ (u.getD k 0)))) (rawV_set _ _ (((xorTo 36 (wordL d v) u k).getD k 0) ^^^ (u.getD k 0))) (by rw [rawV_size, (show ((xorTo 36 (wordL d v) u k)).length = 36 by simp only [wordL_len, synL_len, xorTo_len, List.length_set, HD.out, HV.out, HU.out, HX.out])]; omega) rfl szU8 _ rfl OW OZ ?_; clear OW OZ; intro W OW OZ) | (refine own_valV 31 rfl rfl rfl (.int .i64 ((k : Int) + 1)) (run_binO (vx := .int .i64 (k : Int)) (vy := .int .i64 1) rfl rfl rfl (bin_add_in (by omega) (by omega))) ?_))
      go_roundw
      case rel => exact ⟨k + 1, by omega, by go_num, (by rw [← xorTo_set (by omega)]; exact OW.out)⟩
      case measure => (simp [intOf] <;> omega)
    have dhB14 := of_decide_eq_false hB14
    obtain rfl : k = 36 := by omega
    gi_wp2
    gi_loopw [32] (fun z32 wr => ∃ j : Nat, j ≤ 3 ∧ z32 = .int .i64 (j : Int) ∧ Own b0 w [(b0, Obj.cells (rawV d) 32 (0, 0)), (g1, Obj.cells (rawV (xorTo 3 v x j)) 24 (0, 0)), (g2, Obj.cells (rawV u) 23 (0, 0)), (g3, Obj.cells (rawV x) 24 (0, 0)), (fb, Obj.cells (fieldCells) 68 (0, 0)), (gb, Obj.cells (rowV genL rest) 5 (0, 0)), (cb, Obj.cells (#[.pointer (some ⟨fb, 0, none⟩), .slice (some ⟨gb, 0, none⟩) 5 (5 + rest.length)]) 59 (0, 0)), (g8, Obj.cells (rawV (xorTo 36 (wordL d v) u (36 : Nat))) 23 (0, 0))] wr) (fun z32 _ => 3 - (intOf z32).toNat)
    case atStart => exact ⟨0, by omega, rfl, (by rw [xorTo_zero x HV.out]; exact OW.out)⟩
    case round =>
      obtain ⟨j, hk20, rfl, hO⟩ := hrel
      clear OW OZ
      have OW := Lib.hid hO
      obtain ⟨g19, OZ⟩ := own_size OW HB0
      clear hO
      gi_upto_region 11 with fail
      obtain ⟨eo210, qeo210⟩ : ∃ e, (decide ((j : Int) < 3)) = e := ⟨_, rfl⟩
      refine wpIn_region_heldL 1 (atD [[]]) (atV [fun vH _ => vH = .bool eo210]) BelowR (by kernel_rfl) BelowR.trans (BelowR.refl _)
        (StV.atV (.const _ .nil))
        ⟨?o21x0, trivial⟩ ?_
      case o21x0 =>
        exact held_run free_wide rfl (by rfl) BelowR.refl fun xH w' kH hR => ⟨_, run_binO rfl (pO (by kernel_rfl) rfl) rfl bin_lss, (congrArg Value.bool qeo210)⟩
      intro xH w' hv hR
      subst qeo210
      have h0 : xH 0 = _ := hv 0 (by omega)
      simp only [List.take_succ_cons, List.take_zero, List.drop_succ_cons, List.drop_zero, putsH, Act.put, List.setIfInBounds_toArray, List.set_cons_succ, List.set_cons_zero, h0]
      have OW2 := Lib.hid (OW.out.step hR)
      clear hv hR OW OZ h0
      have OW := OW2
      clear OW2
      obtain ⟨g22, OZ⟩ := own_size OW HB0
      cases hB23 : (decide ((j : Int) < 3))
      case true =>
        have dhB23 := of_decide_eq_true hB23
        gi_upto_region 12 with fail
        refine wpIn_region_heldL 2 (atD [[], [0]]) (atV [fun vH _ => vH = .int .i64 (j : Int), fun vH _ => vH = .int .i64 (j : Int)]) BelowR (by kernel_rfl) BelowR.trans (BelowR.refl _)
          (StV.atV (.const _ (.const _ .nil)))
          ⟨?o24x0, ?o24x1, trivial⟩ ?_
        case o24x0 =>
          exact held_move free_wide rfl BelowR.refl (.tmp 32) (.inl rfl) fun xH w' kH _ => (pO (by kernel_rfl) rfl)
        case o24x1 =>
          exact held_move free_wide rfl BelowR.refl (.tmp 34) (.inr rfl) fun xH w' kH _ => (pT 0 (by kernel_rfl) (by kernel_rfl) (kH 0 (by decide)))
        intro xH w' hv hR
        have h0 : xH 0 = _ := hv 0 (by omega)
        have h1 : xH 1 = _ := hv 1 (by omega)
        simp only [List.take_succ_cons, List.take_zero, List.drop_succ_cons, List.drop_zero, putsH, Act.put, List.setIfInBounds_toArray, List.set_cons_succ, List.set_cons_zero, h0, h1]
        have OW2 := Lib.hid (OW.out.step hR)
        clear hv hR OW OZ h0 h1
        have OW := OW2
        clear OW2
        obtain ⟨g25, OZ⟩ := own_size OW HB0
        gi_upto_region 13 with fail
        refine wpIn_region_held 8 (atD [[], [0], [1], [], [3], [4], [2, 5], [0]]) (atV [fun vH _ => vH = .int .i64 (j : Int), fun vH _ => vH = .pointer (some ⟨g1, j, none⟩), fun vH _ => vH = .int .u8 (((xorTo 3 v x j).getD j 0).toNat : Int), fun vH _ => vH = .int .i64 (j : Int), fun vH _ => vH = .pointer (some ⟨g3, j, none⟩), fun vH _ => vH = .int .u8 ((x.getD j 0).toNat : Int), fun vH _ => vH = .int .u8 ((((xorTo 3 v x j).getD j 0) ^^^ (x.getD j 0)).toNat : Int), fun vH _ => vH = .pointer (some ⟨g1, j, none⟩)]) BelowR (by kernel_rfl) (by kernel_rfl) BelowR.trans (BelowR.drew _)
          (StV.atV (.const _ (.const _ (.const _ (.const _ (.const _ (.const _ (.const _ (.const _ .nil)))))))))
          ⟨?o26x0, ?o26x1, ?o26x2, ?o26x3, ?o26x4, ?o26x5, ?o26x6, ?o26x7, trivial⟩ ?_
        case o26x0 =>
          exact held_move free_wide rfl BelowR.refl (.tmp 12) (.inl rfl) fun xH w' kH _ => (pO (by kernel_rfl) rfl)
        case o26x1 =>
          exact held_run free_wide rfl (by rfl) BelowR.refl fun xH w' kH hR => ⟨_, run_idxO (vx := .pointer (some ⟨g1, 0, none⟩)) (vi := .int .i64 (j : Int)) rfl (pO (by kernel_rfl) rfl) (pT 0 (by kernel_rfl) (by kernel_rfl) (kH 0 (by decide))) (arX3 _ j (by omega) _), rfl⟩
        case o26x2 =>
          exact held_load free_wide rfl BelowR.refl 5 (.tmp 36) rfl fun xH w' kH hR => ⟨_, _, (pT 1 (by kernel_rfl) (by kernel_rfl) (kH 1 (by decide))), ldC OW hR 1 rfl (rawV_get _ (by rw [(show ((xorTo 3 v x j)).length = 3 by simp only [wordL_len, synL_len, xorTo_len, List.length_set, HD.out, HV.out, HU.out, HX.out])]; omega)) naU8, rfl⟩
        case o26x3 =>
          exact held_move free_wide rfl BelowR.refl (.tmp 12) (.inl rfl) fun xH w' kH _ => (pO (by kernel_rfl) rfl)
        case o26x4 =>
          exact held_run free_wide rfl (by rfl) BelowR.refl fun xH w' kH hR => ⟨_, run_idxO (vx := .pointer (some ⟨g3, 0, none⟩)) (vi := .int .i64 (j : Int)) rfl (pO (by kernel_rfl) rfl) (pT 3 (by kernel_rfl) (by kernel_rfl) (kH 3 (by decide))) (arX3 _ j (by omega) _), rfl⟩
        case o26x5 =>
          exact held_load free_wide rfl BelowR.refl 5 (.tmp 39) rfl fun xH w' kH hR => ⟨_, _, (pT 4 (by kernel_rfl) (by kernel_rfl) (kH 4 (by decide))), ldC OW hR 3 rfl (rawV_get _ (by rw [(show (x).length = 3 from HX.out)]; omega)) naU8, rfl⟩
        case o26x6 =>
          exact held_run free_wide rfl (by rfl) BelowR.refl fun xH w' kH hR => ⟨_, run_binO rfl (pT 2 (by kernel_rfl) (by kernel_rfl) (kH 2 (by decide))) (pT 5 (by kernel_rfl) (by kernel_rfl) (kH 5 (by decide))) (bin_xor8), rfl⟩
        case o26x7 =>
          exact held_run free_wide rfl (by rfl) BelowR.refl fun xH w' kH hR => ⟨_, run_idxO (vx := .pointer (some ⟨g1, 0, none⟩)) (vi := .int .i64 (j : Int)) rfl (pO (by kernel_rfl) rfl) (pT 0 (by kernel_rfl) (by kernel_rfl) (kH 0 (by decide))) (arX3 _ j (by omega) _), rfl⟩
        intro xH w' hv hR
        have h0 : xH 0 = _ := hv 0 (by omega)
        have h1 : xH 1 = _ := hv 1 (by omega)
        have h2 : xH 2 = _ := hv 2 (by omega)
        have h3 : xH 3 = _ := hv 3 (by omega)
        have h4 : xH 4 = _ := hv 4 (by omega)
        have h5 : xH 5 = _ := hv 5 (by omega)
        have h6 : xH 6 = _ := hv 6 (by omega)
        have h7 : xH 7 = _ := hv 7 (by omega)
        simp only [List.take_succ_cons, List.take_zero, List.drop_succ_cons, List.drop_zero, putsH, Act.put, List.setIfInBounds_toArray, List.set_cons_succ, List.set_cons_zero, h0, h1, h2, h3, h4, h5, h6, h7]
        have OW2 := Lib.hid (OW.out.step hR)
        clear hv hR OW OZ h0 h1 h2 h3 h4 h5 h6 h7
        have OW := OW2
        clear OW2
        obtain ⟨g27, OZ⟩ := own_size OW HB0
        gi_wp2_with (first | (refine own_store 1 5 (.tmp 42) (.tmp 41) rfl rfl rfl rfl (.int .u8 ((((xorTo 3 v x j).getD j 0) ^^^ (x.getD j 0)).toNat : Int)) rfl (rawV ((xorTo 3 v x j).set j (((xorTo 3 v x j).getD j 0) ^^^ (x.getD j 0)))) (rawV_set _ _ (((xorTo 3 v x j).getD j 0) ^^^ (x.getD j 0))) (by rw [rawV_size, (show ((xorTo 3 v x j)).length = 3 by simp only [wordL_len, synL_len, xorTo_len, List.length_set, HD.out, HV.out, HU.out, HX.out])]; omega) rfl szU8 _ rfl OW OZ ?_; clear OW OZ; intro W OW OZ) | (refine own_valV 43 rfl rfl rfl (.int .i64 ((j : Int) + 1)) (run_binO (vx := .int .i64 (j : Int)) (vy := .int .i64 1) rfl rfl rfl (bin_add_in (by omega) (by omega))) ?_))
        go_roundw
        case rel => exact ⟨j + 1, by omega, by go_num, (by rw [← xorTo_set (by omega)]; exact OW.out)⟩
        case measure => (simp [intOf] <;> omega)
      have dhB23 := of_decide_eq_false hB23
      obtain rfl : j = 3 := by omega
      gi_upto_region 15 with fail
      refine wpIn_region_held 23 (atD [[], [], [], [0, 1, 2], [], [], [], [4, 5, 6], [3, 7], [8], [9], [9], [9], [9], [9, 11, 12, 13], [9, 10, 14], [9], [9], [9], [9, 16, 17, 18], [9, 15, 19], [9, 20], [21]]) (atV [fun vH _ => vH = .pointer (some ⟨cb, 0, none⟩), fun vH _ => vH = .agg (rawV (xorTo 36 (wordL d v) u (36 : Nat))), fun vH _ => vH = .agg (rawV (xorTo 3 v x (3 : Nat))), fun vH _ => vH = .agg (rawV (synL (xorTo 36 (wordL d v) u (36 : Nat)) (xorTo 3 v x (3 : Nat)))), fun vH _ => vH = .pointer (some ⟨cb, 0, none⟩), fun vH _ => vH = .agg (rawV u), fun vH _ => vH = .agg (rawV x), fun vH _ => vH = .agg (rawV (synL u x)), fun vH _ => vH = .bool true, fun vH _ => vH = .bool true, fun vH _ => vH = .pointer (some ⟨cb, 0, none⟩), fun vH _ => vH = .pointer (some ⟨cb, 0, none⟩), fun vH _ => vH = .agg (rawV u), fun vH _ => vH = .agg (rawV x), fun vH _ => vH = .agg (rawV (synL u x)), fun vH _ => vH = .agg #[.int .i64 ((locF (co (synL u x))).kind : Int), .int .i64 (locF (co (synL u x))).place, .int .u8 ((locF (co (synL u x))).val.toNat : Int)], fun vH _ => vH = .pointer (some ⟨cb, 0, none⟩), fun vH _ => vH = .agg (rawV (xorTo 36 (wordL d v) u (36 : Nat))), fun vH _ => vH = .agg (rawV (xorTo 3 v x (3 : Nat))), fun vH _ => vH = .agg #[.int .i64 ((locF (co (synL (xorTo 36 (wordL d v) u (36 : Nat)) (xorTo 3 v x (3 : Nat))))).kind : Int), .int .i64 (locF (co (synL (xorTo 36 (wordL d v) u (36 : Nat)) (xorTo 3 v x (3 : Nat))))).place, .int .u8 ((locF (co (synL (xorTo 36 (wordL d v) u (36 : Nat)) (xorTo 3 v x (3 : Nat))))).val.toNat : Int)], fun vH _ => vH = .bool true, fun vH _ => vH = .bool true, fun vH _ => vH = .bool true]) BelowR (by kernel_rfl) (by kernel_rfl) BelowR.trans (BelowR.drew _)
        (StV.atV (.const _ (.const _ (.const _ (.const _ (.const _ (.const _ (.const _ (.const _ (.const _ (.const _ (.const _ (.const _ (.const _ (.const _ (.const _ (.const _ (.const _ (.const _ (.const _ (.const _ (.const _ (.const _ (.const _ .nil))))))))))))))))))))))))
        ⟨?o28x0, ?o28x1, ?o28x2, ?o28x3, ?o28x4, ?o28x5, ?o28x6, ?o28x7, ?o28x8, ?o28x9, ?o28x10, ?o28x11, ?o28x12, ?o28x13, ?o28x14, ?o28x15, ?o28x16, ?o28x17, ?o28x18, ?o28x19, ?o28x20, ?o28x21, ?o28x22, trivial⟩ ?_
      case o28x0 =>
        exact held_move free_wide rfl BelowR.refl (.tmp 9) (.inl rfl) fun xH w' kH _ => (pO (by kernel_rfl) rfl)
      case o28x1 =>
        exact held_load free_wide rfl BelowR.refl 23 (.tmp 10) rfl fun xH w' kH hR => ⟨_, _, (pO (by kernel_rfl) rfl), ldR OW hR 7 rfl Try.underlying23 rfl (arJ36 (show ((xorTo 36 (wordL d v) u (36 : Nat))).length = 36 by simp only [wordL_len, synL_len, xorTo_len, List.length_set, HD.out, HV.out, HU.out, HX.out])), rfl⟩
      case o28x2 =>
        exact held_load free_wide rfl BelowR.refl 24 (.tmp 5) rfl fun xH w' kH hR => ⟨_, _, (pO (by kernel_rfl) rfl), ldR OW hR 1 rfl Try.underlying24 rfl (arJ3 (show ((xorTo 3 v x (3 : Nat))).length = 3 by simp only [wordL_len, synL_len, xorTo_len, List.length_set, HD.out, HV.out, HU.out, HX.out])), rfl⟩
      case o28x3 =>
        refine held_call free_wide rfl 20 _ _ rfl (enters_of Try.func20 (by kernel_rfl) rfl) fun xH w' kH hR => ⟨_, mapE3 (pT 0 (by kernel_rfl) (by kernel_rfl) (kH 0 (by decide))) (pT 1 (by kernel_rfl) (by kernel_rfl) (kH 1 (by decide))) (pT 2 (by kernel_rfl) (by kernel_rfl) (kH 2 (by decide))), ?_⟩
        refine (callsIn_wide.2 (synd_any cb fb (xorTo 36 (wordL d v) u (36 : Nat)) (xorTo 3 v x (3 : Nat)) (by simp only [wordL_len, synL_len, xorTo_len, List.length_set, HD.out, HV.out, HU.out, HX.out]) (by simp only [wordL_len, synL_len, xorTo_len, List.length_set, HD.out, HV.out, HU.out, HX.out]) _ (HCODE.out _ _ (OW.out.step hR) rfl rfl rfl))).mono ?_
        rintro e w2 ⟨rfl, h2⟩
        exact ⟨_, rfl, rfl, h2⟩
      case o28x4 =>
        exact held_move free_wide rfl BelowR.refl (.tmp 9) (.inl rfl) fun xH w' kH _ => (pO (by kernel_rfl) rfl)
      case o28x5 =>
        exact held_load free_wide rfl BelowR.refl 23 (.tmp 6) rfl fun xH w' kH hR => ⟨_, _, (pO (by kernel_rfl) rfl), ldR OW hR 2 rfl Try.underlying23 rfl (arJ36 (show (u).length = 36 from HU.out)), rfl⟩
      case o28x6 =>
        exact held_load free_wide rfl BelowR.refl 24 (.tmp 7) rfl fun xH w' kH hR => ⟨_, _, (pO (by kernel_rfl) rfl), ldR OW hR 3 rfl Try.underlying24 rfl (arJ3 (show (x).length = 3 from HX.out)), rfl⟩
      case o28x7 =>
        refine held_call free_wide rfl 20 _ _ rfl (enters_of Try.func20 (by kernel_rfl) rfl) fun xH w' kH hR => ⟨_, mapE3 (pT 4 (by kernel_rfl) (by kernel_rfl) (kH 4 (by decide))) (pT 5 (by kernel_rfl) (by kernel_rfl) (kH 5 (by decide))) (pT 6 (by kernel_rfl) (by kernel_rfl) (kH 6 (by decide))), ?_⟩
        refine (callsIn_wide.2 (synd_any cb fb u x (HU.out) (HX.out) _ (HCODE.out _ _ (OW.out.step hR) rfl rfl rfl))).mono ?_
        rintro e w2 ⟨rfl, h2⟩
        exact ⟨_, rfl, rfl, h2⟩
      case o28x8 =>
        exact held_run free_wide rfl (by rfl) BelowR.refl fun xH w' kH hR => ⟨_, run_binO rfl (pT 3 (by kernel_rfl) (by kernel_rfl) (kH 3 (by decide))) (pT 7 (by kernel_rfl) (by kernel_rfl) (kH 7 (by decide))) (eqT (eq_ar4 _ _ (synL_len _ _) (synL_len _ _) _ _ _) HS.out), rfl⟩
      case o28x9 =>
        exact held_move free_wide rfl BelowR.refl (.tmp 52) (.inl rfl) fun xH w' kH _ => (pT 8 (by kernel_rfl) (by kernel_rfl) (kH 8 (by decide)))
      case o28x10 =>
        exact held_moveG free_wide (heldGd_some 9 53 true rfl (by kernel_rfl) (by kernel_rfl) (by kernel_rfl) (fun xH w' kH => kH 9 (by decide))) BelowR.refl (.tmp 9) (.inl rfl) fun xH w' kH _ => (pO (by kernel_rfl) rfl)
      case o28x11 =>
        exact held_moveG free_wide (heldGd_some 9 53 true rfl (by kernel_rfl) (by kernel_rfl) (by kernel_rfl) (fun xH w' kH => kH 9 (by decide))) BelowR.refl (.tmp 9) (.inl rfl) fun xH w' kH _ => (pO (by kernel_rfl) rfl)
      case o28x12 =>
        exact held_loadG free_wide (heldGd_some 9 53 true rfl (by kernel_rfl) (by kernel_rfl) (by kernel_rfl) (fun xH w' kH => kH 9 (by decide))) BelowR.refl 23 (.tmp 6) rfl fun xH w' kH hR => ⟨_, _, (pO (by kernel_rfl) rfl), ldR OW hR 2 rfl Try.underlying23 rfl (arJ36 (show (u).length = 36 from HU.out)), rfl⟩
      case o28x13 =>
        exact held_loadG free_wide (heldGd_some 9 53 true rfl (by kernel_rfl) (by kernel_rfl) (by kernel_rfl) (fun xH w' kH => kH 9 (by decide))) BelowR.refl 24 (.tmp 7) rfl fun xH w' kH hR => ⟨_, _, (pO (by kernel_rfl) rfl), ldR OW hR 3 rfl Try.underlying24 rfl (arJ3 (show (x).length = 3 from HX.out)), rfl⟩
      case o28x14 =>
        refine held_callG free_wide (heldGd_some 9 53 true rfl (by kernel_rfl) (by kernel_rfl) (by kernel_rfl) (fun xH w' kH => kH 9 (by decide))) 20 _ _ rfl (enters_of Try.func20 (by kernel_rfl) rfl) fun xH w' kH hR => ⟨_, mapE3 (pT 11 (by kernel_rfl) (by kernel_rfl) (kH 11 (by decide))) (pT 12 (by kernel_rfl) (by kernel_rfl) (kH 12 (by decide))) (pT 13 (by kernel_rfl) (by kernel_rfl) (kH 13 (by decide))), ?_⟩
        refine (callsIn_wide.2 (synd_any cb fb u x (HU.out) (HX.out) _ (HCODE.out _ _ (OW.out.step hR) rfl rfl rfl))).mono ?_
        rintro e w2 ⟨rfl, h2⟩
        exact ⟨_, rfl, rfl, h2⟩
      case o28x15 =>
        refine held_callG free_wide (heldGd_some 9 53 true rfl (by kernel_rfl) (by kernel_rfl) (by kernel_rfl) (fun xH w' kH => kH 9 (by decide))) 12 _ _ rfl (enters_of Try.func12 (by kernel_rfl) rfl) fun xH w' kH hR => ⟨_, mapE2 (pT 10 (by kernel_rfl) (by kernel_rfl) (kH 10 (by decide))) (pT 14 (by kernel_rfl) (by kernel_rfl) (kH 14 (by decide))), ?_⟩
        refine (callsIn_wide.2 (locate_any cb fb (synL u x) (by simp only [wordL_len, synL_len, xorTo_len, List.length_set, HD.out, HV.out, HU.out, HX.out]) _ (HCODE.out _ _ (OW.out.step hR) rfl rfl rfl))).mono ?_
        rintro e w2 ⟨rfl, h2⟩
        exact ⟨_, rfl, rfl, h2⟩
      case o28x16 =>
        exact held_moveG free_wide (heldGd_some 9 53 true rfl (by kernel_rfl) (by kernel_rfl) (by kernel_rfl) (fun xH w' kH => kH 9 (by decide))) BelowR.refl (.tmp 9) (.inl rfl) fun xH w' kH _ => (pO (by kernel_rfl) rfl)
      case o28x17 =>
        exact held_loadG free_wide (heldGd_some 9 53 true rfl (by kernel_rfl) (by kernel_rfl) (by kernel_rfl) (fun xH w' kH => kH 9 (by decide))) BelowR.refl 23 (.tmp 10) rfl fun xH w' kH hR => ⟨_, _, (pO (by kernel_rfl) rfl), ldR OW hR 7 rfl Try.underlying23 rfl (arJ36 (show ((xorTo 36 (wordL d v) u (36 : Nat))).length = 36 by simp only [wordL_len, synL_len, xorTo_len, List.length_set, HD.out, HV.out, HU.out, HX.out])), rfl⟩
      case o28x18 =>
        exact held_loadG free_wide (heldGd_some 9 53 true rfl (by kernel_rfl) (by kernel_rfl) (by kernel_rfl) (fun xH w' kH => kH 9 (by decide))) BelowR.refl 24 (.tmp 5) rfl fun xH w' kH hR => ⟨_, _, (pO (by kernel_rfl) rfl), ldR OW hR 1 rfl Try.underlying24 rfl (arJ3 (show ((xorTo 3 v x (3 : Nat))).length = 3 by simp only [wordL_len, synL_len, xorTo_len, List.length_set, HD.out, HV.out, HU.out, HX.out])), rfl⟩
      case o28x19 =>
        refine held_callG free_wide (heldGd_some 9 53 true rfl (by kernel_rfl) (by kernel_rfl) (by kernel_rfl) (fun xH w' kH => kH 9 (by decide))) 21 _ _ rfl (enters_of Try.func21 (by kernel_rfl) rfl) fun xH w' kH hR => ⟨_, mapE3 (pT 16 (by kernel_rfl) (by kernel_rfl) (kH 16 (by decide))) (pT 17 (by kernel_rfl) (by kernel_rfl) (kH 17 (by decide))) (pT 18 (by kernel_rfl) (by kernel_rfl) (kH 18 (by decide))), ?_⟩
        refine (callsIn_wide.2 (verdict_any cb fb (xorTo 36 (wordL d v) u (36 : Nat)) (xorTo 3 v x (3 : Nat)) (by simp only [wordL_len, synL_len, xorTo_len, List.length_set, HD.out, HV.out, HU.out, HX.out]) (by simp only [wordL_len, synL_len, xorTo_len, List.length_set, HD.out, HV.out, HU.out, HX.out]) _ (HCODE.out _ _ (OW.out.step hR) rfl rfl rfl))).mono ?_
        rintro e w2 ⟨rfl, h2⟩
        exact ⟨_, rfl, rfl, h2⟩
      case o28x20 =>
        exact held_runG free_wide (heldGd_some 9 53 true rfl (by kernel_rfl) (by kernel_rfl) (by kernel_rfl) (fun xH w' kH => kH 9 (by decide))) (by rfl) BelowR.refl fun xH w' kH hR => ⟨_, run_binO rfl (pT 15 (by kernel_rfl) (by kernel_rfl) (kH 15 (by decide))) (pT 19 (by kernel_rfl) (by kernel_rfl) (kH 19 (by decide))) (by rw [HS.out]; exact eqV_self _ _ _ _ _ _), rfl⟩
      case o28x21 =>
        exact held_run free_wide rfl (by rfl) BelowR.refl fun xH w' kH hR => ⟨_, run_pickT rfl (pT 9 (by kernel_rfl) (by kernel_rfl) (kH 9 (by decide))) (pT 20 (by kernel_rfl) (by kernel_rfl) (kH 20 (by decide))), rfl⟩
      case o28x22 =>
        exact held_move free_wide rfl BelowR.refl (.tmp 65) (.inr rfl) fun xH w' kH _ => (pT 21 (by kernel_rfl) (by kernel_rfl) (kH 21 (by decide)))
      intro xH w' hv hR
      have h0 : xH 0 = _ := hv 0 (by omega)
      have h1 : xH 1 = _ := hv 1 (by omega)
      have h2 : xH 2 = _ := hv 2 (by omega)
      have h3 : xH 3 = _ := hv 3 (by omega)
      have h4 : xH 4 = _ := hv 4 (by omega)
      have h5 : xH 5 = _ := hv 5 (by omega)
      have h6 : xH 6 = _ := hv 6 (by omega)
      have h7 : xH 7 = _ := hv 7 (by omega)
      have h8 : xH 8 = _ := hv 8 (by omega)
      have h9 : xH 9 = _ := hv 9 (by omega)
      have h10 : xH 10 = _ := hv 10 (by omega)
      have h11 : xH 11 = _ := hv 11 (by omega)
      have h12 : xH 12 = _ := hv 12 (by omega)
      have h13 : xH 13 = _ := hv 13 (by omega)
      have h14 : xH 14 = _ := hv 14 (by omega)
      have h15 : xH 15 = _ := hv 15 (by omega)
      have h16 : xH 16 = _ := hv 16 (by omega)
      have h17 : xH 17 = _ := hv 17 (by omega)
      have h18 : xH 18 = _ := hv 18 (by omega)
      have h19 : xH 19 = _ := hv 19 (by omega)
      have h20 : xH 20 = _ := hv 20 (by omega)
      have h21 : xH 21 = _ := hv 21 (by omega)
      have h22 : xH 22 = _ := hv 22 (by omega)
      simp only [List.take_succ_cons, List.take_zero, List.drop_succ_cons, List.drop_zero, putsH, Act.put, List.setIfInBounds_toArray, List.set_cons_succ, List.set_cons_zero, h0, h1, h2, h3, h4, h5, h6, h7, h8, h9, h10, h11, h12, h13, h14, h15, h16, h17, h18, h19, h20, h21, h22]
      have OW2 := Lib.hid (OW.out.step hR)
      clear hv hR OW OZ h0 h1 h2 h3 h4 h5 h6 h7 h8 h9 h10 h11 h12 h13 h14 h15 h16 h17 h18 h19 h20 h21 h22
      have OW := OW2
      clear OW2
      obtain ⟨g29, OZ⟩ := own_size OW HB0
      gi_wp2
      refine leaves_own [] _ (Nat.le_of_eq HB0.out) (by simpa using OW.out) ?_
      intro W' hO
      exact ⟨.bool true, by simp [results, Try.results8, go_sem], rfl, hO.done HB0⟩
end Go.Proofs.Ytdgflbbffimpkaa
