/- The statement RsApart: its walk. -/
import Derived.Test.YtdgflbbffimpkaaRsT
import Derived.Test.YtdgflbbffimpkaaHeldM
import Derived.Test.YtdgflbbffimpkaaArrO
namespace Go.Proofs.Ytdgflbbffimpkaa
open Go.RowKit Go.Shelf
attribute [local go_sem] Oper.semAt_some
set_option linter.unusedVariables false
set_option linter.unusedSimpArgs false

/-- How many of the first k places differ. -/
def difK (x y : List UInt8) : Nat → Nat
  | 0 => 0
  | k + 1 => if x.getD k 0 = y.getD k 0 then difK x y k else difK x y k + 1
theorem difK_same {x y : List UInt8} {k : Nat} (h : (((x.getD k 0).toNat : Int) != ((y.getD k 0).toNat : Int)) = false) : difK x y (k + 1) = difK x y k := by
  rw [difK, if_pos]
  unfold bne at h
  rw [u8I_eq] at h
  simpa using h
theorem difK_more {x y : List UInt8} {k : Nat} (h : (((x.getD k 0).toNat : Int) != ((y.getD k 0).toNat : Int)) = true) : difK x y (k + 1) = difK x y k + 1 := by
  rw [difK, if_neg]
  unfold bne at h
  rw [u8I_eq] at h
  simpa using h
theorem difK_le (x y : List UInt8) (k : Nat) : difK x y k ≤ k := by
  induction k with
  | zero => exact Nat.le_refl _
  | succ k ih => rw [difK]; split <;> omega
theorem difK_supp (x y : List UInt8) (k : Nat) : difK x y k = (supp (fun i => co x i ^^^ co y i) k).length := by
  induction k with
  | zero => rfl
  | succ k ih =>
    rw [supp_succ, List.length_append, ← ih, difK]
    by_cases h : x.getD k 0 = y.getD k 0
    · rw [if_pos h, if_neg (by simp only [bne_iff_ne, ne_eq, Classical.not_not]; exact UInt8.xor_eq_zero_iff.2 h)]; rfl
    · rw [if_neg h, if_pos (by simp only [bne_iff_ne, ne_eq]; exact fun e => h (UInt8.xor_eq_zero_iff.1 e))]; rfl
theorem apart {d v e x : List UInt8} (hd : d.length = 32) (hv : v.length = 3) (he : e.length = 32) (hx : x.length = 3) (h : difK (wordL d v ++ v) (wordL e x ++ x) 39 < 5) : difK (wordL d v ++ v) (wordL e x ++ x) 39 = 0 ∧ d = e ∧ v = x := by
  rw [difK_supp] at h ⊢
  have hz := mds39 (f := fun i => co (wordL d v ++ v) i ^^^ co (wordL e x ++ x) i) (by omega) ((word_isC d v hd hv).xor (word_isC e x he hx))
  have hq : ∀ i, i < 39 → co (wordL d v ++ v) i = co (wordL e x ++ x) i := fun i hi => UInt8.xor_eq_zero_iff.1 (hz i hi)
  refine ⟨?_, list_ext (by rw [hd, he]) fun i hi => ?_, list_ext (by rw [hv, hx]) fun i hi => ?_⟩
  · have : (supp (fun i => co (wordL d v ++ v) i ^^^ co (wordL e x ++ x) i) 39).length ≤ ([] : List Nat).length := supp_le fun i hi hne => absurd (hz i hi) hne
    simpa using this
  · have := hq (4 + i) (by omega)
    rw [co_left (by rw [wordL_len d v hd]; omega), co_left (by rw [wordL_len e x he]; omega)] at this
    exact ((co_right (y := d) (i := i) (chkL_len d v)).symm.trans this).trans (co_right (y := e) (i := i) (chkL_len e x))
  · have := hq (36 + i) (by omega)
    rw [co_right (wordL_len d v hd), co_right (wordL_len e x he)] at this
    exact this
theorem apart_bool {d v e x : List UInt8} (hd : d.length = 32) (hv : v.length = 3) (he : e.length = 32) (hx : x.length = 3) {n : Int} (hn : n = (difK (wordL d v ++ v) (wordL e x ++ x) 39 : Nat)) : (((n == 0 && decide (d = e)) && decide (v = x)) || decide (5 ≤ n)) = true := by
  subst hn
  by_cases h : difK (wordL d v ++ v) (wordL e x ++ x) 39 < 5
  · obtain ⟨h1, h2, h3⟩ := apart hd hv he hx h
    rw [h1]
    simp [h2, h3]
  · have : (5 : Int) ≤ (difK (wordL d v ++ v) (wordL e x ++ x) 39 : Nat) := by omega
    simp [this]
attribute [local irreducible] wordL chkL gm

set_option maxRecDepth 100000 in
set_option maxHeartbeats 1000000 in
theorem RsApart_any (d y v x : List UInt8) (hd : d.length = 32) (hy : y.length = 32) (hv : v.length = 3) (hx : x.length = 3) (w : World) : Calls Try.prog 7 #[.agg (rawV d), .agg (rawV y), .agg (rawV v), .agg (rawV x)] w fun e w' => e = .returned (.bool true) ∧ Below w.heap.size w w' := by
  obtain ⟨b0, hb0⟩ : ∃ b0, w.heap.size = b0 := ⟨_, rfl⟩
  have HB0 := Lib.hid hb0
  have OW := Lib.hid (Own.start b0 w)
  have OZ := Lib.hid (And.intro hb0 (Nat.le_refl b0))
  clear hb0
  have HD := Lib.hid hd
  have HY := Lib.hid hy
  have HV := Lib.hid hv
  have HX := Lib.hid hx
  clear hd hy hv hx
  refine (callsIn_wide (n := 6)).1 ?_
  refine callsIn_of_wp_marks Try.func7 rfl trivial ?_ rfl
  simp only [Try.ntmps7, List.size_toArray, List.length_cons, List.length_nil, Nat.reduceAdd, Nat.reduceSub, Array.replicate_succ, Array.replicate_zero, List.push_toArray, List.append_toArray, List.nil_append, List.cons_append]
  gi_upto_region 1 with (first | (refine onlyD 4 rfl ?_; refine own_boxV 4 32 (.tmp 0) rfl rfl rfl (.agg (rawV d)) rfl (rawV d) rfl OW OZ ?_; clear OW OZ; intro W g1 OW OZ; simp only [Act.put, List.setIfInBounds_toArray, List.set_cons_succ, List.set_cons_zero]) | (refine onlyD 5 rfl ?_; refine own_boxV 5 32 (.tmp 1) rfl rfl rfl (.agg (rawV y)) rfl (rawV y) rfl OW OZ ?_; clear OW OZ; intro W g2 OW OZ; simp only [Act.put, List.setIfInBounds_toArray, List.set_cons_succ, List.set_cons_zero]) | (refine onlyD 6 rfl ?_; refine own_boxV 6 24 (.tmp 2) rfl rfl rfl (.agg (rawV v)) rfl (rawV v) rfl OW OZ ?_; clear OW OZ; intro W g3 OW OZ; simp only [Act.put, List.setIfInBounds_toArray, List.set_cons_succ, List.set_cons_zero]) | (refine onlyD 7 rfl ?_; refine own_boxV 7 24 (.tmp 3) rfl rfl rfl (.agg (rawV x)) rfl (rawV x) rfl OW OZ ?_; clear OW OZ; intro W g4 OW OZ; simp only [Act.put, List.setIfInBounds_toArray, List.set_cons_succ, List.set_cons_zero]))
  gi_wp2_with fail
  refine ⟨trivial, ?_⟩
  refine (callsIn_wide.2 (coded_any _)).mono ?_
  rintro e Wg ⟨cb, fb, gb, rest, rfl, hO⟩
  have OW1 := Lib.hid (Own.join OW.out (by rw [OZ.out.1]; exact OZ.out.2) hO)
  clear OW OZ hO
  have OW := OW1
  clear OW1
  obtain ⟨grg5, OZ⟩ := own_size OW HB0
  have HCODE := Lib.hid (fun (L : Objs) (V : World) (h : Own b0 w L V) (h1 : L[4]? = some (fb, Obj.cells fieldCells 68 (0, 0))) (h2 : L[5]? = some (gb, Obj.cells (rowV genL rest) 5 (0, 0))) (h3 : L[6]? = some (cb, Obj.cells #[.pointer (some ⟨fb, 0, none⟩), .slice (some ⟨gb, 0, none⟩) 5 (5 + rest.length)] 59 (0, 0))) => CodeAt.mk3 h h1 h2 h3)
  gi_upto_region 2 with fail
  refine wpIn_region_heldL 2 (atD [[], [0]]) (atV [fun vH _ => vH = .pointer (some ⟨cb, 0, none⟩), fun vH _ => vH = .bool false]) BelowR (by kernel_rfl) BelowR.trans (BelowR.refl _)
    (StV.atV (.const _ (.const _ .nil)))
    ⟨?o6x0, ?o6x1, trivial⟩ ?_
  case o6x0 =>
    exact held_move free_wide rfl BelowR.refl (.tmp 9) (.inl rfl) fun xH w' kH _ => (pO (by kernel_rfl) rfl)
  case o6x1 =>
    exact held_run free_wide rfl (by rfl) BelowR.refl fun xH w' kH hR => ⟨_, run_binO rfl (pT 0 (by kernel_rfl) (by kernel_rfl) (kH 0 (by decide))) rfl (by kernel_rfl), rfl⟩
  intro xH w' hv hR
  have h0 : xH 0 = _ := hv 0 (by omega)
  have h1 : xH 1 = _ := hv 1 (by omega)
  simp only [List.take_succ_cons, List.take_zero, List.drop_succ_cons, List.drop_zero, putsH, Act.put, List.setIfInBounds_toArray, List.set_cons_succ, List.set_cons_zero, h0, h1]
  have OW2 := Lib.hid (OW.out.step hR)
  clear hv hR OW OZ  h0 h1
  have OW := OW2
  clear OW2
  obtain ⟨g7, OZ⟩ := own_size OW HB0
  gi_upto_region 4 with fail
  refine wpIn_region_heldM 14 (atD [[], [], [], [0, 1, 2], [], [3, 4], [], [], [], [6, 7, 8], [], [9, 10], [], []]) (fun k => k == 12 || k == 13) (atV [fun vH _ => vH = .pointer (some ⟨cb, 0, none⟩), fun vH _ => vH = .agg (rawV d), fun vH _ => vH = .agg (rawV v), fun vH _ => vH = .agg (rawV (wordL d v)), fun vH _ => vH = .agg (rawV v), fun vH _ => vH = .agg (rawV ((wordL d v) ++ v)), fun vH _ => vH = .pointer (some ⟨cb, 0, none⟩), fun vH _ => vH = .agg (rawV y), fun vH _ => vH = .agg (rawV x), fun vH _ => vH = .agg (rawV (wordL y x)), fun vH _ => vH = .agg (rawV x), fun vH _ => vH = .agg (rawV ((wordL y x) ++ x)), MadeB g7 36 (rawV (List.replicate 39 0)), MadeB g7 36 (rawV (List.replicate 39 0))]) BelowR (by kernel_rfl) (by kernel_rfl) BelowR.trans (BelowR.drew _)
    (StV.atV (.const _ (.const _ (.const _ (.const _ (.const _ (.const _ (.const _ (.const _ (.const _ (.const _ (.const _ (.const _ (.cons (fun v x y h k => MadeB.step h k) (.cons (fun v x y h k => MadeB.step h k) .nil)))))))))))))))
    ⟨?o8x0, ?o8x1, ?o8x2, ?o8x3, ?o8x4, ?o8x5, ?o8x6, ?o8x7, ?o8x8, ?o8x9, ?o8x10, ?o8x11, ?o8x12, ?o8x13, trivial⟩ ?o8hM ?_
  case o8hM =>
    intro i v x hMi h
    have e : i = 12 ∨ i = 13 := by simpa using hMi
    rcases e with rfl | rfl <;> exact MadeB.old h
  case o8x0 =>
    refine HeldOpM.of rfl ?_
    exact held_move free_wide rfl BelowR.refl (.tmp 9) (.inl rfl) fun xH w' kH _ => (pO (by kernel_rfl) rfl)
  case o8x1 =>
    refine HeldOpM.of rfl ?_
    exact held_load free_wide rfl BelowR.refl 32 (.tmp 4) rfl fun xH w' kH hR => ⟨_, _, (pO (by kernel_rfl) rfl), ldR OW hR 0 rfl Try.underlying32 rfl (arJ32 (show (d).length = 32 from HD.out)), rfl⟩
  case o8x2 =>
    refine HeldOpM.of rfl ?_
    exact held_load free_wide rfl BelowR.refl 24 (.tmp 6) rfl fun xH w' kH hR => ⟨_, _, (pO (by kernel_rfl) rfl), ldR OW hR 2 rfl Try.underlying24 rfl (arJ3 (show (v).length = 3 from HV.out)), rfl⟩
  case o8x3 =>
    refine HeldOpM.of rfl ?_
    refine held_call free_wide rfl 16 _ _ rfl (enters_of Try.func16 (by kernel_rfl) rfl) fun xH w' kH hR => ⟨_, mapE3 (pT 0 (by kernel_rfl) (by kernel_rfl) (kH 0 (by decide))) (pT 1 (by kernel_rfl) (by kernel_rfl) (kH 1 (by decide))) (pT 2 (by kernel_rfl) (by kernel_rfl) (kH 2 (by decide))), ?_⟩
    refine (callsIn_wide.2 (word_any cb fb d v (HD.out) (HV.out) _ (HCODE.out _ _ (OW.out.step hR) rfl rfl rfl))).mono ?_
    rintro e w2 ⟨rfl, h2⟩
    exact ⟨_, rfl, rfl, h2⟩
  case o8x4 =>
    refine HeldOpM.of rfl ?_
    exact held_load free_wide rfl BelowR.refl 24 (.tmp 6) rfl fun xH w' kH hR => ⟨_, _, (pO (by kernel_rfl) rfl), ldR OW hR 2 rfl Try.underlying24 rfl (arJ3 (show (v).length = 3 from HV.out)), rfl⟩
  case o8x5 =>
    refine HeldOpM.of rfl ?_
    refine held_call free_wide rfl 15 _ _ rfl (enters_of Try.func15 (by kernel_rfl) rfl) fun xH w' kH hR => ⟨_, mapE2 (pT 3 (by kernel_rfl) (by kernel_rfl) (kH 3 (by decide))) (pT 4 (by kernel_rfl) (by kernel_rfl) (kH 4 (by decide))), ?_⟩
    refine (callsIn_wide.2 (refWord_any (wordL d v) v (by simp only [wordL_len, List.length_append, Nat.reduceAdd, HD.out, HY.out, HV.out, HX.out]) (HV.out) _)).mono ?_
    rintro e w2 ⟨rfl, h2⟩
    exact ⟨_, rfl, rfl, h2⟩
  case o8x6 =>
    refine HeldOpM.of rfl ?_
    exact held_move free_wide rfl BelowR.refl (.tmp 9) (.inl rfl) fun xH w' kH _ => (pO (by kernel_rfl) rfl)
  case o8x7 =>
    refine HeldOpM.of rfl ?_
    exact held_load free_wide rfl BelowR.refl 32 (.tmp 5) rfl fun xH w' kH hR => ⟨_, _, (pO (by kernel_rfl) rfl), ldR OW hR 1 rfl Try.underlying32 rfl (arJ32 (show (y).length = 32 from HY.out)), rfl⟩
  case o8x8 =>
    refine HeldOpM.of rfl ?_
    exact held_load free_wide rfl BelowR.refl 24 (.tmp 7) rfl fun xH w' kH hR => ⟨_, _, (pO (by kernel_rfl) rfl), ldR OW hR 3 rfl Try.underlying24 rfl (arJ3 (show (x).length = 3 from HX.out)), rfl⟩
  case o8x9 =>
    refine HeldOpM.of rfl ?_
    refine held_call free_wide rfl 16 _ _ rfl (enters_of Try.func16 (by kernel_rfl) rfl) fun xH w' kH hR => ⟨_, mapE3 (pT 6 (by kernel_rfl) (by kernel_rfl) (kH 6 (by decide))) (pT 7 (by kernel_rfl) (by kernel_rfl) (kH 7 (by decide))) (pT 8 (by kernel_rfl) (by kernel_rfl) (kH 8 (by decide))), ?_⟩
    refine (callsIn_wide.2 (word_any cb fb y x (HY.out) (HX.out) _ (HCODE.out _ _ (OW.out.step hR) rfl rfl rfl))).mono ?_
    rintro e w2 ⟨rfl, h2⟩
    exact ⟨_, rfl, rfl, h2⟩
  case o8x10 =>
    refine HeldOpM.of rfl ?_
    exact held_load free_wide rfl BelowR.refl 24 (.tmp 7) rfl fun xH w' kH hR => ⟨_, _, (pO (by kernel_rfl) rfl), ldR OW hR 3 rfl Try.underlying24 rfl (arJ3 (show (x).length = 3 from HX.out)), rfl⟩
  case o8x11 =>
    refine HeldOpM.of rfl ?_
    refine held_call free_wide rfl 15 _ _ rfl (enters_of Try.func15 (by kernel_rfl) rfl) fun xH w' kH hR => ⟨_, mapE2 (pT 9 (by kernel_rfl) (by kernel_rfl) (kH 9 (by decide))) (pT 10 (by kernel_rfl) (by kernel_rfl) (kH 10 (by decide))), ?_⟩
    refine (callsIn_wide.2 (refWord_any (wordL y x) x (by simp only [wordL_len, List.length_append, Nat.reduceAdd, HD.out, HY.out, HV.out, HX.out]) (HX.out) _)).mono ?_
    rintro e w2 ⟨rfl, h2⟩
    exact ⟨_, rfl, rfl, h2⟩
  case o8x12 =>
    exact held_allocM free_wide rfl 36 rfl (rawV (List.replicate 39 0)) al39 (fun w' hR => by have h := MadeB.new 36 (rawV (List.replicate 39 0)) hR; rw [OZ.out.1] at h; exact h) (fun w' => (Below.refl _ w').alloc (Nat.le_refl _) _)
  case o8x13 =>
    exact held_allocM free_wide rfl 36 rfl (rawV (List.replicate 39 0)) al39 (fun w' hR => by have h := MadeB.new 36 (rawV (List.replicate 39 0)) hR; rw [OZ.out.1] at h; exact h) (fun w' => (Below.refl _ w').alloc (Nat.le_refl _) _)
  intro xH w' hv hE hR
  have h0 : xH 0 = _ := hv 0 (by omega)
  have h1 : xH 1 = _ := hv 1 (by omega)
  have h2 : xH 2 = _ := hv 2 (by omega)
  have h3 : xH 3 = _ := hv 3 (by omega)
  have h4 : xH 4 = _ := hv 4 (by omega)
  have h5 : xH 5 = _ := hv 5 (by omega)
  have h6 : xH 6 = _ := hv 6 (by omega)
  have h7 : xH 7 = _ := hv 7 (by omega)
  have h8 : xH 8 = _ := hv 8 (by omega)
  have h9 : xH 9 = _ := hv 9 (by omega)
  have h10 : xH 10 = _ := hv 10 (by omega)
  have h11 : xH 11 = _ := hv 11 (by omega)
  obtain ⟨ga9, h12, hb12, hk12⟩ : MadeB g7 36 (rawV (List.replicate 39 0)) (xH 12) w' := hv 12 (by omega)
  obtain ⟨ga10, h13, hb13, hk13⟩ : MadeB g7 36 (rawV (List.replicate 39 0)) (xH 13) w' := hv 13 (by omega)
  simp only [List.take_succ_cons, List.take_zero, List.drop_succ_cons, List.drop_zero, putsH, Act.put, List.setIfInBounds_toArray, List.set_cons_succ, List.set_cons_zero, h0, h1, h2, h3, h4, h5, h6, h7, h8, h9, h10, h11, h12, h13]
  have hne : ga9 ≠ ga10 := fun e => hE 12 13 (by omega) (by omega) rfl rfl (by decide) (by rw [h12, h13, e])
  have OW2 := Lib.hid (Own.add2 OW.out (show Below _ _ w' from hR) (by rw [OZ.out.1]; exact OZ.out.2) (by rw [OZ.out.1]; exact hb12) hk12 (by rw [OZ.out.1]; exact hb13) hk13 hne)
  clear hv hR OW OZ hE hne hb12 hk12 hb13 hk13 h0 h1 h2 h3 h4 h5 h6 h7 h8 h9 h10 h11 h12 h13
  have OW := OW2
  clear OW2
  obtain ⟨g11, OZ⟩ := own_size OW HB0
  gi_wp2_with (first | (refine onlyO (.store 36 (.tmp 10) (.tmp 22)) rfl ?_; refine own_storeRow 7 36 (.tmp 10) (.tmp 22) rfl rfl rfl rfl (rawV ((wordL d v) ++ v)) rfl (by rw [rawV_size, rawV_size, (show (((wordL d v) ++ v)).length = 39 by simp only [wordL_len, List.length_append, Nat.reduceAdd, HD.out, HY.out, HV.out, HX.out]), (show ((List.replicate 39 0) : List UInt8).length = 39 from List.length_replicate)]) (rawV_one _) (arJ39 (show (((wordL d v) ++ v)).length = 39 by simp only [wordL_len, List.length_append, Nat.reduceAdd, HD.out, HY.out, HV.out, HX.out])) _ rfl OW OZ ?_; clear OW OZ; intro W OW OZ; simp only [Act.put, List.setIfInBounds_toArray, List.set_cons_succ, List.set_cons_zero]) | (refine onlyO (.store 36 (.tmp 11) (.tmp 28)) rfl ?_; refine own_storeRow 8 36 (.tmp 11) (.tmp 28) rfl rfl rfl rfl (rawV ((wordL y x) ++ x)) rfl (by rw [rawV_size, rawV_size, (show (((wordL y x) ++ x)).length = 39 by simp only [wordL_len, List.length_append, Nat.reduceAdd, HD.out, HY.out, HV.out, HX.out]), (show ((List.replicate 39 0) : List UInt8).length = 39 from List.length_replicate)]) (rawV_one _) (arJ39 (show (((wordL y x) ++ x)).length = 39 by simp only [wordL_len, List.length_append, Nat.reduceAdd, HD.out, HY.out, HV.out, HX.out])) _ rfl OW OZ ?_; clear OW OZ; intro W OW OZ; simp only [Act.put, List.setIfInBounds_toArray, List.set_cons_succ, List.set_cons_zero]))
  gi_loopw [12, 29] (fun z12 z29 wr => ∃ k : Nat, k ≤ 39 ∧ z12 = .int .i64 ((difK (wordL d v ++ v) (wordL y x ++ x) k : Nat) : Int) ∧ z29 = .int .i64 (k : Int) ∧ Own b0 w [(b0, Obj.cells (rawV d) 32 (0, 0)), (g1, Obj.cells (rawV y) 32 (0, 0)), (g2, Obj.cells (rawV v) 24 (0, 0)), (g3, Obj.cells (rawV x) 24 (0, 0)), (fb, Obj.cells (fieldCells) 68 (0, 0)), (gb, Obj.cells (rowV genL rest) 5 (0, 0)), (cb, Obj.cells (#[.pointer (some ⟨fb, 0, none⟩), .slice (some ⟨gb, 0, none⟩) 5 (5 + rest.length)]) 59 (0, 0)), (ga9, Obj.cells (rawV ((wordL d v) ++ v)) 36 (0, 0)), (ga10, Obj.cells (rawV ((wordL y x) ++ x)) 36 (0, 0))] wr) (fun z12 z29 _ => 39 - (intOf z29).toNat)
  case atStart => exact ⟨0, by omega, rfl, rfl, (by skip; exact OW.out)⟩
  case round =>
    obtain ⟨k, hk13, rfl, rfl, hO⟩ := hrel
    clear OW OZ
    have OW := Lib.hid hO
    obtain ⟨g12, OZ⟩ := own_size OW HB0
    clear hO
    have hdk := difK_le (wordL d v ++ v) (wordL y x ++ x) k
    gi_upto_region 7 with fail
    obtain ⟨eo140, qeo140⟩ : ∃ e, (decide ((k : Int) < 39)) = e := ⟨_, rfl⟩
    refine wpIn_region_heldL 1 (atD [[]]) (atV [fun vH _ => vH = .bool eo140]) BelowR (by kernel_rfl) BelowR.trans (BelowR.refl _)
      (StV.atV (.const _ .nil))
      ⟨?o14x0, trivial⟩ ?_
    case o14x0 =>
      exact held_run free_wide rfl (by rfl) BelowR.refl fun xH w' kH hR => ⟨_, run_binO rfl (pO (by kernel_rfl) rfl) rfl bin_lss, (congrArg Value.bool qeo140)⟩
    intro xH w' hv hR
    subst qeo140
    have h0 : xH 0 = _ := hv 0 (by omega)
    simp only [List.take_succ_cons, List.take_zero, List.drop_succ_cons, List.drop_zero, putsH, Act.put, List.setIfInBounds_toArray, List.set_cons_succ, List.set_cons_zero, h0]
    have OW2 := Lib.hid (OW.out.step hR)
    clear hv hR OW OZ  h0
    have OW := OW2
    clear OW2
    obtain ⟨g15, OZ⟩ := own_size OW HB0
    cases hB16 : (decide ((k : Int) < 39))
    case true =>
      have dhB16 := of_decide_eq_true hB16
      gi_upto_region 8 with fail
      refine wpIn_region_heldL 2 (atD [[], [0]]) (atV [fun vH _ => vH = .int .i64 (k : Int), fun vH _ => vH = .int .i64 (k : Int)]) BelowR (by kernel_rfl) BelowR.trans (BelowR.refl _)
        (StV.atV (.const _ (.const _ .nil)))
        ⟨?o17x0, ?o17x1, trivial⟩ ?_
      case o17x0 =>
        exact held_move free_wide rfl BelowR.refl (.tmp 29) (.inl rfl) fun xH w' kH _ => (pO (by kernel_rfl) rfl)
      case o17x1 =>
        exact held_move free_wide rfl BelowR.refl (.tmp 31) (.inr rfl) fun xH w' kH _ => (pT 0 (by kernel_rfl) (by kernel_rfl) (kH 0 (by decide)))
      intro xH w' hv hR
      have h0 : xH 0 = _ := hv 0 (by omega)
      have h1 : xH 1 = _ := hv 1 (by omega)
      simp only [List.take_succ_cons, List.take_zero, List.drop_succ_cons, List.drop_zero, putsH, Act.put, List.setIfInBounds_toArray, List.set_cons_succ, List.set_cons_zero, h0, h1]
      have OW2 := Lib.hid (OW.out.step hR)
      clear hv hR OW OZ  h0 h1
      have OW := OW2
      clear OW2
      obtain ⟨g18, OZ⟩ := own_size OW HB0
      gi_upto_region 9 with fail
      obtain ⟨eo196, qeo196⟩ : ∃ e, (((((wordL d v) ++ v).getD k 0).toNat : Int) != ((((wordL y x) ++ x).getD k 0).toNat : Int)) = e := ⟨_, rfl⟩
      refine wpIn_region_held 7 (atD [[], [0], [1], [], [3], [4], [2, 5]]) (atV [fun vH _ => vH = .int .i64 (k : Int), fun vH _ => vH = .pointer (some ⟨ga9, k, none⟩), fun vH _ => vH = .int .u8 ((((wordL d v) ++ v).getD k 0).toNat : Int), fun vH _ => vH = .int .i64 (k : Int), fun vH _ => vH = .pointer (some ⟨ga10, k, none⟩), fun vH _ => vH = .int .u8 ((((wordL y x) ++ x).getD k 0).toNat : Int), fun vH _ => vH = .bool eo196]) BelowR (by kernel_rfl) (by kernel_rfl) BelowR.trans (BelowR.drew _)
        (StV.atV (.const _ (.const _ (.const _ (.const _ (.const _ (.const _ (.const _ .nil))))))))
        ⟨?o19x0, ?o19x1, ?o19x2, ?o19x3, ?o19x4, ?o19x5, ?o19x6, trivial⟩ ?_
      case o19x0 =>
        exact held_move free_wide rfl BelowR.refl (.tmp 13) (.inl rfl) fun xH w' kH _ => (pO (by kernel_rfl) rfl)
      case o19x1 =>
        exact held_run free_wide rfl (by rfl) BelowR.refl fun xH w' kH hR => ⟨_, run_idxO (vx := .pointer (some ⟨ga9, 0, none⟩)) (vi := .int .i64 (k : Int)) rfl (pO (by kernel_rfl) rfl) (pT 0 (by kernel_rfl) (by kernel_rfl) (kH 0 (by decide))) (arX39 _ k (by omega) _), rfl⟩
      case o19x2 =>
        exact held_load free_wide rfl BelowR.refl 5 (.tmp 33) rfl fun xH w' kH hR => ⟨_, _, (pT 1 (by kernel_rfl) (by kernel_rfl) (kH 1 (by decide))), ldC OW hR 7 rfl (rawV_get _ (by rw [(show (((wordL d v) ++ v)).length = 39 by simp only [wordL_len, List.length_append, Nat.reduceAdd, HD.out, HY.out, HV.out, HX.out])]; omega)) naU8, rfl⟩
      case o19x3 =>
        exact held_move free_wide rfl BelowR.refl (.tmp 13) (.inl rfl) fun xH w' kH _ => (pO (by kernel_rfl) rfl)
      case o19x4 =>
        exact held_run free_wide rfl (by rfl) BelowR.refl fun xH w' kH hR => ⟨_, run_idxO (vx := .pointer (some ⟨ga10, 0, none⟩)) (vi := .int .i64 (k : Int)) rfl (pO (by kernel_rfl) rfl) (pT 3 (by kernel_rfl) (by kernel_rfl) (kH 3 (by decide))) (arX39 _ k (by omega) _), rfl⟩
      case o19x5 =>
        exact held_load free_wide rfl BelowR.refl 5 (.tmp 36) rfl fun xH w' kH hR => ⟨_, _, (pT 4 (by kernel_rfl) (by kernel_rfl) (kH 4 (by decide))), ldC OW hR 8 rfl (rawV_get _ (by rw [(show (((wordL y x) ++ x)).length = 39 by simp only [wordL_len, List.length_append, Nat.reduceAdd, HD.out, HY.out, HV.out, HX.out])]; omega)) naU8, rfl⟩
      case o19x6 =>
        exact held_run free_wide rfl (by rfl) BelowR.refl fun xH w' kH hR => ⟨_, run_binO rfl (pT 2 (by kernel_rfl) (by kernel_rfl) (kH 2 (by decide))) (pT 5 (by kernel_rfl) (by kernel_rfl) (kH 5 (by decide))) bin_neq, (congrArg Value.bool qeo196)⟩
      intro xH w' hv hR
      subst qeo196
      have h0 : xH 0 = _ := hv 0 (by omega)
      have h1 : xH 1 = _ := hv 1 (by omega)
      have h2 : xH 2 = _ := hv 2 (by omega)
      have h3 : xH 3 = _ := hv 3 (by omega)
      have h4 : xH 4 = _ := hv 4 (by omega)
      have h5 : xH 5 = _ := hv 5 (by omega)
      have h6 : xH 6 = _ := hv 6 (by omega)
      simp only [List.take_succ_cons, List.take_zero, List.drop_succ_cons, List.drop_zero, putsH, Act.put, List.setIfInBounds_toArray, List.set_cons_succ, List.set_cons_zero, h0, h1, h2, h3, h4, h5, h6]
      have OW2 := Lib.hid (OW.out.step hR)
      clear hv hR OW OZ  h0 h1 h2 h3 h4 h5 h6
      have OW := OW2
      clear OW2
      obtain ⟨g20, OZ⟩ := own_size OW HB0
      cases hB21 : (((((wordL d v) ++ v).getD k 0).toNat : Int) != ((((wordL y x) ++ x).getD k 0).toNat : Int))
      case true =>
        gi_wp2_with (first | (refine onlyD 40 rfl ?_; refine own_valV 40 rfl rfl rfl (.int .i64 (((difK (wordL d v ++ v) (wordL y x ++ x) k : Nat) : Int) + 1)) (run_binO (vx := .int .i64 ((difK (wordL d v ++ v) (wordL y x ++ x) k : Nat) : Int)) (vy := .int .i64 1) rfl rfl rfl (bin_add_in (by omega) (by omega))) ?_; simp only [Act.put, List.setIfInBounds_toArray, List.set_cons_succ, List.set_cons_zero]) | (refine onlyD 41 rfl ?_; refine own_valV 41 rfl rfl rfl (.int .i64 ((k : Int) + 1)) (run_binO (vx := .int .i64 (k : Int)) (vy := .int .i64 1) rfl rfl rfl (bin_add_in (by omega) (by omega))) ?_; simp only [Act.put, List.setIfInBounds_toArray, List.set_cons_succ, List.set_cons_zero]))
        go_roundw
        case rel => exact ⟨k + 1, by omega, (by first | rw [difK_same (by assumption)] | (rw [difK_more (by assumption)]; rfl)), by go_num, (by skip; exact OW.out)⟩
        case measure => (simp [intOf] <;> omega)
      gi_wp2_with (first | (refine onlyD 41 rfl ?_; refine own_valV 41 rfl rfl rfl (.int .i64 ((k : Int) + 1)) (run_binO (vx := .int .i64 (k : Int)) (vy := .int .i64 1) rfl rfl rfl (bin_add_in (by omega) (by omega))) ?_; simp only [Act.put, List.setIfInBounds_toArray, List.set_cons_succ, List.set_cons_zero]))
      go_roundw
      case rel => exact ⟨k + 1, by omega, (by first | rw [difK_same (by assumption)] | (rw [difK_more (by assumption)]; rfl)), by go_num, (by skip; exact OW.out)⟩
      case measure => (simp [intOf] <;> omega)
    have dhB16 := of_decide_eq_false hB16
    obtain rfl : k = 39 := by omega
    gi_upto_region 12 with fail
    obtain ⟨eo221, qeo221⟩ : ∃ e, (((difK (wordL d v ++ v) (wordL y x ++ x) (39 : Nat) : Nat) : Int) == 0) = e := ⟨_, rfl⟩
    obtain ⟨eo225, qeo225⟩ : ∃ e, (decide (d = y)) = e := ⟨_, rfl⟩
    obtain ⟨eo226, qeo226⟩ : ∃ e, (eo221 && eo225) = e := ⟨_, rfl⟩
    obtain ⟨eo2210, qeo2210⟩ : ∃ e, (decide (v = x)) = e := ⟨_, rfl⟩
    obtain ⟨eo2211, qeo2211⟩ : ∃ e, (eo226 && eo2210) = e := ⟨_, rfl⟩
    obtain ⟨eo2214, qeo2214⟩ : ∃ e, (decide (5 ≤ ((difK (wordL d v ++ v) (wordL y x ++ x) (39 : Nat) : Nat) : Int))) = e := ⟨_, rfl⟩
    obtain ⟨eo2215, qeo2215⟩ : ∃ e, (eo2211 || eo2214) = e := ⟨_, rfl⟩
    refine wpIn_region_heldL 17 (atD [[], [0], [1], [2], [2], [2, 3, 4], [2, 5], [6], [7], [7], [7, 8, 9], [7, 10], [11], [12], [12, 13], [12, 14], [15]]) (atV [fun vH _ => vH = .int .i64 ((difK (wordL d v ++ v) (wordL y x ++ x) (39 : Nat) : Nat) : Int), fun vH _ => vH = .bool eo221, fun vH _ => vH = .bool eo221, cdV (True ∧ eo221 = true) (fun vH _ => vH = .agg (rawV d)), cdV (True ∧ eo221 = true) (fun vH _ => vH = .agg (rawV y)), cdV (True ∧ eo221 = true) (fun vH _ => vH = .bool eo225), fun vH _ => vH = .bool eo226, fun vH _ => vH = .bool eo226, cdV (True ∧ eo226 = true) (fun vH _ => vH = .agg (rawV v)), cdV (True ∧ eo226 = true) (fun vH _ => vH = .agg (rawV x)), cdV (True ∧ eo226 = true) (fun vH _ => vH = .bool eo2210), fun vH _ => vH = .bool eo2211, fun vH _ => vH = .bool eo2211, cdV (True ∧ eo2211 = false) (fun vH _ => vH = .int .i64 ((difK (wordL d v ++ v) (wordL y x ++ x) (39 : Nat) : Nat) : Int)), cdV (True ∧ eo2211 = false) (fun vH _ => vH = .bool eo2214), fun vH _ => vH = .bool eo2215, fun vH _ => vH = .bool eo2215]) BelowR (by kernel_rfl) BelowR.trans (BelowR.refl _)
      (StV.atV (.const _ (.const _ (.const _ (.cons (fun v x y h _ => h) (.cons (fun v x y h _ => h) (.cons (fun v x y h _ => h) (.const _ (.const _ (.cons (fun v x y h _ => h) (.cons (fun v x y h _ => h) (.cons (fun v x y h _ => h) (.const _ (.const _ (.cons (fun v x y h _ => h) (.cons (fun v x y h _ => h) (.const _ (.const _ .nil))))))))))))))))))
      ⟨?o22x0, ?o22x1, ?o22x2, ?o22x3, ?o22x4, ?o22x5, ?o22x6, ?o22x7, ?o22x8, ?o22x9, ?o22x10, ?o22x11, ?o22x12, ?o22x13, ?o22x14, ?o22x15, ?o22x16, trivial⟩ ?_
    case o22x0 =>
      exact held_move free_wide rfl BelowR.refl (.tmp 12) (.inl rfl) fun xH w' kH _ => (pO (by kernel_rfl) rfl)
    case o22x1 =>
      exact held_run free_wide rfl (by rfl) BelowR.refl fun xH w' kH hR => ⟨_, run_binO rfl (pT 0 (by kernel_rfl) (by kernel_rfl) (kH 0 (by decide))) rfl bin_eql, (congrArg Value.bool qeo221)⟩
    case o22x2 =>
      exact held_move free_wide rfl BelowR.refl (.tmp 43) (.inl rfl) fun xH w' kH _ => (pT 1 (by kernel_rfl) (by kernel_rfl) (kH 1 (by decide)))
    case o22x3 =>
      refine held_guard free_wide 2 44 true True eo221 BelowR.refl rfl (by kernel_rfl) (by kernel_rfl) (by kernel_rfl) (fun xH w' kH => .inl ⟨trivial, kH 2 (by decide)⟩) (fun hC hG => ?_) (fun hN w' => .inr ⟨hN, rfl⟩)
      exact held_loadG free_wide hG BelowR.refl 32 (.tmp 4) rfl fun xH w' kH hR => ⟨_, _, (pO (by kernel_rfl) rfl), ldR OW hR 0 rfl Try.underlying32 rfl (arJ32 (show (d).length = 32 from HD.out)), (.inl ⟨hC, rfl⟩)⟩
    case o22x4 =>
      refine held_guard free_wide 2 44 true True eo221 BelowR.refl rfl (by kernel_rfl) (by kernel_rfl) (by kernel_rfl) (fun xH w' kH => .inl ⟨trivial, kH 2 (by decide)⟩) (fun hC hG => ?_) (fun hN w' => .inr ⟨hN, rfl⟩)
      exact held_loadG free_wide hG BelowR.refl 32 (.tmp 5) rfl fun xH w' kH hR => ⟨_, _, (pO (by kernel_rfl) rfl), ldR OW hR 1 rfl Try.underlying32 rfl (arJ32 (show (y).length = 32 from HY.out)), (.inl ⟨hC, rfl⟩)⟩
    case o22x5 =>
      refine held_guard free_wide 2 44 true True eo221 BelowR.refl rfl (by kernel_rfl) (by kernel_rfl) (by kernel_rfl) (fun xH w' kH => .inl ⟨trivial, kH 2 (by decide)⟩) (fun hC hG => ?_) (fun hN w' => .inr ⟨hN, rfl⟩)
      exact held_runG free_wide hG (by rfl) BelowR.refl fun xH w' kH hR => ⟨_, run_binO rfl (pT 3 (by kernel_rfl) (by kernel_rfl) (cdAt (kH 3 (by decide)) rfl hC)) (pT 4 (by kernel_rfl) (by kernel_rfl) (cdAt (kH 4 (by decide)) rfl hC)) (eq_ar32 _ _ (show (d).length = 32 from HD.out) (show (y).length = 32 from HY.out) _ _ _), (.inl ⟨hC, congrArg Value.bool qeo225⟩)⟩
    case o22x6 =>
      exact held_run free_wide rfl (by rfl) BelowR.refl fun xH w' kH hR => ⟨_, run_pickAnd rfl (pT 2 (by kernel_rfl) (by kernel_rfl) (kH 2 (by decide))) rfl (fun h => pT 5 (by kernel_rfl) (by kernel_rfl) (cdAt (kH 5 (by decide)) rfl (And.intro trivial h))), (congrArg Value.bool qeo226)⟩
    case o22x7 =>
      exact held_move free_wide rfl BelowR.refl (.tmp 48) (.inl rfl) fun xH w' kH _ => (pT 6 (by kernel_rfl) (by kernel_rfl) (kH 6 (by decide)))
    case o22x8 =>
      refine held_guard free_wide 7 49 true True eo226 BelowR.refl rfl (by kernel_rfl) (by kernel_rfl) (by kernel_rfl) (fun xH w' kH => .inl ⟨trivial, kH 7 (by decide)⟩) (fun hC hG => ?_) (fun hN w' => .inr ⟨hN, rfl⟩)
      exact held_loadG free_wide hG BelowR.refl 24 (.tmp 6) rfl fun xH w' kH hR => ⟨_, _, (pO (by kernel_rfl) rfl), ldR OW hR 2 rfl Try.underlying24 rfl (arJ3 (show (v).length = 3 from HV.out)), (.inl ⟨hC, rfl⟩)⟩
    case o22x9 =>
      refine held_guard free_wide 7 49 true True eo226 BelowR.refl rfl (by kernel_rfl) (by kernel_rfl) (by kernel_rfl) (fun xH w' kH => .inl ⟨trivial, kH 7 (by decide)⟩) (fun hC hG => ?_) (fun hN w' => .inr ⟨hN, rfl⟩)
      exact held_loadG free_wide hG BelowR.refl 24 (.tmp 7) rfl fun xH w' kH hR => ⟨_, _, (pO (by kernel_rfl) rfl), ldR OW hR 3 rfl Try.underlying24 rfl (arJ3 (show (x).length = 3 from HX.out)), (.inl ⟨hC, rfl⟩)⟩
    case o22x10 =>
      refine held_guard free_wide 7 49 true True eo226 BelowR.refl rfl (by kernel_rfl) (by kernel_rfl) (by kernel_rfl) (fun xH w' kH => .inl ⟨trivial, kH 7 (by decide)⟩) (fun hC hG => ?_) (fun hN w' => .inr ⟨hN, rfl⟩)
      exact held_runG free_wide hG (by rfl) BelowR.refl fun xH w' kH hR => ⟨_, run_binO rfl (pT 8 (by kernel_rfl) (by kernel_rfl) (cdAt (kH 8 (by decide)) rfl hC)) (pT 9 (by kernel_rfl) (by kernel_rfl) (cdAt (kH 9 (by decide)) rfl hC)) (eq_ar3 _ _ (show (v).length = 3 from HV.out) (show (x).length = 3 from HX.out) _ _ _), (.inl ⟨hC, congrArg Value.bool qeo2210⟩)⟩
    case o22x11 =>
      exact held_run free_wide rfl (by rfl) BelowR.refl fun xH w' kH hR => ⟨_, run_pickAnd rfl (pT 7 (by kernel_rfl) (by kernel_rfl) (kH 7 (by decide))) rfl (fun h => pT 10 (by kernel_rfl) (by kernel_rfl) (cdAt (kH 10 (by decide)) rfl (And.intro trivial h))), (congrArg Value.bool qeo2211)⟩
    case o22x12 =>
      exact held_move free_wide rfl BelowR.refl (.tmp 53) (.inl rfl) fun xH w' kH _ => (pT 11 (by kernel_rfl) (by kernel_rfl) (kH 11 (by decide)))
    case o22x13 =>
      refine held_guard free_wide 12 54 false True eo2211 BelowR.refl rfl (by kernel_rfl) (by kernel_rfl) (by kernel_rfl) (fun xH w' kH => .inl ⟨trivial, kH 12 (by decide)⟩) (fun hC hG => ?_) (fun hN w' => .inr ⟨hN, rfl⟩)
      exact held_moveG free_wide hG BelowR.refl (.tmp 12) (.inl rfl) fun xH w' kH _ => .inl ⟨hC, (pO (by kernel_rfl) rfl)⟩
    case o22x14 =>
      refine held_guard free_wide 12 54 false True eo2211 BelowR.refl rfl (by kernel_rfl) (by kernel_rfl) (by kernel_rfl) (fun xH w' kH => .inl ⟨trivial, kH 12 (by decide)⟩) (fun hC hG => ?_) (fun hN w' => .inr ⟨hN, rfl⟩)
      exact held_runG free_wide hG (by rfl) BelowR.refl fun xH w' kH hR => ⟨_, run_binO rfl (pT 13 (by kernel_rfl) (by kernel_rfl) (cdAt (kH 13 (by decide)) rfl hC)) rfl bin_geq, (.inl ⟨hC, congrArg Value.bool qeo2214⟩)⟩
    case o22x15 =>
      exact held_run free_wide rfl (by rfl) BelowR.refl fun xH w' kH hR => ⟨_, run_pickOr rfl (pT 12 (by kernel_rfl) (by kernel_rfl) (kH 12 (by decide))) rfl (fun h => pT 14 (by kernel_rfl) (by kernel_rfl) (cdAt (kH 14 (by decide)) rfl (And.intro trivial h))), (congrArg Value.bool qeo2215)⟩
    case o22x16 =>
      exact held_move free_wide rfl BelowR.refl (.tmp 57) (.inr rfl) fun xH w' kH _ => (pT 15 (by kernel_rfl) (by kernel_rfl) (kH 15 (by decide)))
    intro xH w' hv hR
    subst qeo2215 qeo2214 qeo2211 qeo2210 qeo226 qeo225 qeo221
    have h0 : xH 0 = _ := hv 0 (by omega)
    have h1 : xH 1 = _ := hv 1 (by omega)
    have h2 : xH 2 = _ := hv 2 (by omega)
    have h6 : xH 6 = _ := hv 6 (by omega)
    have h7 : xH 7 = _ := hv 7 (by omega)
    have h11 : xH 11 = _ := hv 11 (by omega)
    have h12 : xH 12 = _ := hv 12 (by omega)
    have h15 : xH 15 = _ := hv 15 (by omega)
    have h16 : xH 16 = _ := hv 16 (by omega)
    simp only [List.take_succ_cons, List.take_zero, List.drop_succ_cons, List.drop_zero, putsH, Act.put, List.setIfInBounds_toArray, List.set_cons_succ, List.set_cons_zero, h0, h1, h2, h6, h7, h11, h12, h15, h16]
    have OW2 := Lib.hid (OW.out.step hR)
    clear hv hR OW OZ  h0 h1 h2 h6 h7 h11 h12 h15 h16
    have OW := OW2
    clear OW2
    obtain ⟨g23, OZ⟩ := own_size OW HB0
    gi_wp2
    refine leaves_own [] _ (Nat.le_of_eq HB0.out) (by simpa using OW.out) ?_
    intro W' hO
    exact ⟨.bool ((((((difK (wordL d v ++ v) (wordL y x ++ x) (39 : Nat) : Nat) : Int) == 0) && (decide (d = y))) && (decide (v = x))) || (decide (5 ≤ ((difK (wordL d v ++ v) (wordL y x ++ x) (39 : Nat) : Nat) : Int)))), by simp [results, Try.results7, go_sem], (by rw [apart_bool HD.out HV.out HY.out HX.out rfl]), hO.done HB0⟩
end Go.Proofs.Ytdgflbbffimpkaa
