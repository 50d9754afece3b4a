/- The statement RsLinear: its walk. -/
import Derived.Test.YtdgflbbffimpkaaRsT
import Derived.Test.YtdgflbbffimpkaaHeldM
import Derived.Test.YtdgflbbffimpkaaArrO
namespace Go.Proofs.Ytdgflbbffimpkaa
open Go.RowKit Go.Shelf
attribute [local go_sem] Oper.semAt_some
set_option linter.unusedVariables false
set_option linter.unusedSimpArgs false

theorem neU {p q : UInt8} (h : p = q) (x y : Operand) (w : World) : (do eqGuard .neq 5 x y (.int .u8 (p.toNat : Int)) (.int .u8 (q.toNat : Int)); Go.binOp .neq 5 (.int .u8 (p.toNat : Int)) (.int .u8 (q.toNat : Int)) : Sem Value).run Try.prog w = .ok (.bool false) w := by
  subst h
  rw [bin_neq]; simp
/-- A list whose first k places have been multiplied. -/
def gmTo (n : Nat) (p : List UInt8) (a : UInt8) (k : Nat) : List UInt8 := ofF n fun i => if i < k then gm (co p i) a else co p i
theorem gmTo_len (n : Nat) (p : List UInt8) (a : UInt8) (k : Nat) : (gmTo n p a k).length = n := ofF_len _ _
theorem gmTo_zero {n : Nat} {p : List UInt8} (a : UInt8) (h : p.length = n) : gmTo n p a 0 = p := by
  unfold gmTo
  exact (ofF_congr (g := co p) fun i _ => if_neg (by omega)).trans (ofF_self h)
theorem co_gmTo {n : Nat} {p : List UInt8} {a : UInt8} {k i : Nat} (hi : i < n) : co (gmTo n p a k) i = if i < k then gm (co p i) a else co p i := by unfold gmTo; rw [co_ofF, if_pos hi]
theorem gmTo_get {n : Nat} {p : List UInt8} {a : UInt8} {k : Nat} (hk : k < n) : (gmTo n p a k).getD k 0 = p.getD k 0 := by
  show co (gmTo n p a k) k = co p k
  rw [co_gmTo hk, if_neg (Nat.lt_irrefl _)]
theorem gmTo_set {n : Nat} {p : List UInt8} {a : UInt8} {k : Nat} (hk : k < n) : (gmTo n p a k).set k (gm ((gmTo n p a k).getD k 0) a) = gmTo n p a (k + 1) := by
  rw [gmTo_get hk]
  exact ofF_succ_set _ _ _ _ _ fun i _ => by
    by_cases h : i = k
    · subst h; rw [if_pos (by omega), if_pos rfl]; rfl
    · rw [if_neg h]
      by_cases h2 : i < k
      · rw [if_pos (by omega), if_pos h2]
      · rw [if_neg (by omega), if_neg h2]
theorem xorG_set {n : Nat} {p q : List UInt8} {a : UInt8} {k : Nat} (hk : k < n) : (xorTo n p q k).set k ((xorTo n p q k).getD k 0 ^^^ (gmTo n q a k).getD k 0) = xorTo n p q (k + 1) := by
  rw [gmTo_get hk]
  exact xorTo_set hk
theorem chk_word (d v : List UInt8) {i : Nat} (hi : i < 4) : co (wordL d v ++ v) i = (chkL d v).getD i 0 := by
  unfold wordL
  rw [List.append_assoc, co_left (by rw [chkL_len]; exact hi)]
theorem word_hi (d v : List UInt8) (t : Nat) : co (wordL d v ++ v) (4 + t) = co (d ++ v) t := by
  unfold wordL
  rw [List.append_assoc, co_right (chkL_len d v)]
  rfl
theorem lin_xor {d y v x : List UInt8} (hd : d.length = 32) (hy : y.length = 32) (hv : v.length = 3) (hx : x.length = 3) (i : Nat) (hi : i < 4) : (chkL (xorTo 32 y d 32) (xorTo 3 x v 3)).getD i 0 = (chkL d v).getD i 0 ^^^ (chkL y x).getD i 0 := by
  have h := isC.eq (word_isC (xorTo 32 y d 32) (xorTo 3 x v 3) (xorTo_len _ _ _ _) (xorTo_len _ _ _ _)) ((word_isC d v hd hv).xor (word_isC y x hy hx)) (fun t h4 ht => by
    obtain ⟨s, rfl⟩ : ∃ s, t = 4 + s := ⟨t - 4, by omega⟩
    rw [word_hi, word_hi, word_hi, xor_app hy hd (by omega), UInt8.xor_comm]) i (by omega)
  rw [chk_word _ _ hi, chk_word _ _ hi, chk_word _ _ hi] at h
  exact h
theorem lin_gm {d v : List UInt8} (a : UInt8) (hd : d.length = 32) (hv : v.length = 3) (i : Nat) (hi : i < 4) : (chkL (gmTo 32 d a 32) (gmTo 3 v a 3)).getD i 0 = gm ((chkL d v).getD i 0) a := by
  have h := isC.eq (word_isC (gmTo 32 d a 32) (gmTo 3 v a 3) (gmTo_len _ _ _ _) (gmTo_len _ _ _ _)) ((word_isC d v hd hv).gm a) (fun t h4 ht => by
    obtain ⟨s, rfl⟩ : ∃ s, t = 4 + s := ⟨t - 4, by omega⟩
    rw [word_hi, word_hi]
    by_cases hs : s < 32
    · rw [co_left (by rw [gmTo_len]; exact hs), co_left (by omega)]
      show co (gmTo 32 d a 32) s = gm (co d s) a
      rw [co_gmTo hs, if_pos hs]
    · obtain ⟨r, rfl⟩ : ∃ r, s = 32 + r := ⟨s - 32, by omega⟩
      rw [co_right (gmTo_len 32 d a 32), co_right hd]
      show co (gmTo 3 v a 3) r = gm (co v r) a
      rw [co_gmTo (by omega), if_pos (by omega)]) i (by omega)
  rw [chk_word _ _ hi, chk_word _ _ hi] at h
  exact h
attribute [local irreducible] wordL chkL gm xorTo gmTo

set_option maxRecDepth 100000 in
set_option maxHeartbeats 1000000 in
theorem RsLinear_any (d y v x : List UInt8) (a : UInt8) (hd : d.length = 32) (hy : y.length = 32) (hv : v.length = 3) (hx : x.length = 3) (w : World) : Calls Try.prog 6 #[.agg (rawV d), .agg (rawV y), .agg (rawV v), .agg (rawV x), .int .u8 (a.toNat : Int)] w fun e w' => e = .returned (.bool true) ∧ Below w.heap.size w w' := by
  obtain ⟨b0, hb0⟩ : ∃ b0, w.heap.size = b0 := ⟨_, rfl⟩
  have HB0 := Lib.hid hb0
  have OW := Lib.hid (Own.start b0 w)
  have OZ := Lib.hid (And.intro hb0 (Nat.le_refl b0))
  clear hb0
  have HD := Lib.hid hd
  have HY := Lib.hid hy
  have HV := Lib.hid hv
  have HX := Lib.hid hx
  have HLX := Lib.hid (lin_xor hd hy hv hx)
  have HLG := Lib.hid (lin_gm a hd hv)
  clear hd hy hv hx
  refine (callsIn_wide (n := 6)).1 ?_
  refine callsIn_of_wp_marks Try.func6 rfl trivial ?_ rfl
  simp only [Try.ntmps6, List.size_toArray, List.length_cons, List.length_nil, Nat.reduceAdd, Nat.reduceSub, Array.replicate_succ, Array.replicate_zero, List.push_toArray, List.append_toArray, List.nil_append, List.cons_append]
  gi_upto_region 1 with (first | (refine onlyD 5 rfl ?_; refine own_boxV 5 32 (.tmp 0) rfl rfl rfl (.agg (rawV d)) rfl (rawV d) rfl OW OZ ?_; clear OW OZ; intro W g1 OW OZ; simp only [Act.put, List.setIfInBounds_toArray, List.set_cons_succ, List.set_cons_zero]) | (refine onlyD 6 rfl ?_; refine own_boxV 6 32 (.tmp 1) rfl rfl rfl (.agg (rawV y)) rfl (rawV y) rfl OW OZ ?_; clear OW OZ; intro W g2 OW OZ; simp only [Act.put, List.setIfInBounds_toArray, List.set_cons_succ, List.set_cons_zero]) | (refine onlyD 7 rfl ?_; refine own_boxV 7 24 (.tmp 2) rfl rfl rfl (.agg (rawV v)) rfl (rawV v) rfl OW OZ ?_; clear OW OZ; intro W g3 OW OZ; simp only [Act.put, List.setIfInBounds_toArray, List.set_cons_succ, List.set_cons_zero]) | (refine onlyD 8 rfl ?_; refine own_boxV 8 24 (.tmp 3) rfl rfl rfl (.agg (rawV x)) rfl (rawV x) rfl OW OZ ?_; clear OW OZ; intro W g4 OW OZ; simp only [Act.put, List.setIfInBounds_toArray, List.set_cons_succ, List.set_cons_zero]))
  gi_wp2_with fail
  refine ⟨trivial, ?_⟩
  refine (callsIn_wide.2 (coded_any _)).mono ?_
  rintro e Wg ⟨cb, fb, gb, rest, rfl, hO⟩
  have OW1 := Lib.hid (Own.join OW.out (by rw [OZ.out.1]; exact OZ.out.2) hO)
  clear OW OZ hO
  have OW := OW1
  clear OW1
  obtain ⟨grg5, OZ⟩ := own_size OW HB0
  have HCODE := Lib.hid (fun (L : Objs) (V : World) (h : Own b0 w L V) (h1 : L[4]? = some (fb, Obj.cells fieldCells 68 (0, 0))) (h2 : L[5]? = some (gb, Obj.cells (rowV genL rest) 5 (0, 0))) (h3 : L[6]? = some (cb, Obj.cells #[.pointer (some ⟨fb, 0, none⟩), .slice (some ⟨gb, 0, none⟩) 5 (5 + rest.length)] 59 (0, 0))) => CodeAt.mk3 h h1 h2 h3)
  gi_upto_region 2 with fail
  refine wpIn_region_heldL 2 (atD [[], [0]]) (atV [fun vH _ => vH = .pointer (some ⟨cb, 0, none⟩), fun vH _ => vH = .bool false]) BelowR (by kernel_rfl) BelowR.trans (BelowR.refl _)
    (StV.atV (.const _ (.const _ .nil)))
    ⟨?o6x0, ?o6x1, trivial⟩ ?_
  case o6x0 =>
    exact held_move free_wide rfl BelowR.refl (.tmp 11) (.inl rfl) fun xH w' kH _ => (pO (by kernel_rfl) rfl)
  case o6x1 =>
    exact held_run free_wide rfl (by rfl) BelowR.refl fun xH w' kH hR => ⟨_, run_binO rfl (pT 0 (by kernel_rfl) (by kernel_rfl) (kH 0 (by decide))) rfl (by kernel_rfl), rfl⟩
  intro xH w' hv hR
  have h0 : xH 0 = _ := hv 0 (by omega)
  have h1 : xH 1 = _ := hv 1 (by omega)
  simp only [List.take_succ_cons, List.take_zero, List.drop_succ_cons, List.drop_zero, putsH, Act.put, List.setIfInBounds_toArray, List.set_cons_succ, List.set_cons_zero, h0, h1]
  have OW2 := Lib.hid (OW.out.step hR)
  clear hv hR OW OZ  h0 h1
  have OW := OW2
  clear OW2
  obtain ⟨g7, OZ⟩ := own_size OW HB0
  gi_upto_region 4 with fail
  gi_wp2_with fail
  refine ⟨trivial, ?_⟩
  refine (callsIn_wide.2 (new_any _)).mono ?_
  rintro e Wf ⟨he, hq⟩
  rw [OZ.out.1] at he
  subst he
  have hO1 := OW.out.alloc (by rw [OZ.out.1]; exact OZ.out.2) (.cells fieldCells 68 (0, 0))
  have hf : ∃ ff, g7 = ff := ⟨_, rfl⟩
  obtain ⟨ff, hff⟩ := hf
  rw [← hq, OZ.out.1, hff] at hO1
  rw [hff]
  clear OW OZ hq hff
  have OW := Lib.hid hO1
  clear hO1
  obtain ⟨grg8, OZ⟩ := own_size OW HB0
  have HFLD := Lib.hid (fun (L : Objs) (V : World) (h : Own b0 w L V) (h1 : L[7]? = some (ff, Obj.cells fieldCells 68 (0, 0))) => (show FieldAt V ff from h.get h1))
  gi_upto_region 5 with fail
  refine wpIn_region_heldM 10 (atD [[], [], [], [0, 1, 2], [], [], [], [4, 5, 6], [], []]) (fun k => k == 8 || k == 9) (atV [fun vH _ => vH = .pointer (some ⟨cb, 0, none⟩), fun vH _ => vH = .agg (rawV d), fun vH _ => vH = .agg (rawV v), fun vH _ => vH = .agg (rawV (chkL d v)), fun vH _ => vH = .pointer (some ⟨cb, 0, none⟩), fun vH _ => vH = .agg (rawV y), fun vH _ => vH = .agg (rawV x), fun vH _ => vH = .agg (rawV (chkL y x)), MadeB grg8 22 (rawV (List.replicate 4 0)), MadeB grg8 22 (rawV (List.replicate 4 0))]) BelowR (by kernel_rfl) (by kernel_rfl) BelowR.trans (BelowR.drew _)
    (StV.atV (.const _ (.const _ (.const _ (.const _ (.const _ (.const _ (.const _ (.const _ (.cons (fun v x y h k => MadeB.step h k) (.cons (fun v x y h k => MadeB.step h k) .nil)))))))))))
    ⟨?o9x0, ?o9x1, ?o9x2, ?o9x3, ?o9x4, ?o9x5, ?o9x6, ?o9x7, ?o9x8, ?o9x9, trivial⟩ ?o9hM ?_
  case o9hM =>
    intro i v x hMi h
    have e : i = 8 ∨ i = 9 := by simpa using hMi
    rcases e with rfl | rfl <;> exact MadeB.old h
  case o9x0 =>
    refine HeldOpM.of rfl ?_
    exact held_move free_wide rfl BelowR.refl (.tmp 11) (.inl rfl) fun xH w' kH _ => (pO (by kernel_rfl) rfl)
  case o9x1 =>
    refine HeldOpM.of rfl ?_
    exact held_load free_wide rfl BelowR.refl 32 (.tmp 5) rfl fun xH w' kH hR => ⟨_, _, (pO (by kernel_rfl) rfl), ldR OW hR 0 rfl Try.underlying32 rfl (arJ32 (show (d).length = 32 from HD.out)), rfl⟩
  case o9x2 =>
    refine HeldOpM.of rfl ?_
    exact held_load free_wide rfl BelowR.refl 24 (.tmp 7) rfl fun xH w' kH hR => ⟨_, _, (pO (by kernel_rfl) rfl), ldR OW hR 2 rfl Try.underlying24 rfl (arJ3 (show (v).length = 3 from HV.out)), rfl⟩
  case o9x3 =>
    refine HeldOpM.of rfl ?_
    refine held_call free_wide rfl 18 _ _ rfl (enters_of Try.func18 (by kernel_rfl) rfl) fun xH w' kH hR => ⟨_, mapE3 (pT 0 (by kernel_rfl) (by kernel_rfl) (kH 0 (by decide))) (pT 1 (by kernel_rfl) (by kernel_rfl) (kH 1 (by decide))) (pT 2 (by kernel_rfl) (by kernel_rfl) (kH 2 (by decide))), ?_⟩
    refine (callsIn_wide.2 (checks_any cb fb d v (HD.out) (HV.out) _ (HCODE.out _ _ (OW.out.step hR) rfl rfl rfl))).mono ?_
    rintro e w2 ⟨rfl, h2⟩
    exact ⟨_, rfl, rfl, h2⟩
  case o9x4 =>
    refine HeldOpM.of rfl ?_
    exact held_move free_wide rfl BelowR.refl (.tmp 11) (.inl rfl) fun xH w' kH _ => (pO (by kernel_rfl) rfl)
  case o9x5 =>
    refine HeldOpM.of rfl ?_
    exact held_load free_wide rfl BelowR.refl 32 (.tmp 6) rfl fun xH w' kH hR => ⟨_, _, (pO (by kernel_rfl) rfl), ldR OW hR 1 rfl Try.underlying32 rfl (arJ32 (show (y).length = 32 from HY.out)), rfl⟩
  case o9x6 =>
    refine HeldOpM.of rfl ?_
    exact held_load free_wide rfl BelowR.refl 24 (.tmp 8) rfl fun xH w' kH hR => ⟨_, _, (pO (by kernel_rfl) rfl), ldR OW hR 3 rfl Try.underlying24 rfl (arJ3 (show (x).length = 3 from HX.out)), rfl⟩
  case o9x7 =>
    refine HeldOpM.of rfl ?_
    refine held_call free_wide rfl 18 _ _ rfl (enters_of Try.func18 (by kernel_rfl) rfl) fun xH w' kH hR => ⟨_, mapE3 (pT 4 (by kernel_rfl) (by kernel_rfl) (kH 4 (by decide))) (pT 5 (by kernel_rfl) (by kernel_rfl) (kH 5 (by decide))) (pT 6 (by kernel_rfl) (by kernel_rfl) (kH 6 (by decide))), ?_⟩
    refine (callsIn_wide.2 (checks_any cb fb y x (HY.out) (HX.out) _ (HCODE.out _ _ (OW.out.step hR) rfl rfl rfl))).mono ?_
    rintro e w2 ⟨rfl, h2⟩
    exact ⟨_, rfl, rfl, h2⟩
  case o9x8 =>
    exact held_allocM free_wide rfl 22 rfl (rawV (List.replicate 4 0)) al4 (fun w' hR => by have h := MadeB.new 22 (rawV (List.replicate 4 0)) hR; rw [OZ.out.1] at h; exact h) (fun w' => (Below.refl _ w').alloc (Nat.le_refl _) _)
  case o9x9 =>
    exact held_allocM free_wide rfl 22 rfl (rawV (List.replicate 4 0)) al4 (fun w' hR => by have h := MadeB.new 22 (rawV (List.replicate 4 0)) hR; rw [OZ.out.1] at h; exact h) (fun w' => (Below.refl _ w').alloc (Nat.le_refl _) _)
  intro xH w' hv hE hR
  have h0 : xH 0 = _ := hv 0 (by omega)
  have h1 : xH 1 = _ := hv 1 (by omega)
  have h2 : xH 2 = _ := hv 2 (by omega)
  have h3 : xH 3 = _ := hv 3 (by omega)
  have h4 : xH 4 = _ := hv 4 (by omega)
  have h5 : xH 5 = _ := hv 5 (by omega)
  have h6 : xH 6 = _ := hv 6 (by omega)
  have h7 : xH 7 = _ := hv 7 (by omega)
  obtain ⟨ga10, h8, hb8, hk8⟩ : MadeB grg8 22 (rawV (List.replicate 4 0)) (xH 8) w' := hv 8 (by omega)
  obtain ⟨ga11, h9, hb9, hk9⟩ : MadeB grg8 22 (rawV (List.replicate 4 0)) (xH 9) w' := hv 9 (by omega)
  simp only [List.take_succ_cons, List.take_zero, List.drop_succ_cons, List.drop_zero, putsH, Act.put, List.setIfInBounds_toArray, List.set_cons_succ, List.set_cons_zero, h0, h1, h2, h3, h4, h5, h6, h7, h8, h9]
  have hne : ga10 ≠ ga11 := fun e => hE 8 9 (by omega) (by omega) rfl rfl (by decide) (by rw [h8, h9, e])
  have OW2 := Lib.hid (Own.add2 OW.out (show Below _ _ w' from hR) (by rw [OZ.out.1]; exact OZ.out.2) (by rw [OZ.out.1]; exact hb8) hk8 (by rw [OZ.out.1]; exact hb9) hk9 hne)
  clear hv hR OW OZ hE hne hb8 hk8 hb9 hk9 h0 h1 h2 h3 h4 h5 h6 h7 h8 h9
  have OW := OW2
  clear OW2
  obtain ⟨g12, OZ⟩ := own_size OW HB0
  gi_wp2_with (first | (refine onlyO (.store 22 (.tmp 13) (.tmp 27)) rfl ?_; refine own_storeRow 8 22 (.tmp 13) (.tmp 27) rfl rfl rfl rfl (rawV (chkL d v)) rfl (by rw [rawV_size, rawV_size, (show ((chkL d v)).length = 4 by simp only [chkL_len, xorTo_len, gmTo_len, List.length_set, HD.out, HY.out, HV.out, HX.out]), (show ((List.replicate 4 0) : List UInt8).length = 4 from List.length_replicate)]) (rawV_one _) (arJ4 (show ((chkL d v)).length = 4 by simp only [chkL_len, xorTo_len, gmTo_len, List.length_set, HD.out, HY.out, HV.out, HX.out])) _ rfl OW OZ ?_; clear OW OZ; intro W OW OZ; simp only [Act.put, List.setIfInBounds_toArray, List.set_cons_succ, List.set_cons_zero]) | (refine onlyO (.store 22 (.tmp 14) (.tmp 31)) rfl ?_; refine own_storeRow 9 22 (.tmp 14) (.tmp 31) rfl rfl rfl rfl (rawV (chkL y x)) rfl (by rw [rawV_size, rawV_size, (show ((chkL y x)).length = 4 by simp only [chkL_len, xorTo_len, gmTo_len, List.length_set, HD.out, HY.out, HV.out, HX.out]), (show ((List.replicate 4 0) : List UInt8).length = 4 from List.length_replicate)]) (rawV_one _) (arJ4 (show ((chkL y x)).length = 4 by simp only [chkL_len, xorTo_len, gmTo_len, List.length_set, HD.out, HY.out, HV.out, HX.out])) _ rfl OW OZ ?_; clear OW OZ; intro W OW OZ; simp only [Act.put, List.setIfInBounds_toArray, List.set_cons_succ, List.set_cons_zero]))
  gi_loopw [32] (fun z32 wr => ∃ k : Nat, k ≤ 32 ∧ z32 = .int .i64 (k : Int) ∧ Own b0 w [(b0, Obj.cells (rawV (gmTo 32 d a k)) 32 (0, 0)), (g1, Obj.cells (rawV (xorTo 32 y d k)) 32 (0, 0)), (g2, Obj.cells (rawV v) 24 (0, 0)), (g3, Obj.cells (rawV x) 24 (0, 0)), (fb, Obj.cells (fieldCells) 68 (0, 0)), (gb, Obj.cells (rowV genL rest) 5 (0, 0)), (cb, Obj.cells (#[.pointer (some ⟨fb, 0, none⟩), .slice (some ⟨gb, 0, none⟩) 5 (5 + rest.length)]) 59 (0, 0)), (ff, Obj.cells (fieldCells) 68 (0, 0)), (ga10, Obj.cells (rawV (chkL d v)) 22 (0, 0)), (ga11, Obj.cells (rawV (chkL y x)) 22 (0, 0))] wr) (fun z32 _ => 32 - (intOf z32).toNat)
  case atStart => exact ⟨0, by omega, rfl, (by rw [gmTo_zero a HD.out, xorTo_zero d HY.out]; exact OW.out)⟩
  case round =>
    obtain ⟨k, hk14, rfl, hO⟩ := hrel
    clear OW OZ
    have OW := Lib.hid hO
    obtain ⟨g13, OZ⟩ := own_size OW HB0
    clear hO
    gi_upto_region 7 with fail
    obtain ⟨eo150, qeo150⟩ : ∃ e, (decide ((k : Int) < 32)) = e := ⟨_, rfl⟩
    refine wpIn_region_heldL 1 (atD [[]]) (atV [fun vH _ => vH = .bool eo150]) BelowR (by kernel_rfl) BelowR.trans (BelowR.refl _)
      (StV.atV (.const _ .nil))
      ⟨?o15x0, trivial⟩ ?_
    case o15x0 =>
      exact held_run free_wide rfl (by rfl) BelowR.refl fun xH w' kH hR => ⟨_, run_binO rfl (pO (by kernel_rfl) rfl) rfl bin_lss, (congrArg Value.bool qeo150)⟩
    intro xH w' hv hR
    subst qeo150
    have h0 : xH 0 = _ := hv 0 (by omega)
    simp only [List.take_succ_cons, List.take_zero, List.drop_succ_cons, List.drop_zero, putsH, Act.put, List.setIfInBounds_toArray, List.set_cons_succ, List.set_cons_zero, h0]
    have OW2 := Lib.hid (OW.out.step hR)
    clear hv hR OW OZ  h0
    have OW := OW2
    clear OW2
    obtain ⟨g16, OZ⟩ := own_size OW HB0
    cases hB17 : (decide ((k : Int) < 32))
    case true =>
      have dhB17 := of_decide_eq_true hB17
      gi_upto_region 8 with fail
      refine wpIn_region_heldL 2 (atD [[], [0]]) (atV [fun vH _ => vH = .int .i64 (k : Int), fun vH _ => vH = .int .i64 (k : Int)]) BelowR (by kernel_rfl) BelowR.trans (BelowR.refl _)
        (StV.atV (.const _ (.const _ .nil)))
        ⟨?o18x0, ?o18x1, trivial⟩ ?_
      case o18x0 =>
        exact held_move free_wide rfl BelowR.refl (.tmp 32) (.inl rfl) fun xH w' kH _ => (pO (by kernel_rfl) rfl)
      case o18x1 =>
        exact held_move free_wide rfl BelowR.refl (.tmp 34) (.inr rfl) fun xH w' kH _ => (pT 0 (by kernel_rfl) (by kernel_rfl) (kH 0 (by decide)))
      intro xH w' hv hR
      have h0 : xH 0 = _ := hv 0 (by omega)
      have h1 : xH 1 = _ := hv 1 (by omega)
      simp only [List.take_succ_cons, List.take_zero, List.drop_succ_cons, List.drop_zero, putsH, Act.put, List.setIfInBounds_toArray, List.set_cons_succ, List.set_cons_zero, h0, h1]
      have OW2 := Lib.hid (OW.out.step hR)
      clear hv hR OW OZ  h0 h1
      have OW := OW2
      clear OW2
      obtain ⟨g19, OZ⟩ := own_size OW HB0
      gi_upto_region 9 with fail
      refine wpIn_region_held 8 (atD [[], [0], [1], [], [3], [4], [2, 5], [0]]) (atV [fun vH _ => vH = .int .i64 (k : Int), fun vH _ => vH = .pointer (some ⟨g1, k, none⟩), fun vH _ => vH = .int .u8 (((xorTo 32 y d k).getD k 0).toNat : Int), fun vH _ => vH = .int .i64 (k : Int), fun vH _ => vH = .pointer (some ⟨b0, k, none⟩), fun vH _ => vH = .int .u8 (((gmTo 32 d a k).getD k 0).toNat : Int), fun vH _ => vH = .int .u8 ((((xorTo 32 y d k).getD k 0) ^^^ ((gmTo 32 d a k).getD k 0)).toNat : Int), fun vH _ => vH = .pointer (some ⟨g1, k, none⟩)]) BelowR (by kernel_rfl) (by kernel_rfl) BelowR.trans (BelowR.drew _)
        (StV.atV (.const _ (.const _ (.const _ (.const _ (.const _ (.const _ (.const _ (.const _ .nil)))))))))
        ⟨?o20x0, ?o20x1, ?o20x2, ?o20x3, ?o20x4, ?o20x5, ?o20x6, ?o20x7, trivial⟩ ?_
      case o20x0 =>
        exact held_move free_wide rfl BelowR.refl (.tmp 15) (.inl rfl) fun xH w' kH _ => (pO (by kernel_rfl) rfl)
      case o20x1 =>
        exact held_run free_wide rfl (by rfl) BelowR.refl fun xH w' kH hR => ⟨_, run_idxO (vx := .pointer (some ⟨g1, 0, none⟩)) (vi := .int .i64 (k : Int)) rfl (pO (by kernel_rfl) rfl) (pT 0 (by kernel_rfl) (by kernel_rfl) (kH 0 (by decide))) (arX32 _ k (by omega) _), rfl⟩
      case o20x2 =>
        exact held_load free_wide rfl BelowR.refl 5 (.tmp 36) rfl fun xH w' kH hR => ⟨_, _, (pT 1 (by kernel_rfl) (by kernel_rfl) (kH 1 (by decide))), ldC OW hR 1 rfl (rawV_get _ (by rw [(show ((xorTo 32 y d k)).length = 32 by simp only [chkL_len, xorTo_len, gmTo_len, List.length_set, HD.out, HY.out, HV.out, HX.out])]; omega)) naU8, rfl⟩
      case o20x3 =>
        exact held_move free_wide rfl BelowR.refl (.tmp 15) (.inl rfl) fun xH w' kH _ => (pO (by kernel_rfl) rfl)
      case o20x4 =>
        exact held_run free_wide rfl (by rfl) BelowR.refl fun xH w' kH hR => ⟨_, run_idxO (vx := .pointer (some ⟨b0, 0, none⟩)) (vi := .int .i64 (k : Int)) rfl (pO (by kernel_rfl) rfl) (pT 3 (by kernel_rfl) (by kernel_rfl) (kH 3 (by decide))) (arX32 _ k (by omega) _), rfl⟩
      case o20x5 =>
        exact held_load free_wide rfl BelowR.refl 5 (.tmp 39) rfl fun xH w' kH hR => ⟨_, _, (pT 4 (by kernel_rfl) (by kernel_rfl) (kH 4 (by decide))), ldC OW hR 0 rfl (rawV_get _ (by rw [(show ((gmTo 32 d a k)).length = 32 by simp only [chkL_len, xorTo_len, gmTo_len, List.length_set, HD.out, HY.out, HV.out, HX.out])]; omega)) naU8, rfl⟩
      case o20x6 =>
        exact held_run free_wide rfl (by rfl) BelowR.refl fun xH w' kH hR => ⟨_, run_binO rfl (pT 2 (by kernel_rfl) (by kernel_rfl) (kH 2 (by decide))) (pT 5 (by kernel_rfl) (by kernel_rfl) (kH 5 (by decide))) (bin_xor8), rfl⟩
      case o20x7 =>
        exact held_run free_wide rfl (by rfl) BelowR.refl fun xH w' kH hR => ⟨_, run_idxO (vx := .pointer (some ⟨g1, 0, none⟩)) (vi := .int .i64 (k : Int)) rfl (pO (by kernel_rfl) rfl) (pT 0 (by kernel_rfl) (by kernel_rfl) (kH 0 (by decide))) (arX32 _ k (by omega) _), rfl⟩
      intro xH w' hv hR
      have h0 : xH 0 = _ := hv 0 (by omega)
      have h1 : xH 1 = _ := hv 1 (by omega)
      have h2 : xH 2 = _ := hv 2 (by omega)
      have h3 : xH 3 = _ := hv 3 (by omega)
      have h4 : xH 4 = _ := hv 4 (by omega)
      have h5 : xH 5 = _ := hv 5 (by omega)
      have h6 : xH 6 = _ := hv 6 (by omega)
      have h7 : xH 7 = _ := hv 7 (by omega)
      simp only [List.take_succ_cons, List.take_zero, List.drop_succ_cons, List.drop_zero, putsH, Act.put, List.setIfInBounds_toArray, List.set_cons_succ, List.set_cons_zero, h0, h1, h2, h3, h4, h5, h6, h7]
      have OW2 := Lib.hid (OW.out.step hR)
      clear hv hR OW OZ  h0 h1 h2 h3 h4 h5 h6 h7
      have OW := OW2
      clear OW2
      obtain ⟨g21, OZ⟩ := own_size OW HB0
      gi_wp2_with (first | (refine onlyO (.store 5 (.tmp 42) (.tmp 41)) rfl ?_; refine own_store 1 5 (.tmp 42) (.tmp 41) rfl rfl rfl rfl (.int .u8 ((((xorTo 32 y d k).getD k 0) ^^^ ((gmTo 32 d a k).getD k 0)).toNat : Int)) rfl (rawV ((xorTo 32 y d k).set k (((xorTo 32 y d k).getD k 0) ^^^ ((gmTo 32 d a k).getD k 0)))) (rawV_set _ _ (((xorTo 32 y d k).getD k 0) ^^^ ((gmTo 32 d a k).getD k 0))) (by rw [rawV_size, (show ((xorTo 32 y d k)).length = 32 by simp only [chkL_len, xorTo_len, gmTo_len, List.length_set, HD.out, HY.out, HV.out, HX.out])]; omega) rfl szU8 _ rfl OW OZ ?_; clear OW OZ; intro W OW OZ; simp only [Act.put, List.setIfInBounds_toArray, List.set_cons_succ, List.set_cons_zero]) | (refine onlyD 46 rfl ?_; refine own_valV 46 rfl rfl rfl (.pointer (some ⟨b0, k, none⟩)) (run_idxO (vx := .pointer (some ⟨b0, 0, none⟩)) (vi := .int .i64 (k : Int)) rfl rfl rfl (arX32 _ k (by omega) _)) ?_; simp only [Act.put, List.setIfInBounds_toArray, List.set_cons_succ, List.set_cons_zero]) | (refine onlyD 47 rfl ?_; refine own_loadV 47 0 5 (.tmp 46) rfl rfl rfl rfl rfl (.int .u8 (((gmTo 32 d a k).getD k 0).toNat : Int)) (rawV_get _ (by rw [(show ((gmTo 32 d a k)).length = 32 by simp only [chkL_len, xorTo_len, gmTo_len, List.length_set, HD.out, HY.out, HV.out, HX.out])]; omega)) naU8 OW ?_; simp only [Act.put, List.setIfInBounds_toArray, List.set_cons_succ, List.set_cons_zero]))
      refine ⟨trivial, ?_⟩
      refine (callsIn_wide.2 (fmul_any ff ((gmTo 32 d a k).getD k 0) a _ (HFLD.out _ _ OW.out rfl))).mono ?_
      rintro e Wg22 ⟨rfl, qd, hqd⟩
      have hbw := (show Below _ _ Wg22 by rw [hqd]; exact below_self_drewN _ _)
      clear hqd
      obtain ⟨g22, OW2, OZ2⟩ := own_call OW OZ hbw
      clear hbw OW OZ
      have OW := OW2
      have OZ := OZ2
      clear OW2 OZ2
      gi_wp2_with (first | (refine onlyD 50 rfl ?_; refine own_valV 50 rfl rfl rfl (.pointer (some ⟨b0, k, none⟩)) (run_idxO (vx := .pointer (some ⟨b0, 0, none⟩)) (vi := .int .i64 (k : Int)) rfl rfl rfl (arX32 _ k (by omega) _)) ?_; simp only [Act.put, List.setIfInBounds_toArray, List.set_cons_succ, List.set_cons_zero]) | (refine onlyO (.store 5 (.tmp 50) (.tmp 49)) rfl ?_; refine own_store 0 5 (.tmp 50) (.tmp 49) rfl rfl rfl rfl (.int .u8 ((gm ((gmTo 32 d a k).getD k 0) a).toNat : Int)) rfl (rawV ((gmTo 32 d a k).set k (gm ((gmTo 32 d a k).getD k 0) a))) (rawV_set _ _ (gm ((gmTo 32 d a k).getD k 0) a)) (by rw [rawV_size, (show ((gmTo 32 d a k)).length = 32 by simp only [chkL_len, xorTo_len, gmTo_len, List.length_set, HD.out, HY.out, HV.out, HX.out])]; omega) rfl szU8 _ rfl OW OZ ?_; clear OW OZ; intro W OW OZ; simp only [Act.put, List.setIfInBounds_toArray, List.set_cons_succ, List.set_cons_zero]) | (refine onlyD 51 rfl ?_; refine own_valV 51 rfl rfl rfl (.int .i64 ((k : Int) + 1)) (run_binO (vx := .int .i64 (k : Int)) (vy := .int .i64 1) rfl rfl rfl (bin_add_in (by omega) (by omega))) ?_; simp only [Act.put, List.setIfInBounds_toArray, List.set_cons_succ, List.set_cons_zero]))
      go_roundw
      case rel => exact ⟨k + 1, by omega, by go_num, (by rw [← gmTo_set (n := 32) (k := k) (by omega), ← xorG_set (n := 32) (a := a) (k := k) (by omega)]; exact OW.out)⟩
      case measure => (simp [intOf] <;> omega)
    have dhB17 := of_decide_eq_false hB17
    obtain rfl : k = 32 := by omega
    gi_wp2
    gi_loopw [52] (fun z52 wr => ∃ j : Nat, j ≤ 3 ∧ z52 = .int .i64 (j : Int) ∧ Own b0 w [(b0, Obj.cells (rawV (gmTo 32 d a (32 : Nat))) 32 (0, 0)), (g1, Obj.cells (rawV (xorTo 32 y d (32 : Nat))) 32 (0, 0)), (g2, Obj.cells (rawV (gmTo 3 v a j)) 24 (0, 0)), (g3, Obj.cells (rawV (xorTo 3 x v j)) 24 (0, 0)), (fb, Obj.cells (fieldCells) 68 (0, 0)), (gb, Obj.cells (rowV genL rest) 5 (0, 0)), (cb, Obj.cells (#[.pointer (some ⟨fb, 0, none⟩), .slice (some ⟨gb, 0, none⟩) 5 (5 + rest.length)]) 59 (0, 0)), (ff, Obj.cells (fieldCells) 68 (0, 0)), (ga10, Obj.cells (rawV (chkL d v)) 22 (0, 0)), (ga11, Obj.cells (rawV (chkL y x)) 22 (0, 0))] wr) (fun z52 _ => 3 - (intOf z52).toNat)
    case atStart => exact ⟨0, by omega, rfl, (by rw [gmTo_zero a HV.out, xorTo_zero v HX.out]; exact OW.out)⟩
    case round =>
      obtain ⟨j, hk24, rfl, hO⟩ := hrel
      clear OW OZ
      have OW := Lib.hid hO
      obtain ⟨g23, OZ⟩ := own_size OW HB0
      clear hO
      gi_upto_region 13 with fail
      obtain ⟨eo250, qeo250⟩ : ∃ e, (decide ((j : Int) < 3)) = e := ⟨_, rfl⟩
      refine wpIn_region_heldL 1 (atD [[]]) (atV [fun vH _ => vH = .bool eo250]) BelowR (by kernel_rfl) BelowR.trans (BelowR.refl _)
        (StV.atV (.const _ .nil))
        ⟨?o25x0, trivial⟩ ?_
      case o25x0 =>
        exact held_run free_wide rfl (by rfl) BelowR.refl fun xH w' kH hR => ⟨_, run_binO rfl (pO (by kernel_rfl) rfl) rfl bin_lss, (congrArg Value.bool qeo250)⟩
      intro xH w' hv hR
      subst qeo250
      have h0 : xH 0 = _ := hv 0 (by omega)
      simp only [List.take_succ_cons, List.take_zero, List.drop_succ_cons, List.drop_zero, putsH, Act.put, List.setIfInBounds_toArray, List.set_cons_succ, List.set_cons_zero, h0]
      have OW2 := Lib.hid (OW.out.step hR)
      clear hv hR OW OZ  h0
      have OW := OW2
      clear OW2
      obtain ⟨g26, OZ⟩ := own_size OW HB0
      cases hB27 : (decide ((j : Int) < 3))
      case true =>
        have dhB27 := of_decide_eq_true hB27
        gi_upto_region 14 with fail
        refine wpIn_region_heldL 2 (atD [[], [0]]) (atV [fun vH _ => vH = .int .i64 (j : Int), fun vH _ => vH = .int .i64 (j : Int)]) BelowR (by kernel_rfl) BelowR.trans (BelowR.refl _)
          (StV.atV (.const _ (.const _ .nil)))
          ⟨?o28x0, ?o28x1, trivial⟩ ?_
        case o28x0 =>
          exact held_move free_wide rfl BelowR.refl (.tmp 52) (.inl rfl) fun xH w' kH _ => (pO (by kernel_rfl) rfl)
        case o28x1 =>
          exact held_move free_wide rfl BelowR.refl (.tmp 54) (.inr rfl) fun xH w' kH _ => (pT 0 (by kernel_rfl) (by kernel_rfl) (kH 0 (by decide)))
        intro xH w' hv hR
        have h0 : xH 0 = _ := hv 0 (by omega)
        have h1 : xH 1 = _ := hv 1 (by omega)
        simp only [List.take_succ_cons, List.take_zero, List.drop_succ_cons, List.drop_zero, putsH, Act.put, List.setIfInBounds_toArray, List.set_cons_succ, List.set_cons_zero, h0, h1]
        have OW2 := Lib.hid (OW.out.step hR)
        clear hv hR OW OZ  h0 h1
        have OW := OW2
        clear OW2
        obtain ⟨g29, OZ⟩ := own_size OW HB0
        gi_upto_region 15 with fail
        refine wpIn_region_held 8 (atD [[], [0], [1], [], [3], [4], [2, 5], [0]]) (atV [fun vH _ => vH = .int .i64 (j : Int), fun vH _ => vH = .pointer (some ⟨g3, j, none⟩), fun vH _ => vH = .int .u8 (((xorTo 3 x v j).getD j 0).toNat : Int), fun vH _ => vH = .int .i64 (j : Int), fun vH _ => vH = .pointer (some ⟨g2, j, none⟩), fun vH _ => vH = .int .u8 (((gmTo 3 v a j).getD j 0).toNat : Int), fun vH _ => vH = .int .u8 ((((xorTo 3 x v j).getD j 0) ^^^ ((gmTo 3 v a j).getD j 0)).toNat : Int), fun vH _ => vH = .pointer (some ⟨g3, j, none⟩)]) BelowR (by kernel_rfl) (by kernel_rfl) BelowR.trans (BelowR.drew _)
          (StV.atV (.const _ (.const _ (.const _ (.const _ (.const _ (.const _ (.const _ (.const _ .nil)))))))))
          ⟨?o30x0, ?o30x1, ?o30x2, ?o30x3, ?o30x4, ?o30x5, ?o30x6, ?o30x7, trivial⟩ ?_
        case o30x0 =>
          exact held_move free_wide rfl BelowR.refl (.tmp 16) (.inl rfl) fun xH w' kH _ => (pO (by kernel_rfl) rfl)
        case o30x1 =>
          exact held_run free_wide rfl (by rfl) BelowR.refl fun xH w' kH hR => ⟨_, run_idxO (vx := .pointer (some ⟨g3, 0, none⟩)) (vi := .int .i64 (j : Int)) rfl (pO (by kernel_rfl) rfl) (pT 0 (by kernel_rfl) (by kernel_rfl) (kH 0 (by decide))) (arX3 _ j (by omega) _), rfl⟩
        case o30x2 =>
          exact held_load free_wide rfl BelowR.refl 5 (.tmp 56) rfl fun xH w' kH hR => ⟨_, _, (pT 1 (by kernel_rfl) (by kernel_rfl) (kH 1 (by decide))), ldC OW hR 3 rfl (rawV_get _ (by rw [(show ((xorTo 3 x v j)).length = 3 by simp only [chkL_len, xorTo_len, gmTo_len, List.length_set, HD.out, HY.out, HV.out, HX.out])]; omega)) naU8, rfl⟩
        case o30x3 =>
          exact held_move free_wide rfl BelowR.refl (.tmp 16) (.inl rfl) fun xH w' kH _ => (pO (by kernel_rfl) rfl)
        case o30x4 =>
          exact held_run free_wide rfl (by rfl) BelowR.refl fun xH w' kH hR => ⟨_, run_idxO (vx := .pointer (some ⟨g2, 0, none⟩)) (vi := .int .i64 (j : Int)) rfl (pO (by kernel_rfl) rfl) (pT 3 (by kernel_rfl) (by kernel_rfl) (kH 3 (by decide))) (arX3 _ j (by omega) _), rfl⟩
        case o30x5 =>
          exact held_load free_wide rfl BelowR.refl 5 (.tmp 59) rfl fun xH w' kH hR => ⟨_, _, (pT 4 (by kernel_rfl) (by kernel_rfl) (kH 4 (by decide))), ldC OW hR 2 rfl (rawV_get _ (by rw [(show ((gmTo 3 v a j)).length = 3 by simp only [chkL_len, xorTo_len, gmTo_len, List.length_set, HD.out, HY.out, HV.out, HX.out])]; omega)) naU8, rfl⟩
        case o30x6 =>
          exact held_run free_wide rfl (by rfl) BelowR.refl fun xH w' kH hR => ⟨_, run_binO rfl (pT 2 (by kernel_rfl) (by kernel_rfl) (kH 2 (by decide))) (pT 5 (by kernel_rfl) (by kernel_rfl) (kH 5 (by decide))) (bin_xor8), rfl⟩
        case o30x7 =>
          exact held_run free_wide rfl (by rfl) BelowR.refl fun xH w' kH hR => ⟨_, run_idxO (vx := .pointer (some ⟨g3, 0, none⟩)) (vi := .int .i64 (j : Int)) rfl (pO (by kernel_rfl) rfl) (pT 0 (by kernel_rfl) (by kernel_rfl) (kH 0 (by decide))) (arX3 _ j (by omega) _), rfl⟩
        intro xH w' hv hR
        have h0 : xH 0 = _ := hv 0 (by omega)
        have h1 : xH 1 = _ := hv 1 (by omega)
        have h2 : xH 2 = _ := hv 2 (by omega)
        have h3 : xH 3 = _ := hv 3 (by omega)
        have h4 : xH 4 = _ := hv 4 (by omega)
        have h5 : xH 5 = _ := hv 5 (by omega)
        have h6 : xH 6 = _ := hv 6 (by omega)
        have h7 : xH 7 = _ := hv 7 (by omega)
        simp only [List.take_succ_cons, List.take_zero, List.drop_succ_cons, List.drop_zero, putsH, Act.put, List.setIfInBounds_toArray, List.set_cons_succ, List.set_cons_zero, h0, h1, h2, h3, h4, h5, h6, h7]
        have OW2 := Lib.hid (OW.out.step hR)
        clear hv hR OW OZ  h0 h1 h2 h3 h4 h5 h6 h7
        have OW := OW2
        clear OW2
        obtain ⟨g31, OZ⟩ := own_size OW HB0
        gi_wp2_with (first | (refine onlyO (.store 5 (.tmp 62) (.tmp 61)) rfl ?_; refine own_store 3 5 (.tmp 62) (.tmp 61) rfl rfl rfl rfl (.int .u8 ((((xorTo 3 x v j).getD j 0) ^^^ ((gmTo 3 v a j).getD j 0)).toNat : Int)) rfl (rawV ((xorTo 3 x v j).set j (((xorTo 3 x v j).getD j 0) ^^^ ((gmTo 3 v a j).getD j 0)))) (rawV_set _ _ (((xorTo 3 x v j).getD j 0) ^^^ ((gmTo 3 v a j).getD j 0))) (by rw [rawV_size, (show ((xorTo 3 x v j)).length = 3 by simp only [chkL_len, xorTo_len, gmTo_len, List.length_set, HD.out, HY.out, HV.out, HX.out])]; omega) rfl szU8 _ rfl OW OZ ?_; clear OW OZ; intro W OW OZ; simp only [Act.put, List.setIfInBounds_toArray, List.set_cons_succ, List.set_cons_zero]) | (refine onlyD 66 rfl ?_; refine own_valV 66 rfl rfl rfl (.pointer (some ⟨g2, j, none⟩)) (run_idxO (vx := .pointer (some ⟨g2, 0, none⟩)) (vi := .int .i64 (j : Int)) rfl rfl rfl (arX3 _ j (by omega) _)) ?_; simp only [Act.put, List.setIfInBounds_toArray, List.set_cons_succ, List.set_cons_zero]) | (refine onlyD 67 rfl ?_; refine own_loadV 67 2 5 (.tmp 66) rfl rfl rfl rfl rfl (.int .u8 (((gmTo 3 v a j).getD j 0).toNat : Int)) (rawV_get _ (by rw [(show ((gmTo 3 v a j)).length = 3 by simp only [chkL_len, xorTo_len, gmTo_len, List.length_set, HD.out, HY.out, HV.out, HX.out])]; omega)) naU8 OW ?_; simp only [Act.put, List.setIfInBounds_toArray, List.set_cons_succ, List.set_cons_zero]))
        refine ⟨trivial, ?_⟩
        refine (callsIn_wide.2 (fmul_any ff ((gmTo 3 v a j).getD j 0) a _ (HFLD.out _ _ OW.out rfl))).mono ?_
        rintro e Wg32 ⟨rfl, qd, hqd⟩
        have hbw := (show Below _ _ Wg32 by rw [hqd]; exact below_self_drewN _ _)
        clear hqd
        obtain ⟨g32, OW2, OZ2⟩ := own_call OW OZ hbw
        clear hbw OW OZ
        have OW := OW2
        have OZ := OZ2
        clear OW2 OZ2
        gi_wp2_with (first | (refine onlyD 70 rfl ?_; refine own_valV 70 rfl rfl rfl (.pointer (some ⟨g2, j, none⟩)) (run_idxO (vx := .pointer (some ⟨g2, 0, none⟩)) (vi := .int .i64 (j : Int)) rfl rfl rfl (arX3 _ j (by omega) _)) ?_; simp only [Act.put, List.setIfInBounds_toArray, List.set_cons_succ, List.set_cons_zero]) | (refine onlyO (.store 5 (.tmp 70) (.tmp 69)) rfl ?_; refine own_store 2 5 (.tmp 70) (.tmp 69) rfl rfl rfl rfl (.int .u8 ((gm ((gmTo 3 v a j).getD j 0) a).toNat : Int)) rfl (rawV ((gmTo 3 v a j).set j (gm ((gmTo 3 v a j).getD j 0) a))) (rawV_set _ _ (gm ((gmTo 3 v a j).getD j 0) a)) (by rw [rawV_size, (show ((gmTo 3 v a j)).length = 3 by simp only [chkL_len, xorTo_len, gmTo_len, List.length_set, HD.out, HY.out, HV.out, HX.out])]; omega) rfl szU8 _ rfl OW OZ ?_; clear OW OZ; intro W OW OZ; simp only [Act.put, List.setIfInBounds_toArray, List.set_cons_succ, List.set_cons_zero]) | (refine onlyD 71 rfl ?_; refine own_valV 71 rfl rfl rfl (.int .i64 ((j : Int) + 1)) (run_binO (vx := .int .i64 (j : Int)) (vy := .int .i64 1) rfl rfl rfl (bin_add_in (by omega) (by omega))) ?_; simp only [Act.put, List.setIfInBounds_toArray, List.set_cons_succ, List.set_cons_zero]))
        go_roundw
        case rel => exact ⟨j + 1, by omega, by go_num, (by rw [← gmTo_set (n := 3) (k := j) (by omega), ← xorG_set (n := 3) (a := a) (k := j) (by omega)]; exact OW.out)⟩
        case measure => (simp [intOf] <;> omega)
      have dhB27 := of_decide_eq_false hB27
      obtain rfl : j = 3 := by omega
      gi_upto_region 18 with fail
      refine wpIn_region_heldM 10 (atD [[], [], [], [0, 1, 2], [], [], [], [4, 5, 6], [], []]) (fun k => k == 8 || k == 9) (atV [fun vH _ => vH = .pointer (some ⟨cb, 0, none⟩), fun vH _ => vH = .agg (rawV (xorTo 32 y d (32 : Nat))), fun vH _ => vH = .agg (rawV (xorTo 3 x v (3 : Nat))), fun vH _ => vH = .agg (rawV (chkL (xorTo 32 y d (32 : Nat)) (xorTo 3 x v (3 : Nat)))), fun vH _ => vH = .pointer (some ⟨cb, 0, none⟩), fun vH _ => vH = .agg (rawV (gmTo 32 d a (32 : Nat))), fun vH _ => vH = .agg (rawV (gmTo 3 v a (3 : Nat))), fun vH _ => vH = .agg (rawV (chkL (gmTo 32 d a (32 : Nat)) (gmTo 3 v a (3 : Nat)))), MadeB g26 22 (rawV (List.replicate 4 0)), MadeB g26 22 (rawV (List.replicate 4 0))]) BelowR (by kernel_rfl) (by kernel_rfl) BelowR.trans (BelowR.drew _)
        (StV.atV (.const _ (.const _ (.const _ (.const _ (.const _ (.const _ (.const _ (.const _ (.cons (fun v x y h k => MadeB.step h k) (.cons (fun v x y h k => MadeB.step h k) .nil)))))))))))
        ⟨?o33x0, ?o33x1, ?o33x2, ?o33x3, ?o33x4, ?o33x5, ?o33x6, ?o33x7, ?o33x8, ?o33x9, trivial⟩ ?o33hM ?_
      case o33hM =>
        intro i v x hMi h
        have e : i = 8 ∨ i = 9 := by simpa using hMi
        rcases e with rfl | rfl <;> exact MadeB.old h
      case o33x0 =>
        refine HeldOpM.of rfl ?_
        exact held_move free_wide rfl BelowR.refl (.tmp 11) (.inl rfl) fun xH w' kH _ => (pO (by kernel_rfl) rfl)
      case o33x1 =>
        refine HeldOpM.of rfl ?_
        exact held_load free_wide rfl BelowR.refl 32 (.tmp 6) rfl fun xH w' kH hR => ⟨_, _, (pO (by kernel_rfl) rfl), ldR OW hR 1 rfl Try.underlying32 rfl (arJ32 (show ((xorTo 32 y d (32 : Nat))).length = 32 by simp only [chkL_len, xorTo_len, gmTo_len, List.length_set, HD.out, HY.out, HV.out, HX.out])), rfl⟩
      case o33x2 =>
        refine HeldOpM.of rfl ?_
        exact held_load free_wide rfl BelowR.refl 24 (.tmp 8) rfl fun xH w' kH hR => ⟨_, _, (pO (by kernel_rfl) rfl), ldR OW hR 3 rfl Try.underlying24 rfl (arJ3 (show ((xorTo 3 x v (3 : Nat))).length = 3 by simp only [chkL_len, xorTo_len, gmTo_len, List.length_set, HD.out, HY.out, HV.out, HX.out])), rfl⟩
      case o33x3 =>
        refine HeldOpM.of rfl ?_
        refine held_call free_wide rfl 18 _ _ rfl (enters_of Try.func18 (by kernel_rfl) rfl) fun xH w' kH hR => ⟨_, mapE3 (pT 0 (by kernel_rfl) (by kernel_rfl) (kH 0 (by decide))) (pT 1 (by kernel_rfl) (by kernel_rfl) (kH 1 (by decide))) (pT 2 (by kernel_rfl) (by kernel_rfl) (kH 2 (by decide))), ?_⟩
        refine (callsIn_wide.2 (checks_any cb fb (xorTo 32 y d (32 : Nat)) (xorTo 3 x v (3 : Nat)) (by simp only [chkL_len, xorTo_len, gmTo_len, List.length_set, HD.out, HY.out, HV.out, HX.out]) (by simp only [chkL_len, xorTo_len, gmTo_len, List.length_set, HD.out, HY.out, HV.out, HX.out]) _ (HCODE.out _ _ (OW.out.step hR) rfl rfl rfl))).mono ?_
        rintro e w2 ⟨rfl, h2⟩
        exact ⟨_, rfl, rfl, h2⟩
      case o33x4 =>
        refine HeldOpM.of rfl ?_
        exact held_move free_wide rfl BelowR.refl (.tmp 11) (.inl rfl) fun xH w' kH _ => (pO (by kernel_rfl) rfl)
      case o33x5 =>
        refine HeldOpM.of rfl ?_
        exact held_load free_wide rfl BelowR.refl 32 (.tmp 5) rfl fun xH w' kH hR => ⟨_, _, (pO (by kernel_rfl) rfl), ldR OW hR 0 rfl Try.underlying32 rfl (arJ32 (show ((gmTo 32 d a (32 : Nat))).length = 32 by simp only [chkL_len, xorTo_len, gmTo_len, List.length_set, HD.out, HY.out, HV.out, HX.out])), rfl⟩
      case o33x6 =>
        refine HeldOpM.of rfl ?_
        exact held_load free_wide rfl BelowR.refl 24 (.tmp 7) rfl fun xH w' kH hR => ⟨_, _, (pO (by kernel_rfl) rfl), ldR OW hR 2 rfl Try.underlying24 rfl (arJ3 (show ((gmTo 3 v a (3 : Nat))).length = 3 by simp only [chkL_len, xorTo_len, gmTo_len, List.length_set, HD.out, HY.out, HV.out, HX.out])), rfl⟩
      case o33x7 =>
        refine HeldOpM.of rfl ?_
        refine held_call free_wide rfl 18 _ _ rfl (enters_of Try.func18 (by kernel_rfl) rfl) fun xH w' kH hR => ⟨_, mapE3 (pT 4 (by kernel_rfl) (by kernel_rfl) (kH 4 (by decide))) (pT 5 (by kernel_rfl) (by kernel_rfl) (kH 5 (by decide))) (pT 6 (by kernel_rfl) (by kernel_rfl) (kH 6 (by decide))), ?_⟩
        refine (callsIn_wide.2 (checks_any cb fb (gmTo 32 d a (32 : Nat)) (gmTo 3 v a (3 : Nat)) (by simp only [chkL_len, xorTo_len, gmTo_len, List.length_set, HD.out, HY.out, HV.out, HX.out]) (by simp only [chkL_len, xorTo_len, gmTo_len, List.length_set, HD.out, HY.out, HV.out, HX.out]) _ (HCODE.out _ _ (OW.out.step hR) rfl rfl rfl))).mono ?_
        rintro e w2 ⟨rfl, h2⟩
        exact ⟨_, rfl, rfl, h2⟩
      case o33x8 =>
        exact held_allocM free_wide rfl 22 rfl (rawV (List.replicate 4 0)) al4 (fun w' hR => by have h := MadeB.new 22 (rawV (List.replicate 4 0)) hR; rw [OZ.out.1] at h; exact h) (fun w' => (Below.refl _ w').alloc (Nat.le_refl _) _)
      case o33x9 =>
        exact held_allocM free_wide rfl 22 rfl (rawV (List.replicate 4 0)) al4 (fun w' hR => by have h := MadeB.new 22 (rawV (List.replicate 4 0)) hR; rw [OZ.out.1] at h; exact h) (fun w' => (Below.refl _ w').alloc (Nat.le_refl _) _)
      intro xH w' hv hE hR
      have h0 : xH 0 = _ := hv 0 (by omega)
      have h1 : xH 1 = _ := hv 1 (by omega)
      have h2 : xH 2 = _ := hv 2 (by omega)
      have h3 : xH 3 = _ := hv 3 (by omega)
      have h4 : xH 4 = _ := hv 4 (by omega)
      have h5 : xH 5 = _ := hv 5 (by omega)
      have h6 : xH 6 = _ := hv 6 (by omega)
      have h7 : xH 7 = _ := hv 7 (by omega)
      obtain ⟨ga34, h8, hb8, hk8⟩ : MadeB g26 22 (rawV (List.replicate 4 0)) (xH 8) w' := hv 8 (by omega)
      obtain ⟨ga35, h9, hb9, hk9⟩ : MadeB g26 22 (rawV (List.replicate 4 0)) (xH 9) w' := hv 9 (by omega)
      simp only [List.take_succ_cons, List.take_zero, List.drop_succ_cons, List.drop_zero, putsH, Act.put, List.setIfInBounds_toArray, List.set_cons_succ, List.set_cons_zero, h0, h1, h2, h3, h4, h5, h6, h7, h8, h9]
      have hne : ga34 ≠ ga35 := fun e => hE 8 9 (by omega) (by omega) rfl rfl (by decide) (by rw [h8, h9, e])
      have OW2 := Lib.hid (Own.add2 OW.out (show Below _ _ w' from hR) (by rw [OZ.out.1]; exact OZ.out.2) (by rw [OZ.out.1]; exact hb8) hk8 (by rw [OZ.out.1]; exact hb9) hk9 hne)
      clear hv hR OW OZ hE hne hb8 hk8 hb9 hk9 h0 h1 h2 h3 h4 h5 h6 h7 h8 h9
      have OW := OW2
      clear OW2
      obtain ⟨g36, OZ⟩ := own_size OW HB0
      gi_wp2_with (first | (refine onlyO (.store 22 (.tmp 17) (.tmp 75)) rfl ?_; refine own_storeRow 10 22 (.tmp 17) (.tmp 75) rfl rfl rfl rfl (rawV (chkL (xorTo 32 y d (32 : Nat)) (xorTo 3 x v (3 : Nat)))) rfl (by rw [rawV_size, rawV_size, (show ((chkL (xorTo 32 y d (32 : Nat)) (xorTo 3 x v (3 : Nat)))).length = 4 by simp only [chkL_len, xorTo_len, gmTo_len, List.length_set, HD.out, HY.out, HV.out, HX.out]), (show ((List.replicate 4 0) : List UInt8).length = 4 from List.length_replicate)]) (rawV_one _) (arJ4 (show ((chkL (xorTo 32 y d (32 : Nat)) (xorTo 3 x v (3 : Nat)))).length = 4 by simp only [chkL_len, xorTo_len, gmTo_len, List.length_set, HD.out, HY.out, HV.out, HX.out])) _ rfl OW OZ ?_; clear OW OZ; intro W OW OZ; simp only [Act.put, List.setIfInBounds_toArray, List.set_cons_succ, List.set_cons_zero]) | (refine onlyO (.store 22 (.tmp 18) (.tmp 79)) rfl ?_; refine own_storeRow 11 22 (.tmp 18) (.tmp 79) rfl rfl rfl rfl (rawV (chkL (gmTo 32 d a (32 : Nat)) (gmTo 3 v a (3 : Nat)))) rfl (by rw [rawV_size, rawV_size, (show ((chkL (gmTo 32 d a (32 : Nat)) (gmTo 3 v a (3 : Nat)))).length = 4 by simp only [chkL_len, xorTo_len, gmTo_len, List.length_set, HD.out, HY.out, HV.out, HX.out]), (show ((List.replicate 4 0) : List UInt8).length = 4 from List.length_replicate)]) (rawV_one _) (arJ4 (show ((chkL (gmTo 32 d a (32 : Nat)) (gmTo 3 v a (3 : Nat)))).length = 4 by simp only [chkL_len, xorTo_len, gmTo_len, List.length_set, HD.out, HY.out, HV.out, HX.out])) _ rfl OW OZ ?_; clear OW OZ; intro W OW OZ; simp only [Act.put, List.setIfInBounds_toArray, List.set_cons_succ, List.set_cons_zero]))
      gi_loopw [80] (fun z80 wr => ∃ m : Nat, m ≤ 4 ∧ z80 = .int .i64 (m : Int) ∧ Own b0 w [(b0, Obj.cells (rawV (gmTo 32 d a (32 : Nat))) 32 (0, 0)), (g1, Obj.cells (rawV (xorTo 32 y d (32 : Nat))) 32 (0, 0)), (g2, Obj.cells (rawV (gmTo 3 v a (3 : Nat))) 24 (0, 0)), (g3, Obj.cells (rawV (xorTo 3 x v (3 : Nat))) 24 (0, 0)), (fb, Obj.cells (fieldCells) 68 (0, 0)), (gb, Obj.cells (rowV genL rest) 5 (0, 0)), (cb, Obj.cells (#[.pointer (some ⟨fb, 0, none⟩), .slice (some ⟨gb, 0, none⟩) 5 (5 + rest.length)]) 59 (0, 0)), (ff, Obj.cells (fieldCells) 68 (0, 0)), (ga10, Obj.cells (rawV (chkL d v)) 22 (0, 0)), (ga11, Obj.cells (rawV (chkL y x)) 22 (0, 0)), (ga34, Obj.cells (rawV (chkL (xorTo 32 y d (32 : Nat)) (xorTo 3 x v (3 : Nat)))) 22 (0, 0)), (ga35, Obj.cells (rawV (chkL (gmTo 32 d a (32 : Nat)) (gmTo 3 v a (3 : Nat)))) 22 (0, 0))] wr) (fun z80 _ => 4 - (intOf z80).toNat)
      case atStart => exact ⟨0, by omega, rfl, (by skip; exact OW.out)⟩
      case round =>
        obtain ⟨m, hk38, rfl, hO⟩ := hrel
        clear OW OZ
        have OW := Lib.hid hO
        obtain ⟨g37, OZ⟩ := own_size OW HB0
        clear hO
        gi_upto_region 20 with fail
        obtain ⟨eo390, qeo390⟩ : ∃ e, (decide ((m : Int) < 4)) = e := ⟨_, rfl⟩
        refine wpIn_region_heldL 1 (atD [[]]) (atV [fun vH _ => vH = .bool eo390]) BelowR (by kernel_rfl) BelowR.trans (BelowR.refl _)
          (StV.atV (.const _ .nil))
          ⟨?o39x0, trivial⟩ ?_
        case o39x0 =>
          exact held_run free_wide rfl (by rfl) BelowR.refl fun xH w' kH hR => ⟨_, run_binO rfl (pO (by kernel_rfl) rfl) rfl bin_lss, (congrArg Value.bool qeo390)⟩
        intro xH w' hv hR
        subst qeo390
        have h0 : xH 0 = _ := hv 0 (by omega)
        simp only [List.take_succ_cons, List.take_zero, List.drop_succ_cons, List.drop_zero, putsH, Act.put, List.setIfInBounds_toArray, List.set_cons_succ, List.set_cons_zero, h0]
        have OW2 := Lib.hid (OW.out.step hR)
        clear hv hR OW OZ  h0
        have OW := OW2
        clear OW2
        obtain ⟨g40, OZ⟩ := own_size OW HB0
        cases hB41 : (decide ((m : Int) < 4))
        case true =>
          have dhB41 := of_decide_eq_true hB41
          gi_upto_region 21 with fail
          refine wpIn_region_heldL 2 (atD [[], [0]]) (atV [fun vH _ => vH = .int .i64 (m : Int), fun vH _ => vH = .int .i64 (m : Int)]) BelowR (by kernel_rfl) BelowR.trans (BelowR.refl _)
            (StV.atV (.const _ (.const _ .nil)))
            ⟨?o42x0, ?o42x1, trivial⟩ ?_
          case o42x0 =>
            exact held_move free_wide rfl BelowR.refl (.tmp 80) (.inl rfl) fun xH w' kH _ => (pO (by kernel_rfl) rfl)
          case o42x1 =>
            exact held_move free_wide rfl BelowR.refl (.tmp 82) (.inr rfl) fun xH w' kH _ => (pT 0 (by kernel_rfl) (by kernel_rfl) (kH 0 (by decide)))
          intro xH w' hv hR
          have h0 : xH 0 = _ := hv 0 (by omega)
          have h1 : xH 1 = _ := hv 1 (by omega)
          simp only [List.take_succ_cons, List.take_zero, List.drop_succ_cons, List.drop_zero, putsH, Act.put, List.setIfInBounds_toArray, List.set_cons_succ, List.set_cons_zero, h0, h1]
          have OW2 := Lib.hid (OW.out.step hR)
          clear hv hR OW OZ  h0 h1
          have OW := OW2
          clear OW2
          obtain ⟨g43, OZ⟩ := own_size OW HB0
          gi_upto_region 22 with fail
          refine wpIn_region_held 23 (atD [[], [0], [1], [], [3], [4], [], [6], [7], [5, 8], [2, 9], [10], [11], [11, 12], [11, 13], [11], [11], [11, 16], [11, 17], [11], [11, 15, 18, 19], [11, 14, 20], [11, 21]]) (atV [fun vH _ => vH = .int .i64 (m : Int), fun vH _ => vH = .pointer (some ⟨ga34, m, none⟩), fun vH _ => vH = .int .u8 (((chkL (xorTo 32 y d (32 : Nat)) (xorTo 3 x v (3 : Nat))).getD m 0).toNat : Int), fun vH _ => vH = .int .i64 (m : Int), fun vH _ => vH = .pointer (some ⟨ga10, m, none⟩), fun vH _ => vH = .int .u8 (((chkL d v).getD m 0).toNat : Int), fun vH _ => vH = .int .i64 (m : Int), fun vH _ => vH = .pointer (some ⟨ga11, m, none⟩), fun vH _ => vH = .int .u8 (((chkL y x).getD m 0).toNat : Int), fun vH _ => vH = .int .u8 ((((chkL d v).getD m 0) ^^^ ((chkL y x).getD m 0)).toNat : Int), fun vH _ => vH = .bool false, fun vH _ => vH = .bool false, fun vH _ => vH = .int .i64 (m : Int), fun vH _ => vH = .pointer (some ⟨ga35, m, none⟩), fun vH _ => vH = .int .u8 (((chkL (gmTo 32 d a (32 : Nat)) (gmTo 3 v a (3 : Nat))).getD m 0).toNat : Int), fun vH _ => vH = .pointer (some ⟨ff, 0, none⟩), fun vH _ => vH = .int .i64 (m : Int), fun vH _ => vH = .pointer (some ⟨ga10, m, none⟩), fun vH _ => vH = .int .u8 (((chkL d v).getD m 0).toNat : Int), fun vH _ => vH = .int .u8 (a.toNat : Int), fun vH _ => vH = .int .u8 ((gm ((chkL d v).getD m 0) a).toNat : Int), fun vH _ => vH = .bool false, fun vH _ => vH = .bool false]) BelowR (by kernel_rfl) (by kernel_rfl) BelowR.trans (BelowR.drew _)
            (StV.atV (.const _ (.const _ (.const _ (.const _ (.const _ (.const _ (.const _ (.const _ (.const _ (.const _ (.const _ (.const _ (.const _ (.const _ (.const _ (.const _ (.const _ (.const _ (.const _ (.const _ (.const _ (.const _ (.const _ .nil))))))))))))))))))))))))
            ⟨?o44x0, ?o44x1, ?o44x2, ?o44x3, ?o44x4, ?o44x5, ?o44x6, ?o44x7, ?o44x8, ?o44x9, ?o44x10, ?o44x11, ?o44x12, ?o44x13, ?o44x14, ?o44x15, ?o44x16, ?o44x17, ?o44x18, ?o44x19, ?o44x20, ?o44x21, ?o44x22, trivial⟩ ?_
          case o44x0 =>
            exact held_move free_wide rfl BelowR.refl (.tmp 19) (.inl rfl) fun xH w' kH _ => (pO (by kernel_rfl) rfl)
          case o44x1 =>
            exact held_run free_wide rfl (by rfl) BelowR.refl fun xH w' kH hR => ⟨_, run_idxO (vx := .pointer (some ⟨ga34, 0, none⟩)) (vi := .int .i64 (m : Int)) rfl (pO (by kernel_rfl) rfl) (pT 0 (by kernel_rfl) (by kernel_rfl) (kH 0 (by decide))) (arX4 _ m (by omega) _), rfl⟩
          case o44x2 =>
            exact held_load free_wide rfl BelowR.refl 5 (.tmp 84) rfl fun xH w' kH hR => ⟨_, _, (pT 1 (by kernel_rfl) (by kernel_rfl) (kH 1 (by decide))), ldC OW hR 10 rfl (rawV_get _ (by rw [(show ((chkL (xorTo 32 y d (32 : Nat)) (xorTo 3 x v (3 : Nat)))).length = 4 by simp only [chkL_len, xorTo_len, gmTo_len, List.length_set, HD.out, HY.out, HV.out, HX.out])]; omega)) naU8, rfl⟩
          case o44x3 =>
            exact held_move free_wide rfl BelowR.refl (.tmp 19) (.inl rfl) fun xH w' kH _ => (pO (by kernel_rfl) rfl)
          case o44x4 =>
            exact held_run free_wide rfl (by rfl) BelowR.refl fun xH w' kH hR => ⟨_, run_idxO (vx := .pointer (some ⟨ga10, 0, none⟩)) (vi := .int .i64 (m : Int)) rfl (pO (by kernel_rfl) rfl) (pT 3 (by kernel_rfl) (by kernel_rfl) (kH 3 (by decide))) (arX4 _ m (by omega) _), rfl⟩
          case o44x5 =>
            exact held_load free_wide rfl BelowR.refl 5 (.tmp 87) rfl fun xH w' kH hR => ⟨_, _, (pT 4 (by kernel_rfl) (by kernel_rfl) (kH 4 (by decide))), ldC OW hR 8 rfl (rawV_get _ (by rw [(show ((chkL d v)).length = 4 by simp only [chkL_len, xorTo_len, gmTo_len, List.length_set, HD.out, HY.out, HV.out, HX.out])]; omega)) naU8, rfl⟩
          case o44x6 =>
            exact held_move free_wide rfl BelowR.refl (.tmp 19) (.inl rfl) fun xH w' kH _ => (pO (by kernel_rfl) rfl)
          case o44x7 =>
            exact held_run free_wide rfl (by rfl) BelowR.refl fun xH w' kH hR => ⟨_, run_idxO (vx := .pointer (some ⟨ga11, 0, none⟩)) (vi := .int .i64 (m : Int)) rfl (pO (by kernel_rfl) rfl) (pT 6 (by kernel_rfl) (by kernel_rfl) (kH 6 (by decide))) (arX4 _ m (by omega) _), rfl⟩
          case o44x8 =>
            exact held_load free_wide rfl BelowR.refl 5 (.tmp 90) rfl fun xH w' kH hR => ⟨_, _, (pT 7 (by kernel_rfl) (by kernel_rfl) (kH 7 (by decide))), ldC OW hR 9 rfl (rawV_get _ (by rw [(show ((chkL y x)).length = 4 by simp only [chkL_len, xorTo_len, gmTo_len, List.length_set, HD.out, HY.out, HV.out, HX.out])]; omega)) naU8, rfl⟩
          case o44x9 =>
            exact held_run free_wide rfl (by rfl) BelowR.refl fun xH w' kH hR => ⟨_, run_binO rfl (pT 5 (by kernel_rfl) (by kernel_rfl) (kH 5 (by decide))) (pT 8 (by kernel_rfl) (by kernel_rfl) (kH 8 (by decide))) (bin_xor8), rfl⟩
          case o44x10 =>
            exact held_run free_wide rfl (by rfl) BelowR.refl fun xH w' kH hR => ⟨_, run_binO rfl (pT 2 (by kernel_rfl) (by kernel_rfl) (kH 2 (by decide))) (pT 9 (by kernel_rfl) (by kernel_rfl) (kH 9 (by decide))) (neU (HLX.out m (by omega)) _ _ _), rfl⟩
          case o44x11 =>
            exact held_move free_wide rfl BelowR.refl (.tmp 93) (.inl rfl) fun xH w' kH _ => (pT 10 (by kernel_rfl) (by kernel_rfl) (kH 10 (by decide)))
          case o44x12 =>
            exact held_moveG free_wide (heldGd_some 11 94 false rfl (by kernel_rfl) (by kernel_rfl) (by kernel_rfl) (fun xH w' kH => kH 11 (by decide))) BelowR.refl (.tmp 19) (.inl rfl) fun xH w' kH _ => (pO (by kernel_rfl) rfl)
          case o44x13 =>
            exact held_runG free_wide (heldGd_some 11 94 false rfl (by kernel_rfl) (by kernel_rfl) (by kernel_rfl) (fun xH w' kH => kH 11 (by decide))) (by rfl) BelowR.refl fun xH w' kH hR => ⟨_, run_idxO (vx := .pointer (some ⟨ga35, 0, none⟩)) (vi := .int .i64 (m : Int)) rfl (pO (by kernel_rfl) rfl) (pT 12 (by kernel_rfl) (by kernel_rfl) (kH 12 (by decide))) (arX4 _ m (by omega) _), rfl⟩
          case o44x14 =>
            exact held_loadG free_wide (heldGd_some 11 94 false rfl (by kernel_rfl) (by kernel_rfl) (by kernel_rfl) (fun xH w' kH => kH 11 (by decide))) BelowR.refl 5 (.tmp 96) rfl fun xH w' kH hR => ⟨_, _, (pT 13 (by kernel_rfl) (by kernel_rfl) (kH 13 (by decide))), ldC OW hR 11 rfl (rawV_get _ (by rw [(show ((chkL (gmTo 32 d a (32 : Nat)) (gmTo 3 v a (3 : Nat)))).length = 4 by simp only [chkL_len, xorTo_len, gmTo_len, List.length_set, HD.out, HY.out, HV.out, HX.out])]; omega)) naU8, rfl⟩
          case o44x15 =>
            exact held_moveG free_wide (heldGd_some 11 94 false rfl (by kernel_rfl) (by kernel_rfl) (by kernel_rfl) (fun xH w' kH => kH 11 (by decide))) BelowR.refl (.tmp 12) (.inl rfl) fun xH w' kH _ => (pO (by kernel_rfl) rfl)
          case o44x16 =>
            exact held_moveG free_wide (heldGd_some 11 94 false rfl (by kernel_rfl) (by kernel_rfl) (by kernel_rfl) (fun xH w' kH => kH 11 (by decide))) BelowR.refl (.tmp 19) (.inl rfl) fun xH w' kH _ => (pO (by kernel_rfl) rfl)
          case o44x17 =>
            exact held_runG free_wide (heldGd_some 11 94 false rfl (by kernel_rfl) (by kernel_rfl) (by kernel_rfl) (fun xH w' kH => kH 11 (by decide))) (by rfl) BelowR.refl fun xH w' kH hR => ⟨_, run_idxO (vx := .pointer (some ⟨ga10, 0, none⟩)) (vi := .int .i64 (m : Int)) rfl (pO (by kernel_rfl) rfl) (pT 16 (by kernel_rfl) (by kernel_rfl) (kH 16 (by decide))) (arX4 _ m (by omega) _), rfl⟩
          case o44x18 =>
            exact held_loadG free_wide (heldGd_some 11 94 false rfl (by kernel_rfl) (by kernel_rfl) (by kernel_rfl) (fun xH w' kH => kH 11 (by decide))) BelowR.refl 5 (.tmp 100) rfl fun xH w' kH hR => ⟨_, _, (pT 17 (by kernel_rfl) (by kernel_rfl) (kH 17 (by decide))), ldC OW hR 8 rfl (rawV_get _ (by rw [(show ((chkL d v)).length = 4 by simp only [chkL_len, xorTo_len, gmTo_len, List.length_set, HD.out, HY.out, HV.out, HX.out])]; omega)) naU8, rfl⟩
          case o44x19 =>
            exact held_moveG free_wide (heldGd_some 11 94 false rfl (by kernel_rfl) (by kernel_rfl) (by kernel_rfl) (fun xH w' kH => kH 11 (by decide))) BelowR.refl (.tmp 4) (.inl rfl) fun xH w' kH _ => (pO (by kernel_rfl) rfl)
          case o44x20 =>
            refine held_callG free_wide (heldGd_some 11 94 false rfl (by kernel_rfl) (by kernel_rfl) (by kernel_rfl) (fun xH w' kH => kH 11 (by decide))) 19 _ _ rfl (enters_of Try.func19 (by kernel_rfl) rfl) fun xH w' kH hR => ⟨_, mapE3 (pT 15 (by kernel_rfl) (by kernel_rfl) (kH 15 (by decide))) (pT 18 (by kernel_rfl) (by kernel_rfl) (kH 18 (by decide))) (pT 19 (by kernel_rfl) (by kernel_rfl) (kH 19 (by decide))), ?_⟩
            refine (callsIn_wide.2 (fmul_any ff ((chkL d v).getD m 0) a _ (HFLD.out _ _ (OW.out.step hR) rfl))).mono ?_
            rintro e w2 ⟨rfl, qd, rfl⟩
            exact ⟨_, rfl, rfl, below_self_drewN _ _⟩
          case o44x21 =>
            exact held_runG free_wide (heldGd_some 11 94 false rfl (by kernel_rfl) (by kernel_rfl) (by kernel_rfl) (fun xH w' kH => kH 11 (by decide))) (by rfl) BelowR.refl fun xH w' kH hR => ⟨_, run_binO rfl (pT 14 (by kernel_rfl) (by kernel_rfl) (kH 14 (by decide))) (pT 20 (by kernel_rfl) (by kernel_rfl) (kH 20 (by decide))) (neU (HLG.out m (by omega)) _ _ _), rfl⟩
          case o44x22 =>
            exact held_run free_wide rfl (by rfl) BelowR.refl fun xH w' kH hR => ⟨_, run_pickF rfl (pT 11 (by kernel_rfl) (by kernel_rfl) (kH 11 (by decide))) (pT 21 (by kernel_rfl) (by kernel_rfl) (kH 21 (by decide))), rfl⟩
          intro xH w' hv hR
          have h0 : xH 0 = _ := hv 0 (by omega)
          have h1 : xH 1 = _ := hv 1 (by omega)
          have h2 : xH 2 = _ := hv 2 (by omega)
          have h3 : xH 3 = _ := hv 3 (by omega)
          have h4 : xH 4 = _ := hv 4 (by omega)
          have h5 : xH 5 = _ := hv 5 (by omega)
          have h6 : xH 6 = _ := hv 6 (by omega)
          have h7 : xH 7 = _ := hv 7 (by omega)
          have h8 : xH 8 = _ := hv 8 (by omega)
          have h9 : xH 9 = _ := hv 9 (by omega)
          have h10 : xH 10 = _ := hv 10 (by omega)
          have h11 : xH 11 = _ := hv 11 (by omega)
          have h12 : xH 12 = _ := hv 12 (by omega)
          have h13 : xH 13 = _ := hv 13 (by omega)
          have h14 : xH 14 = _ := hv 14 (by omega)
          have h15 : xH 15 = _ := hv 15 (by omega)
          have h16 : xH 16 = _ := hv 16 (by omega)
          have h17 : xH 17 = _ := hv 17 (by omega)
          have h18 : xH 18 = _ := hv 18 (by omega)
          have h19 : xH 19 = _ := hv 19 (by omega)
          have h20 : xH 20 = _ := hv 20 (by omega)
          have h21 : xH 21 = _ := hv 21 (by omega)
          have h22 : xH 22 = _ := hv 22 (by omega)
          simp only [List.take_succ_cons, List.take_zero, List.drop_succ_cons, List.drop_zero, putsH, Act.put, List.setIfInBounds_toArray, List.set_cons_succ, List.set_cons_zero, h0, h1, h2, h3, h4, h5, h6, h7, h8, h9, h10, h11, h12, h13, h14, h15, h16, h17, h18, h19, h20, h21, h22]
          have OW2 := Lib.hid (OW.out.step hR)
          clear hv hR OW OZ  h0 h1 h2 h3 h4 h5 h6 h7 h8 h9 h10 h11 h12 h13 h14 h15 h16 h17 h18 h19 h20 h21 h22
          have OW := OW2
          clear OW2
          obtain ⟨g45, OZ⟩ := own_size OW HB0
          gi_wp2_with (first | (refine onlyD 106 rfl ?_; refine own_valV 106 rfl rfl rfl (.int .i64 ((m : Int) + 1)) (run_binO (vx := .int .i64 (m : Int)) (vy := .int .i64 1) rfl rfl rfl (bin_add_in (by omega) (by omega))) ?_; simp only [Act.put, List.setIfInBounds_toArray, List.set_cons_succ, List.set_cons_zero]))
          go_roundw
          case rel => exact ⟨m + 1, by omega, by go_num, (by skip; exact OW.out)⟩
          case measure => (simp [intOf] <;> omega)
        have dhB41 := of_decide_eq_false hB41
        obtain rfl : m = 4 := by omega
        gi_wp2
        refine leaves_own [] _ (Nat.le_of_eq HB0.out) (by simpa using OW.out) ?_
        intro W' hO
        exact ⟨.bool true, by simp [results, Try.results6, go_sem], rfl, hO.done HB0⟩
end Go.Proofs.Ytdgflbbffimpkaa
