/- DiagnoseFinds, walked. -/
import Derived.Test.YtdglhppcfdpcaaaTaT
import Derived.Test.YtdglhppcfdpcaaaTaQ
import Derived.WalkKit
import Derived.Sort.CutIn
import Derived.IntWalk
namespace Go.Proofs.Ytdglhppcfdpcaaa.E
open Go Go.RowKit Go.Shelf
attribute [local go_sem] Oper.semAt_some
set_option linter.unusedVariables false
set_option linter.unusedSimpArgs false

theorem sn_ok {s : Sn} (h : ((((decide (s.x4 < 0)) || (decide (s.x4 > 35))) || (decide (s.x0 < 0))) || (decide (s.x0 > 7))) = false) : SnOk s := by
  simp only [Bool.or_eq_false_iff, decide_eq_false_iff_not] at h
  exact ⟨by omega, by omega, by omega, by omega⟩
theorem sn_all {xs : List Sn} {n : Nat} (hn : n = xs.length) (h : ∀ j, j < n → SnOk (xs.getD j zSn)) : ∀ s ∈ xs, SnOk s := fun s hs => by
  obtain ⟨j, hj, rfl⟩ := List.getElem_of_mem hs
  have := h j (by omega)
  rwa [List.getD_eq_getElem?_getD, List.getElem?_eq_getElem hj] at this
theorem tk_suc {xs : List Sn} {k : Nat} (hk : k < xs.length) : xs.take (k + 1) = xs.take k ++ [⟨(xs.getD k zSn).x0, (xs.getD k zSn).x1, (xs.getD k zSn).x2, (xs.getD k zSn).x3, (xs.getD k zSn).x4⟩] := by
  rw [List.take_add_one, List.getElem?_eq_getElem hk, List.getD_eq_getElem?_getD, List.getElem?_eq_getElem hk]; rfl
theorem tk_len {xs : List Sn} {k : Nat} (hk : k ≤ xs.length) : (xs.take k).length = k := by rw [List.length_take]; omega
theorem tk_all {xs : List Sn} {k : Nat} (hk : k = xs.length) : xs.take k = xs := by rw [hk, List.take_length]
def cnI (xs : List Sn) (K : Int) : Nat := cnG (gsS xs) K
theorem cnI_none {xs : List Sn} (hx : ∀ s ∈ xs, SnOk s) {r c : Nat} (hc : c < 36) (h : ((tone_6 xs (r : Int) (c : Int) : Nat) : Int) == 0) : cnI xs (256 * ((r : Nat) : Int) + ((c : Nat) : Int)) = cnI xs (256 * ((r : Nat) : Int) + (((c + 1 : Nat)) : Int)) := by
  unfold cnI
  rw [Int.natCast_add]
  exact (fi_none hx (by omega) (by omega) h).symm
theorem cnI_some {xs : List Sn} (hx : ∀ s ∈ xs, SnOk s) {r c : Nat} (hc : c < 36) (h : (((tone_6 xs (r : Int) (c : Int) : Nat) : Int) == 0) = false) : cnI xs (256 * ((r : Nat) : Int) + ((c : Nat) : Int)) + 1 = cnI xs (256 * ((r : Nat) : Int) + (((c + 1 : Nat)) : Int)) := by
  unfold cnI
  rw [Int.natCast_add]
  obtain ⟨z, _, e⟩ := fi_some hx (by omega) (by omega) h
  exact e.symm
theorem cnI_lt {xs : List Sn} (hx : ∀ s ∈ xs, SnOk s) {r c : Nat} (hc : c < 36) (h : (((tone_6 xs (r : Int) (c : Int) : Nat) : Int) == 0) = false) : cnI xs (256 * ((r : Nat) : Int) + ((c : Nat) : Int)) < (fnS (So.grp kS (So.srt kS xs)) (So.grp kS (So.srt kS xs)).length).length := by
  obtain ⟨z, e, _⟩ := fi_some hx (by omega) (by omega) h
  exact (got_get e).1
theorem cnI_want {xs : List Sn} (hx : ∀ s ∈ xs, SnOk s) {r c : Nat} (hr : r < 8) (hc : c < 36) (h : (((tone_6 xs (r : Int) (c : Int) : Nat) : Int) == 0) = false) : (fnS (So.grp kS (So.srt kS xs)) (So.grp kS (So.srt kS xs)).length).getD (cnI xs (256 * ((r : Nat) : Int) + ((c : Nat) : Int))) zFg = ⟨tone_0 xs r c, tone_1 xs r c, tone_2 xs r c, tone_3 xs r c, tone_4 xs r c, tone_5 xs r c, ((tone_6 xs r c : Nat) : Int)⟩ := by
  obtain ⟨z, e, _⟩ := fi_some hx (by omega) (by omega) h
  exact (got_get e).2.trans (fi_want hx (by omega) (by omega) e)
theorem cnI_row {xs : List Sn} (hx : ∀ s ∈ xs, SnOk s) (r : Nat) : cnI xs (256 * ((r : Nat) : Int) + 36) = cnI xs (256 * ((r + 1 : Nat) : Int)) := by
  unfold cnI
  rw [Int.natCast_add]
  exact (cn_row hx r).symm
theorem cnI_0 {xs : List Sn} (hx : ∀ s ∈ xs, SnOk s) : (0 : Int) = ((cnI xs (256 * ((0 : Nat) : Int)) : Nat) : Int) := by
  unfold cnI
  rw [show (256 * ((0 : Nat) : Int)) = 0 from rfl, cn_0 hx]; rfl
theorem cnI_8 {xs : List Sn} (hx : ∀ s ∈ xs, SnOk s) : cnI xs (256 * 8) = (fnS (So.grp kS (So.srt kS xs)) (So.grp kS (So.srt kS xs)).length).length := by
  rw [fnS_len]; exact cn_8 hx
theorem cnI_le {xs : List Sn} (K : Int) : cnI xs K ≤ xs.length := Nat.le_trans (List.length_filter_le _ _) (g_cntS xs)
theorem got_le (xs : List Sn) : (fnS (So.grp kS (So.srt kS xs)) (So.grp kS (So.srt kS xs)).length).length ≤ xs.length := by rw [fnS_len]; exact g_cntS xs
theorem hc_one {xs : List Sn} (hx : ∀ s ∈ xs, SnOk s) {k n : Nat} (hk : k < xs.length) (hn : n = (fnS (So.grp kS (So.srt kS xs)) (So.grp kS (So.srt kS xs)).length).length) : hcF (fnS (So.grp kS (So.srt kS xs)) (So.grp kS (So.srt kS xs)).length) (xs.getD k zSn) n = 1 := by
  subst hn
  refine hcF_one hx ?_
  rw [List.getD_eq_getElem?_getD, List.getElem?_eq_getElem hk]
  exact List.getElem_mem hk
attribute [local irreducible] fnS cnI hcF kS So.grp So.srt tone_0 tone_1 tone_2 tone_3 tone_4 tone_5 tone_6
set_option maxRecDepth 100000 in
set_option maxHeartbeats 1000000 in
theorem dfinds (A : Option Addr) (nA cA : Nat) (xs : List Sn) (bz : Objs) (h : SrE eSn (.slice A nA cA) xs bz) : Con Try.prog 4 #[.slice A nA cA] [.c bz] [] (fun _ => []) (fun _ => .bool true) := by
 refine Con.of (enters_of Try.func4 (by kernel_rfl) rfl) fun w cs HS HH OW => ?_
 have HTK := fun k => tk_len (xs := xs) (k := k)
 have HGL := got_le xs
 refine (callsIn_wide (n := 6)).1 ?_
 refine callsIn_of_wp_marks Try.func4 rfl trivial ?_ rfl
 simp only [Try.ntmps4, eF, Nat.reduceAdd, Nat.reduceSub]
 gi_upto_region 0 with fail
 refine rg (fun q1 => [.v (.bool false)]) (fun _ L => L) OW ?_
 clear OW; intro q1 _ Wq1 OW; simp only [↓pc, ↓pn, vE, Hint.val, Act.put, eL]
 gi_upto_region 1 with fail
 refine rg (fun q2 => [.c [] [] (anch27),
  .v (.bool false)]) (fun _ L => L) OW ?_
 clear OW; intro q2 _ Wq2 OW; simp only [↓pc, ↓pn, vE, Hint.val, Act.put, eL]
 gi_upto_region 3 with fail
 refine rg (fun q3 => [.v (.slice A nA cA),
  .m (lenR 0 (.c bz) (cP h)),
  .v (.bool (decide (60 < (xs.length : Int))))]) (fun _ L => L) OW ?_
 clear OW; intro q3 _ Wq3 OW; simp only [↓pc, ↓pn, vE, Hint.val, Act.put, eL]
 cases hB4 : (decide (60 < (xs.length : Int)))
 case true =>
  have dhB4 := of_decide_eq_true hB4
  gi_upto_region 4 with fail
  refine rg (fun q5 => [.v (.bool true)]) (fun _ L => L) OW ?_
  clear OW; intro q5 _ Wq5 OW; simp only [↓pc, ↓pn, vE, Hint.val, Act.put, eL]
  gi_wp2
  exact leafE HS HH OW [.t (.bool true)] Env.zero [] [(0, 0)] (by first | rfl | exact congrArg Value.bool (beq_iff_eq.2 (congrArg (fun n : Nat => (n : Int)) (cnI_8 HX))))
 have dhB4 := of_decide_eq_false hB4
 gi_upto_region 5 with fail
 refine rg (fun q6 => [.v (.slice none 0 0)]) (fun _ L => L) OW ?_
 clear OW; intro q6 _ Wq6 OW; simp only [↓pc, ↓pn, vE, Hint.val, Act.put, eL]
 gi_upto_region 6 with fail
 refine rg (fun q7 => [.v (.slice A nA cA),
  .m (lenR 0 (.c bz) (cP h)),
  .v (.int .i64 0)]) (fun _ L => L) OW ?_
 clear OW; intro q7 _ Wq7 OW; simp only [↓pc, ↓pn, vE, Hint.val, Act.put, eL]
 gi_wp2
 replace OW := Lib.hid (OW.out.nilS eSn [.int .i64 0, .int .i64 0, .int .i64 0, .int .i64 0, .int .i64 0] 37)
 gi_loopw [23, 3] (fun z23 z3 wr => ∃ k : Nat, ∃ vS3 : Value, k ≤ xs.length ∧ z23 = .int .i64 (k : Int) ∧ vS3 = z3 ∧ (∀ j, j < k → SnOk (xs.getD j zSn)) ∧ OwnE (ids cs.flatten) w [.c bz, slSr vS3 (xs.take k)] wr) (fun z23 z3 _ => xs.length - (intOf (z23)).toNat)
 case atStart => exact ⟨0, .slice none 0 0, by omega, rfl, rfl, fun j h => absurd h (Nat.not_lt_zero j), (by skip; exact OwnE.cast OW.out (by kernel_rfl))⟩
 case round =>
  obtain ⟨k, vS3, hk9, rfl, rfl, hok, hO⟩ := hrel
  clear OW
  have HOK := Lib.hid hok
  clear hok
  have HTL := tk_len (xs := xs) (k := k) (by omega)
  have OW := Lib.hid hO
  clear hO
  gi_upto_region 7 with fail
  refine rg (fun q10 => [.v (.bool (decide ((k : Int) < (xs.length : Int))))]) (fun _ L => L) OW ?_
  clear OW; intro q10 _ Wq10 OW; simp only [↓pc, ↓pn, vE, Hint.val, Act.put, eL]
  cases hB11 : (decide ((k : Int) < (xs.length : Int)))
  case true =>
   have dhB11 := of_decide_eq_true hB11
   gi_upto_region 8 with fail
   refine rg (fun q12 => [.m (idxR 0 (.c bz) k 5 (cP h) (by omega)),
    .m (lsR (l := [.int .i64 ((xs.getD k zSn).x0), .int .i64 ((xs.getD k zSn).x1), .int .i64 ((xs.getD k zSn).x2), .int .i64 ((xs.getD k zSn).x3), .int .i64 ((xs.getD k zSn).x4)]) (d := zSn) 0 (.c bz) k 5 0 (cP h) (fun _ => rfl) (by omega) (Nat.le_of_ble_eq_true rfl) (by kernel_rfl)),
    .m (al 2),
    .m (ss 2)]) (fun q12 L => L ++ [ob ((q12 2).blk 0) #[.int .i64 ((xs.getD k zSn).x0), .int .i64 ((xs.getD k zSn).x1), .int .i64 ((xs.getD k zSn).x2), .int .i64 ((xs.getD k zSn).x3), .int .i64 ((xs.getD k zSn).x4)] 34]) OW ?_
   clear OW; intro q12 _ Wq12 OW; simp only [↓pc, ↓pn, vE, Hint.val, Act.put, eL]
   gi_upto_region 9 with fail
   refine rg (fun q13 => [.v (.pointer (some ⟨(q12 2).blk 0, 4, none⟩)),
    .m (ld 2 (.int .i64 ((xs.getD k zSn).x4))),
    .v (.bool (decide (((xs.getD k zSn).x4) < 0))),
    .v (.bool (decide (((xs.getD k zSn).x4) < 0))),
    .v (.pointer (some ⟨(q12 2).blk 0, 4, none⟩)),
    .m (ld 2 (.int .i64 ((xs.getD k zSn).x4))),
    .v (.bool (decide (35 < ((xs.getD k zSn).x4)))),
    .k (.bool ((decide (((xs.getD k zSn).x4) < 0)) || (decide (35 < ((xs.getD k zSn).x4))))),
    .v (.bool ((decide (((xs.getD k zSn).x4) < 0)) || (decide (35 < ((xs.getD k zSn).x4))))),
    .v (.pointer (some ⟨(q12 2).blk 0, 0, none⟩)),
    .v (.pointer (some ⟨(q12 2).blk 0, 0, none⟩)),
    .m (ld 2 (.int .i64 ((xs.getD k zSn).x0))),
    .v (.bool (decide (((xs.getD k zSn).x0) < 0))),
    .k (.bool (((decide (((xs.getD k zSn).x4) < 0)) || (decide (35 < ((xs.getD k zSn).x4)))) || (decide (((xs.getD k zSn).x0) < 0)))),
    .v (.bool (((decide (((xs.getD k zSn).x4) < 0)) || (decide (35 < ((xs.getD k zSn).x4)))) || (decide (((xs.getD k zSn).x0) < 0)))),
    .v (.pointer (some ⟨(q12 2).blk 0, 0, none⟩)),
    .v (.pointer (some ⟨(q12 2).blk 0, 0, none⟩)),
    .m (ld 2 (.int .i64 ((xs.getD k zSn).x0))),
    .v (.bool (decide (7 < ((xs.getD k zSn).x0)))),
    .k (.bool ((((decide (((xs.getD k zSn).x4) < 0)) || (decide (35 < ((xs.getD k zSn).x4)))) || (decide (((xs.getD k zSn).x0) < 0))) || (decide (7 < ((xs.getD k zSn).x0)))))]) (fun _ L => L) OW ?_
   clear OW; intro q13 _ Wq13 OW; simp only [↓pc, ↓pn, vE, Hint.val, Act.put, eL]
   cases hB14 : ((((decide (((xs.getD k zSn).x4) < 0)) || (decide (35 < ((xs.getD k zSn).x4)))) || (decide (((xs.getD k zSn).x0) < 0))) || (decide (7 < ((xs.getD k zSn).x0))))
   case true =>
    gi_upto_region 10 with fail
    refine rg (fun q15 => [.v (.bool true)]) (fun _ L => L) OW ?_
    clear OW; intro q15 _ Wq15 OW; simp only [↓pc, ↓pn, vE, Hint.val, Act.put, eL]
    gi_wp2
    exact leafE HS HH OW [.t (.bool true)] Env.zero [] [(0, 0)] (by first | rfl | exact congrArg Value.bool (beq_iff_eq.2 (congrArg (fun n : Nat => (n : Int)) (cnI_8 HX))))
   gi_upto_region 11 with fail
   refine rg (fun q16 => [.v (vS3),
    .v (.pointer (some ⟨(q12 2).blk 0, 0, none⟩)),
    .m (ls 2 ([.int .i64 ((xs.getD k zSn).x0), .int .i64 ((xs.getD k zSn).x1), .int .i64 ((xs.getD k zSn).x2), .int .i64 ((xs.getD k zSn).x3)])),
    .v (.pointer (some ⟨(q12 2).blk 0, 4, none⟩)),
    .m (ld 2 (.int .i64 ((xs.getD k zSn).x4))),
    .v (.agg #[.int .i64 ((xs.getD k zSn).x0), .int .i64 ((xs.getD k zSn).x1), .int .i64 ((xs.getD k zSn).x2), .int .i64 ((xs.getD k zSn).x3), .int .i64 ((xs.getD k zSn).x4)]),
    .m (bs 3 1),
    .m (apB 1 3 slTSr (vS3) (xs := xs.take k) (ys := [(⟨((xs.getD k zSn).x0), ((xs.getD k zSn).x1), ((xs.getD k zSn).x2), ((xs.getD k zSn).x3), ((xs.getD k zSn).x4)⟩ : Sn)]) h1Sr (fun _ => rfl) (by simp only [List.length_set, List.length_append, List.length_replicate, List.length_cons, List.length_nil, List.length_map, List.length_range, List.length_take, List.length_drop]; omega)),
    .v ((q16 7).val 0)]) (fun q16 L => L.set 1 (slSr ((q16 7).val 0) ((xs.take k) ++ ([(⟨((xs.getD k zSn).x0), ((xs.getD k zSn).x1), ((xs.getD k zSn).x2), ((xs.getD k zSn).x3), ((xs.getD k zSn).x4)⟩ : Sn)]))) ++ [ob ((q16 6).blk 0) #[.int .i64 ((xs.getD k zSn).x0), .int .i64 ((xs.getD k zSn).x1), .int .i64 ((xs.getD k zSn).x2), .int .i64 ((xs.getD k zSn).x3), .int .i64 ((xs.getD k zSn).x4)] 37]) OW ?_
   clear OW; intro q16 _ Wq16 OW; simp only [↓pc, ↓pn, vE, Hint.val, Act.put, eL]
   gi_upto_region 12 with fail
   refine rg (fun q17 => [.t (tb (a := .int .i64 (k : Int)) (b := .int .i64 1) fun _ _ _ _ => bin_add_nat (a := k) (b := 1) (by omega)),
    .v (.int .i64 ((k + 1 : Nat) : Int))]) (fun _ L => L) OW ?_
   clear OW; intro q17 _ Wq17 OW; simp only [↓pc, ↓pn, vE, Hint.val, Act.put, eL]
   gi_wp2
   go_roundw
   case rel => exact ⟨k + 1, (q16 7).val 0, by omega, by go_num, rfl, fun j h => (Nat.lt_or_ge j k).elim (HOK.out j) (fun h3 => by obtain rfl : j = k := (by omega); exact sn_ok (by assumption)), (by rw [tk_suc (by omega)]; exact OwnE.pick OW.out [0, 1] _ (by kernel_rfl))⟩
   case measure => (simp [intOf] <;> omega)
  have dhB11 := of_decide_eq_false hB11
  obtain rfl : xs.length = k := by omega
  replace OW := Lib.hid (OwnE.cast (L' := [.c bz, slSr vS3 xs]) OW.out (by rw [tk_all (by omega)]))
  gi_upto_region 13 with fail
  have HX := sn_all rfl HOK.out
  refine rg (fun q18 => [.v (.slice A nA cA),
   .c [0] [2] (tfind A nA cA xs (by omega) bz (by omega)),
   .v (((q18 1).val 0))]) (fun q18 L => L ++ [slFg ((q18 1).val 0) (fnS (So.grp kS (So.srt kS xs)) ((So.grp kS (So.srt kS xs)).length))]) OW ?_
  clear OW; intro q18 _ Wq18 OW; simp only [↓pc, ↓pn, vE, Hint.val, Act.put, eL]
  gi_upto_region 14 with fail
  refine rg (fun q19 => [.v (.int .i64 0)]) (fun _ L => L) OW ?_
  clear OW; intro q19 _ Wq19 OW; simp only [↓pc, ↓pn, vE, Hint.val, Act.put, eL]
  gi_upto_region 15 with fail
  refine rg (fun q20 => [.v (.int .i64 0)]) (fun _ L => L) OW ?_
  clear OW; intro q20 _ Wq20 OW; simp only [↓pc, ↓pn, vE, Hint.val, Act.put, eL]
  gi_wp2
  gi_loopw [58, 7] (fun z58 z7 wr => ∃ r : Nat, r ≤ 8 ∧ z58 = .int .i64 (r : Int) ∧ z7 = .int .i64 ((cnI xs (256 * ((r : Nat) : Int)) : Nat) : Int) ∧ OwnE (ids cs.flatten) w [.c bz, slSr vS3 xs, slFg ((q18 1).val 0) (fnS (So.grp kS (So.srt kS xs)) ((So.grp kS (So.srt kS xs)).length))] wr) (fun z58 z7 _ => 8 - (intOf (z58)).toNat)
  case atStart => exact ⟨0, by omega, rfl, congrArg (Value.int .i64) (cnI_0 HX), (by skip; exact OwnE.cast OW.out (by kernel_rfl))⟩
  case round =>
   obtain ⟨r, hk22, rfl, rfl, hO⟩ := hrel
   clear OW
   have OW := Lib.hid hO
   clear hO
   gi_upto_region 16 with fail
   refine rg (fun q23 => [.v (.bool (decide ((r : Int) < 8)))]) (fun _ L => L) OW ?_
   clear OW; intro q23 _ Wq23 OW; simp only [↓pc, ↓pn, vE, Hint.val, Act.put, eL]
   cases hB24 : (decide ((r : Int) < 8))
   case true =>
    have dhB24 := of_decide_eq_true hB24
    gi_upto_region 17 with fail
    refine rg (fun q25 => [.v (.int .i64 (r : Int)),
     .v (.int .i64 (r : Int))]) (fun _ L => L) OW ?_
    clear OW; intro q25 _ Wq25 OW; simp only [↓pc, ↓pn, vE, Hint.val, Act.put, eL]
    gi_upto_region 18 with fail
    refine rg (fun q26 => [.v (.int .i64 0)]) (fun _ L => L) OW ?_
    clear OW; intro q26 _ Wq26 OW; simp only [↓pc, ↓pn, vE, Hint.val, Act.put, eL]
    gi_wp2
    gi_loopw [61, 7] (fun z61 z7 wr => ∃ c : Nat, c ≤ 36 ∧ z61 = .int .i64 (c : Int) ∧ z7 = .int .i64 ((cnI xs (256 * ((r : Nat) : Int) + ((c : Nat) : Int)) : Nat) : Int) ∧ OwnE (ids cs.flatten) w [.c bz, slSr vS3 xs, slFg ((q18 1).val 0) (fnS (So.grp kS (So.srt kS xs)) ((So.grp kS (So.srt kS xs)).length))] wr) (fun z61 z7 _ => 36 - (intOf (z61)).toNat)
    case atStart => exact ⟨0, by omega, rfl, by rw [show ((0 : Nat) : Int) = 0 from rfl, Int.add_zero], (by skip; exact OwnE.cast OW.out (by kernel_rfl))⟩
    case round =>
     obtain ⟨c, hk28, rfl, rfl, hO⟩ := hrel
     clear OW
     have HCL := cnI_le (xs := xs) (256 * ((r : Nat) : Int) + ((c : Nat) : Int))
     have OW := Lib.hid hO
     clear hO
     gi_upto_region 19 with fail
     refine rg (fun q29 => [.v (.bool (decide ((c : Int) < 36)))]) (fun _ L => L) OW ?_
     clear OW; intro q29 _ Wq29 OW; simp only [↓pc, ↓pn, vE, Hint.val, Act.put, eL]
     cases hB30 : (decide ((c : Int) < 36))
     case true =>
      have dhB30 := of_decide_eq_true hB30
      gi_upto_region 20 with fail
      refine rg (fun q31 => [.v (.int .i64 (c : Int)),
       .v (.int .i64 (c : Int))]) (fun _ L => L) OW ?_
      clear OW; intro q31 _ Wq31 OW; simp only [↓pc, ↓pn, vE, Hint.val, Act.put, eL]
      gi_upto_region 21 with fail
      refine rg (fun q32 => [.v (vS3),
       .v (.int .i64 (r : Int)),
       .v (.int .i64 (c : Int)),
       .c [1] [] (Con.at (rd' := [slSr vS3 xs]) (tone vS3 xs (r : Int) (c : Int) (by omega)) (atW (fun _ h => SlE.sq h) (fun _ h => h))),
       .m (al 3),
       .m (ss 3)]) (fun q32 L => L ++ [ob ((q32 4).blk 0) #[.int .i64 (tone_0 xs (r : Int) (c : Int)), .int .i64 (tone_1 xs (r : Int) (c : Int)), .int .i64 (tone_2 xs (r : Int) (c : Int)), .int .i64 (tone_3 xs (r : Int) (c : Int)), .int .i64 (tone_4 xs (r : Int) (c : Int)), .int .i64 (tone_5 xs (r : Int) (c : Int)), .int .i64 (((tone_6 xs (r : Int) (c : Int)) : Nat) : Int)] 41]) OW ?_
      clear OW; intro q32 _ Wq32 OW; simp only [↓pc, ↓pn, vE, Hint.val, Act.put, eL]
      gi_upto_region 22 with fail
      refine rg (fun q33 => [.v (.pointer (some ⟨(q32 4).blk 0, 6, none⟩)),
       .m (ld 3 (.int .i64 (((tone_6 xs (r : Int) (c : Int)) : Nat) : Int))),
       .v (.bool ((((tone_6 xs (r : Int) (c : Int)) : Nat) : Int) == 0))]) (fun _ L => L) OW ?_
      clear OW; intro q33 _ Wq33 OW; simp only [↓pc, ↓pn, vE, Hint.val, Act.put, eL]
      cases hB34 : ((((tone_6 xs (r : Int) (c : Int)) : Nat) : Int) == 0)
      case true =>
       have dhB34 := Lib.hid (eq_of_beq hB34)
       gi_upto_region 26 with fail
       refine rg (fun q35 => [.t (tb (a := .int .i64 (c : Int)) (b := .int .i64 1) fun _ _ _ _ => bin_add_nat (a := c) (b := 1) (by omega)),
        .v (.int .i64 ((c + 1 : Nat) : Int))]) (fun _ L => L) OW ?_
       clear OW; intro q35 _ Wq35 OW; simp only [↓pc, ↓pn, vE, Hint.val, Act.put, eL]
       gi_wp2
       go_roundw
       case rel => exact ⟨c + 1, by omega, by go_num, by first | exact congrArg (fun n : Nat => Value.int .i64 (n : Int)) (cnI_none HX (by omega) (by assumption)) | exact congrArg (fun n : Nat => Value.int .i64 (n : Int)) (cnI_some HX (by omega) (by assumption)), (by skip; exact OwnE.pick OW.out [0, 1, 2] _ (by kernel_rfl))⟩
       case measure => (simp [intOf] <;> omega)
      have dhB34 := ne_of_beq_false hB34
      gi_upto_region 23 with fail
      have HLT := cnI_lt HX (by omega) hB34
      have HWN := Lib.hid (cnI_want HX (by omega) (by omega) hB34)
      refine rg (fun q36 => [.v (.int .i64 ((cnI xs (256 * ((r : Nat) : Int) + ((c : Nat) : Int)) : Nat) : Int)),
       .v (((q18 1).val 0)),
       .m (lenS 2 (slFg ((q18 1).val 0) (fnS (So.grp kS (So.srt kS xs)) ((So.grp kS (So.srt kS xs)).length))) (fun _ h => h)),
       .t (tk (show Value.bool (decide ((((fnS (So.grp kS (So.srt kS xs)) ((So.grp kS (So.srt kS xs)).length)).length : Nat) : Int) ≤ ((cnI xs (256 * ((r : Nat) : Int) + ((c : Nat) : Int)) : Nat) : Int))) = .bool false from congrArg Value.bool (by exact decide_eq_false (by omega)))),
       .v (.bool false),
       .v (((q18 1).val 0)),
       .v (.int .i64 ((cnI xs (256 * ((r : Nat) : Int) + ((c : Nat) : Int)) : Nat) : Int)),
       .m (idxS 2 (slFg ((q18 1).val 0) (fnS (So.grp kS (So.srt kS xs)) ((So.grp kS (So.srt kS xs)).length))) (cnI xs (256 * ((r : Nat) : Int) + ((c : Nat) : Int))) 7 (fun _ h => h) (by omega)),
       .m (fldS 2 (slFg ((q18 1).val 0) (fnS (So.grp kS (So.srt kS xs)) ((So.grp kS (So.srt kS xs)).length))) ((cnI xs (256 * ((r : Nat) : Int) + ((c : Nat) : Int))) * 7) 0 (fun _ h => h) (by omega)),
       .m (ldS (u := .int .i64 (((fnS (So.grp kS (So.srt kS xs)) ((So.grp kS (So.srt kS xs)).length)).getD (cnI xs (256 * ((r : Nat) : Int) + ((c : Nat) : Int))) zFg).x0)) (d := zFg) 2 (slFg ((q18 1).val 0) (fnS (So.grp kS (So.srt kS xs)) ((So.grp kS (So.srt kS xs)).length))) (cnI xs (256 * ((r : Nat) : Int) + ((c : Nat) : Int))) 7 0 (fun _ h => h) (fun _ => rfl) (by omega) (Nat.le_of_ble_eq_true rfl) (by kernel_rfl)),
       .v (((q18 1).val 0)),
       .v (.int .i64 ((cnI xs (256 * ((r : Nat) : Int) + ((c : Nat) : Int)) : Nat) : Int)),
       .m (idxS 2 (slFg ((q18 1).val 0) (fnS (So.grp kS (So.srt kS xs)) ((So.grp kS (So.srt kS xs)).length))) (cnI xs (256 * ((r : Nat) : Int) + ((c : Nat) : Int))) 7 (fun _ h => h) (by omega)),
       .m (fldS 2 (slFg ((q18 1).val 0) (fnS (So.grp kS (So.srt kS xs)) ((So.grp kS (So.srt kS xs)).length))) ((cnI xs (256 * ((r : Nat) : Int) + ((c : Nat) : Int))) * 7) 1 (fun _ h => h) (by omega)),
       .m (lsS (l := [.int .i64 (((fnS (So.grp kS (So.srt kS xs)) ((So.grp kS (So.srt kS xs)).length)).getD (cnI xs (256 * ((r : Nat) : Int) + ((c : Nat) : Int))) zFg).x1), .int .i64 (((fnS (So.grp kS (So.srt kS xs)) ((So.grp kS (So.srt kS xs)).length)).getD (cnI xs (256 * ((r : Nat) : Int) + ((c : Nat) : Int))) zFg).x2), .int .i64 (((fnS (So.grp kS (So.srt kS xs)) ((So.grp kS (So.srt kS xs)).length)).getD (cnI xs (256 * ((r : Nat) : Int) + ((c : Nat) : Int))) zFg).x3), .int .i64 (((fnS (So.grp kS (So.srt kS xs)) ((So.grp kS (So.srt kS xs)).length)).getD (cnI xs (256 * ((r : Nat) : Int) + ((c : Nat) : Int))) zFg).x4)]) (d := zFg) 2 (slFg ((q18 1).val 0) (fnS (So.grp kS (So.srt kS xs)) ((So.grp kS (So.srt kS xs)).length))) (cnI xs (256 * ((r : Nat) : Int) + ((c : Nat) : Int))) 7 1 (fun _ h => h) (fun _ => rfl) (by omega) (Nat.le_of_ble_eq_true rfl) (by kernel_rfl)),
       .v (((q18 1).val 0)),
       .v (.int .i64 ((cnI xs (256 * ((r : Nat) : Int) + ((c : Nat) : Int)) : Nat) : Int)),
       .m (idxS 2 (slFg ((q18 1).val 0) (fnS (So.grp kS (So.srt kS xs)) ((So.grp kS (So.srt kS xs)).length))) (cnI xs (256 * ((r : Nat) : Int) + ((c : Nat) : Int))) 7 (fun _ h => h) (by omega)),
       .m (fldS 2 (slFg ((q18 1).val 0) (fnS (So.grp kS (So.srt kS xs)) ((So.grp kS (So.srt kS xs)).length))) ((cnI xs (256 * ((r : Nat) : Int) + ((c : Nat) : Int))) * 7) 5 (fun _ h => h) (by omega)),
       .m (ldS (u := .int .i64 (((fnS (So.grp kS (So.srt kS xs)) ((So.grp kS (So.srt kS xs)).length)).getD (cnI xs (256 * ((r : Nat) : Int) + ((c : Nat) : Int))) zFg).x5)) (d := zFg) 2 (slFg ((q18 1).val 0) (fnS (So.grp kS (So.srt kS xs)) ((So.grp kS (So.srt kS xs)).length))) (cnI xs (256 * ((r : Nat) : Int) + ((c : Nat) : Int))) 7 5 (fun _ h => h) (fun _ => rfl) (by omega) (Nat.le_of_ble_eq_true rfl) (by kernel_rfl)),
       .v (((q18 1).val 0)),
       .v (.int .i64 ((cnI xs (256 * ((r : Nat) : Int) + ((c : Nat) : Int)) : Nat) : Int)),
       .m (idxS 2 (slFg ((q18 1).val 0) (fnS (So.grp kS (So.srt kS xs)) ((So.grp kS (So.srt kS xs)).length))) (cnI xs (256 * ((r : Nat) : Int) + ((c : Nat) : Int))) 7 (fun _ h => h) (by omega)),
       .m (fldS 2 (slFg ((q18 1).val 0) (fnS (So.grp kS (So.srt kS xs)) ((So.grp kS (So.srt kS xs)).length))) ((cnI xs (256 * ((r : Nat) : Int) + ((c : Nat) : Int))) * 7) 6 (fun _ h => h) (by omega)),
       .m (ldS (u := .int .i64 (((fnS (So.grp kS (So.srt kS xs)) ((So.grp kS (So.srt kS xs)).length)).getD (cnI xs (256 * ((r : Nat) : Int) + ((c : Nat) : Int))) zFg).x6)) (d := zFg) 2 (slFg ((q18 1).val 0) (fnS (So.grp kS (So.srt kS xs)) ((So.grp kS (So.srt kS xs)).length))) (cnI xs (256 * ((r : Nat) : Int) + ((c : Nat) : Int))) 7 6 (fun _ h => h) (fun _ => rfl) (by omega) (Nat.le_of_ble_eq_true rfl) (by kernel_rfl)),
       .v (.agg #[.int .i64 (((fnS (So.grp kS (So.srt kS xs)) ((So.grp kS (So.srt kS xs)).length)).getD (cnI xs (256 * ((r : Nat) : Int) + ((c : Nat) : Int))) zFg).x0), .int .i64 (((fnS (So.grp kS (So.srt kS xs)) ((So.grp kS (So.srt kS xs)).length)).getD (cnI xs (256 * ((r : Nat) : Int) + ((c : Nat) : Int))) zFg).x1), .int .i64 (((fnS (So.grp kS (So.srt kS xs)) ((So.grp kS (So.srt kS xs)).length)).getD (cnI xs (256 * ((r : Nat) : Int) + ((c : Nat) : Int))) zFg).x2), .int .i64 (((fnS (So.grp kS (So.srt kS xs)) ((So.grp kS (So.srt kS xs)).length)).getD (cnI xs (256 * ((r : Nat) : Int) + ((c : Nat) : Int))) zFg).x3), .int .i64 (((fnS (So.grp kS (So.srt kS xs)) ((So.grp kS (So.srt kS xs)).length)).getD (cnI xs (256 * ((r : Nat) : Int) + ((c : Nat) : Int))) zFg).x4), .int .i64 (((fnS (So.grp kS (So.srt kS xs)) ((So.grp kS (So.srt kS xs)).length)).getD (cnI xs (256 * ((r : Nat) : Int) + ((c : Nat) : Int))) zFg).x5), .int .i64 (((fnS (So.grp kS (So.srt kS xs)) ((So.grp kS (So.srt kS xs)).length)).getD (cnI xs (256 * ((r : Nat) : Int) + ((c : Nat) : Int))) zFg).x6)]),
       .m (ls 3 ([.int .i64 (tone_0 xs (r : Int) (c : Int)), .int .i64 (tone_1 xs (r : Int) (c : Int)), .int .i64 (tone_2 xs (r : Int) (c : Int)), .int .i64 (tone_3 xs (r : Int) (c : Int)), .int .i64 (tone_4 xs (r : Int) (c : Int)), .int .i64 (tone_5 xs (r : Int) (c : Int)), .int .i64 (((tone_6 xs (r : Int) (c : Int)) : Nat) : Int)])),
       .t (TH.cast (tbT 41 fun _ _ _ => bin_neT (xs := [.int .i64 (((fnS (So.grp kS (So.srt kS xs)) ((So.grp kS (So.srt kS xs)).length)).getD (cnI xs (256 * ((r : Nat) : Int) + ((c : Nat) : Int))) zFg).x0), .int .i64 (((fnS (So.grp kS (So.srt kS xs)) ((So.grp kS (So.srt kS xs)).length)).getD (cnI xs (256 * ((r : Nat) : Int) + ((c : Nat) : Int))) zFg).x1), .int .i64 (((fnS (So.grp kS (So.srt kS xs)) ((So.grp kS (So.srt kS xs)).length)).getD (cnI xs (256 * ((r : Nat) : Int) + ((c : Nat) : Int))) zFg).x2), .int .i64 (((fnS (So.grp kS (So.srt kS xs)) ((So.grp kS (So.srt kS xs)).length)).getD (cnI xs (256 * ((r : Nat) : Int) + ((c : Nat) : Int))) zFg).x3), .int .i64 (((fnS (So.grp kS (So.srt kS xs)) ((So.grp kS (So.srt kS xs)).length)).getD (cnI xs (256 * ((r : Nat) : Int) + ((c : Nat) : Int))) zFg).x4), .int .i64 (((fnS (So.grp kS (So.srt kS xs)) ((So.grp kS (So.srt kS xs)).length)).getD (cnI xs (256 * ((r : Nat) : Int) + ((c : Nat) : Int))) zFg).x5), .int .i64 (((fnS (So.grp kS (So.srt kS xs)) ((So.grp kS (So.srt kS xs)).length)).getD (cnI xs (256 * ((r : Nat) : Int) + ((c : Nat) : Int))) zFg).x6)]) (ys := [.int .i64 (tone_0 xs (r : Int) (c : Int)), .int .i64 (tone_1 xs (r : Int) (c : Int)), .int .i64 (tone_2 xs (r : Int) (c : Int)), .int .i64 (tone_3 xs (r : Int) (c : Int)), .int .i64 (tone_4 xs (r : Int) (c : Int)), .int .i64 (tone_5 xs (r : Int) (c : Int)), .int .i64 (((tone_6 xs (r : Int) (c : Int)) : Nat) : Int)]) (by kernel_rfl) (show _ = ((((((fnS (So.grp kS (So.srt kS xs)) ((So.grp kS (So.srt kS xs)).length)).getD (cnI xs (256 * ((r : Nat) : Int) + ((c : Nat) : Int))) zFg).x0) == (tone_0 xs (r : Int) (c : Int))) && (((((fnS (So.grp kS (So.srt kS xs)) ((So.grp kS (So.srt kS xs)).length)).getD (cnI xs (256 * ((r : Nat) : Int) + ((c : Nat) : Int))) zFg).x1) == (tone_1 xs (r : Int) (c : Int))) && (((((fnS (So.grp kS (So.srt kS xs)) ((So.grp kS (So.srt kS xs)).length)).getD (cnI xs (256 * ((r : Nat) : Int) + ((c : Nat) : Int))) zFg).x2) == (tone_2 xs (r : Int) (c : Int))) && (((((fnS (So.grp kS (So.srt kS xs)) ((So.grp kS (So.srt kS xs)).length)).getD (cnI xs (256 * ((r : Nat) : Int) + ((c : Nat) : Int))) zFg).x3) == (tone_3 xs (r : Int) (c : Int))) && (((((fnS (So.grp kS (So.srt kS xs)) ((So.grp kS (So.srt kS xs)).length)).getD (cnI xs (256 * ((r : Nat) : Int) + ((c : Nat) : Int))) zFg).x4) == (tone_4 xs (r : Int) (c : Int))) && (((((fnS (So.grp kS (So.srt kS xs)) ((So.grp kS (So.srt kS xs)).length)).getD (cnI xs (256 * ((r : Nat) : Int) + ((c : Nat) : Int))) zFg).x5) == (tone_5 xs (r : Int) (c : Int))) && ((((fnS (So.grp kS (So.srt kS xs)) ((So.grp kS (So.srt kS xs)).length)).getD (cnI xs (256 * ((r : Nat) : Int) + ((c : Nat) : Int))) zFg).x6) == (((tone_6 xs (r : Int) (c : Int)) : Nat) : Int)))))))) : Bool) from Eq.trans (b := ((((fnS (So.grp kS (So.srt kS xs)) ((So.grp kS (So.srt kS xs)).length)).getD (cnI xs (256 * ((r : Nat) : Int) + ((c : Nat) : Int))) zFg).x0) == (tone_0 xs (r : Int) (c : Int)) && ((((fnS (So.grp kS (So.srt kS xs)) ((So.grp kS (So.srt kS xs)).length)).getD (cnI xs (256 * ((r : Nat) : Int) + ((c : Nat) : Int))) zFg).x1) == (tone_1 xs (r : Int) (c : Int)) && ((((fnS (So.grp kS (So.srt kS xs)) ((So.grp kS (So.srt kS xs)).length)).getD (cnI xs (256 * ((r : Nat) : Int) + ((c : Nat) : Int))) zFg).x2) == (tone_2 xs (r : Int) (c : Int)) && ((((fnS (So.grp kS (So.srt kS xs)) ((So.grp kS (So.srt kS xs)).length)).getD (cnI xs (256 * ((r : Nat) : Int) + ((c : Nat) : Int))) zFg).x3) == (tone_3 xs (r : Int) (c : Int)) && ((((fnS (So.grp kS (So.srt kS xs)) ((So.grp kS (So.srt kS xs)).length)).getD (cnI xs (256 * ((r : Nat) : Int) + ((c : Nat) : Int))) zFg).x4) == (tone_4 xs (r : Int) (c : Int)) && ((((fnS (So.grp kS (So.srt kS xs)) ((So.grp kS (So.srt kS xs)).length)).getD (cnI xs (256 * ((r : Nat) : Int) + ((c : Nat) : Int))) zFg).x5) == (tone_5 xs (r : Int) (c : Int)) && ((((fnS (So.grp kS (So.srt kS xs)) ((So.grp kS (So.srt kS xs)).length)).getD (cnI xs (256 * ((r : Nat) : Int) + ((c : Nat) : Int))) zFg).x6) == (((tone_6 xs (r : Int) (c : Int)) : Nat) : Int) && true)))))))) (by rfl) (by simp only [Bool.and_true, beq_true, beq_false]))) (show Value.bool (!(((((fnS (So.grp kS (So.srt kS xs)) ((So.grp kS (So.srt kS xs)).length)).getD (cnI xs (256 * ((r : Nat) : Int) + ((c : Nat) : Int))) zFg).x0) == (tone_0 xs (r : Int) (c : Int))) && (((((fnS (So.grp kS (So.srt kS xs)) ((So.grp kS (So.srt kS xs)).length)).getD (cnI xs (256 * ((r : Nat) : Int) + ((c : Nat) : Int))) zFg).x1) == (tone_1 xs (r : Int) (c : Int))) && (((((fnS (So.grp kS (So.srt kS xs)) ((So.grp kS (So.srt kS xs)).length)).getD (cnI xs (256 * ((r : Nat) : Int) + ((c : Nat) : Int))) zFg).x2) == (tone_2 xs (r : Int) (c : Int))) && (((((fnS (So.grp kS (So.srt kS xs)) ((So.grp kS (So.srt kS xs)).length)).getD (cnI xs (256 * ((r : Nat) : Int) + ((c : Nat) : Int))) zFg).x3) == (tone_3 xs (r : Int) (c : Int))) && (((((fnS (So.grp kS (So.srt kS xs)) ((So.grp kS (So.srt kS xs)).length)).getD (cnI xs (256 * ((r : Nat) : Int) + ((c : Nat) : Int))) zFg).x4) == (tone_4 xs (r : Int) (c : Int))) && (((((fnS (So.grp kS (So.srt kS xs)) ((So.grp kS (So.srt kS xs)).length)).getD (cnI xs (256 * ((r : Nat) : Int) + ((c : Nat) : Int))) zFg).x5) == (tone_5 xs (r : Int) (c : Int))) && ((((fnS (So.grp kS (So.srt kS xs)) ((So.grp kS (So.srt kS xs)).length)).getD (cnI xs (256 * ((r : Nat) : Int) + ((c : Nat) : Int))) zFg).x6) == (((tone_6 xs (r : Int) (c : Int)) : Nat) : Int))))))))) = .bool false from congrArg Value.bool (by rw [HWN.out]; simp only [beq_self_eq_true, Bool.and_self, Bool.not_true]))),
       .k (.bool false)]) (fun _ L => L) OW ?_
      clear OW; intro q36 _ Wq36 OW; simp only [↓pc, ↓pn, vE, Hint.val, Act.put, eL]
      gi_upto_region 25 with fail
      refine rg (fun q37 => [.v (.int .i64 ((cnI xs (256 * ((r : Nat) : Int) + ((c : Nat) : Int)) : Nat) : Int)),
       .t (tb (a := .int .i64 ((cnI xs (256 * ((r : Nat) : Int) + ((c : Nat) : Int)) : Nat) : Int)) (b := .int .i64 1) fun _ _ _ _ => bin_add_nat (a := cnI xs (256 * ((r : Nat) : Int) + ((c : Nat) : Int))) (b := 1) (by omega)),
       .v (.int .i64 (((cnI xs (256 * ((r : Nat) : Int) + ((c : Nat) : Int))) + 1 : Nat) : Int))]) (fun _ L => L) OW ?_
      clear OW; intro q37 _ Wq37 OW; simp only [↓pc, ↓pn, vE, Hint.val, Act.put, eL]
      gi_upto_region 26 with fail
      refine rg (fun q38 => [.t (tb (a := .int .i64 (c : Int)) (b := .int .i64 1) fun _ _ _ _ => bin_add_nat (a := c) (b := 1) (by omega)),
       .v (.int .i64 ((c + 1 : Nat) : Int))]) (fun _ L => L) OW ?_
      clear OW; intro q38 _ Wq38 OW; simp only [↓pc, ↓pn, vE, Hint.val, Act.put, eL]
      gi_wp2
      go_roundw
      case rel => exact ⟨c + 1, by omega, by go_num, by first | exact congrArg (fun n : Nat => Value.int .i64 (n : Int)) (cnI_none HX (by omega) (by assumption)) | exact congrArg (fun n : Nat => Value.int .i64 (n : Int)) (cnI_some HX (by omega) (by assumption)), (by skip; exact OwnE.pick OW.out [0, 1, 2] _ (by kernel_rfl))⟩
      case measure => (simp [intOf] <;> omega)
     have dhB30 := of_decide_eq_false hB30
     obtain rfl : c = 36 := by omega
     gi_upto_region 27 with fail
     refine rg (fun q39 => [.t (tb (a := .int .i64 (r : Int)) (b := .int .i64 1) fun _ _ _ _ => bin_add_nat (a := r) (b := 1) (by omega)),
      .v (.int .i64 ((r + 1 : Nat) : Int))]) (fun _ L => L) OW ?_
     clear OW; intro q39 _ Wq39 OW; simp only [↓pc, ↓pn, vE, Hint.val, Act.put, eL]
     gi_wp2
     go_roundw
     case rel => exact ⟨r + 1, by omega, by go_num, congrArg (fun n : Nat => Value.int .i64 (n : Int)) (cnI_row HX r), (by skip; exact OwnE.pick OW.out [0, 1, 2] _ (by kernel_rfl))⟩
     case measure => (simp [intOf] <;> omega)
   have dhB24 := of_decide_eq_false hB24
   obtain rfl : r = 8 := by omega
   gi_upto_region 28 with fail
   refine rg (fun q40 => [.v (.slice A nA cA),
    .m (lenR 0 (.c bz) (cP h)),
    .v (.int .i64 0)]) (fun _ L => L) OW ?_
   clear OW; intro q40 _ Wq40 OW; simp only [↓pc, ↓pn, vE, Hint.val, Act.put, eL]
   gi_wp2
   gi_loopw [106] (fun z106 wr => ∃ m : Nat, m ≤ xs.length ∧ z106 = .int .i64 (m : Int) ∧ OwnE (ids cs.flatten) w [.c bz, slSr vS3 xs, slFg ((q18 1).val 0) (fnS (So.grp kS (So.srt kS xs)) ((So.grp kS (So.srt kS xs)).length))] wr) (fun z106 _ => xs.length - (intOf (z106)).toNat)
   case atStart => exact ⟨0, by omega, rfl, (by skip; exact OwnE.cast OW.out (by kernel_rfl))⟩
   case round =>
    obtain ⟨m, hk42, rfl, hO⟩ := hrel
    clear OW
    have OW := Lib.hid hO
    clear hO
    gi_upto_region 29 with fail
    refine rg (fun q43 => [.v (.bool (decide ((m : Int) < (xs.length : Int))))]) (fun _ L => L) OW ?_
    clear OW; intro q43 _ Wq43 OW; simp only [↓pc, ↓pn, vE, Hint.val, Act.put, eL]
    cases hB44 : (decide ((m : Int) < (xs.length : Int)))
    case true =>
     have dhB44 := of_decide_eq_true hB44
     gi_upto_region 30 with fail
     refine rg (fun q45 => [.m (idxR 0 (.c bz) m 5 (cP h) (by omega)),
      .m (lsR (l := [.int .i64 ((xs.getD m zSn).x0), .int .i64 ((xs.getD m zSn).x1), .int .i64 ((xs.getD m zSn).x2), .int .i64 ((xs.getD m zSn).x3), .int .i64 ((xs.getD m zSn).x4)]) (d := zSn) 0 (.c bz) m 5 0 (cP h) (fun _ => rfl) (by omega) (Nat.le_of_ble_eq_true rfl) (by kernel_rfl)),
      .m (al 3),
      .m (ss 3)]) (fun q45 L => L ++ [ob ((q45 2).blk 0) #[.int .i64 ((xs.getD m zSn).x0), .int .i64 ((xs.getD m zSn).x1), .int .i64 ((xs.getD m zSn).x2), .int .i64 ((xs.getD m zSn).x3), .int .i64 ((xs.getD m zSn).x4)] 34]) OW ?_
     clear OW; intro q45 _ Wq45 OW; simp only [↓pc, ↓pn, vE, Hint.val, Act.put, eL]
     gi_upto_region 31 with fail
     refine rg (fun q46 => [.v (.int .i64 0)]) (fun _ L => L) OW ?_
     clear OW; intro q46 _ Wq46 OW; simp only [↓pc, ↓pn, vE, Hint.val, Act.put, eL]
     gi_upto_region 32 with fail
     refine rg (fun q47 => [.v (((q18 1).val 0)),
      .m (lenS 2 (slFg ((q18 1).val 0) (fnS (So.grp kS (So.srt kS xs)) ((So.grp kS (So.srt kS xs)).length))) (fun _ h => h)),
      .v (.int .i64 0)]) (fun _ L => L) OW ?_
     clear OW; intro q47 _ Wq47 OW; simp only [↓pc, ↓pn, vE, Hint.val, Act.put, eL]
     gi_wp2
     gi_loopw [112, 13] (fun z112 z13 wr => ∃ f : Nat, f ≤ (fnS (So.grp kS (So.srt kS xs)) ((So.grp kS (So.srt kS xs)).length)).length ∧ z112 = .int .i64 (f : Int) ∧ z13 = .int .i64 ((hcF (fnS (So.grp kS (So.srt kS xs)) ((So.grp kS (So.srt kS xs)).length)) (xs.getD m zSn) f : Nat) : Int) ∧ OwnE (ids cs.flatten) w [.c bz, slSr vS3 xs, slFg ((q18 1).val 0) (fnS (So.grp kS (So.srt kS xs)) ((So.grp kS (So.srt kS xs)).length)), ob ((q45 2).blk 0) #[.int .i64 ((xs.getD m zSn).x0), .int .i64 ((xs.getD m zSn).x1), .int .i64 ((xs.getD m zSn).x2), .int .i64 ((xs.getD m zSn).x3), .int .i64 ((xs.getD m zSn).x4)] 34] wr) (fun z112 z13 _ => (fnS (So.grp kS (So.srt kS xs)) ((So.grp kS (So.srt kS xs)).length)).length - (intOf (z112)).toNat)
     case atStart => exact ⟨0, by omega, rfl, congrArg (fun n : Nat => Value.int .i64 (n : Int)) hcF_0.symm, (by skip; exact OwnE.cast OW.out (by kernel_rfl))⟩
     case round =>
      obtain ⟨f, hk49, rfl, rfl, hO⟩ := hrel
      clear OW
      have HHL := hcF_le (got := fnS (So.grp kS (So.srt kS xs)) ((So.grp kS (So.srt kS xs)).length)) (a := xs.getD m zSn) (k := f)
      have OW := Lib.hid hO
      clear hO
      gi_upto_region 33 with fail
      refine rg (fun q50 => [.v (.bool (decide ((f : Int) < (((fnS (So.grp kS (So.srt kS xs)) ((So.grp kS (So.srt kS xs)).length)).length : Nat) : Int))))]) (fun _ L => L) OW ?_
      clear OW; intro q50 _ Wq50 OW; simp only [↓pc, ↓pn, vE, Hint.val, Act.put, eL]
      cases hB51 : (decide ((f : Int) < (((fnS (So.grp kS (So.srt kS xs)) ((So.grp kS (So.srt kS xs)).length)).length : Nat) : Int)))
      case true =>
       have dhB51 := of_decide_eq_true hB51
       gi_upto_region 34 with fail
       refine rg (fun q52 => [.m (idxS 2 (slFg ((q18 1).val 0) (fnS (So.grp kS (So.srt kS xs)) ((So.grp kS (So.srt kS xs)).length))) f 7 (fun _ h => h) (by omega)),
        .m (lsS (l := [.int .i64 (((fnS (So.grp kS (So.srt kS xs)) ((So.grp kS (So.srt kS xs)).length)).getD f zFg).x0), .int .i64 (((fnS (So.grp kS (So.srt kS xs)) ((So.grp kS (So.srt kS xs)).length)).getD f zFg).x1), .int .i64 (((fnS (So.grp kS (So.srt kS xs)) ((So.grp kS (So.srt kS xs)).length)).getD f zFg).x2), .int .i64 (((fnS (So.grp kS (So.srt kS xs)) ((So.grp kS (So.srt kS xs)).length)).getD f zFg).x3), .int .i64 (((fnS (So.grp kS (So.srt kS xs)) ((So.grp kS (So.srt kS xs)).length)).getD f zFg).x4), .int .i64 (((fnS (So.grp kS (So.srt kS xs)) ((So.grp kS (So.srt kS xs)).length)).getD f zFg).x5), .int .i64 (((fnS (So.grp kS (So.srt kS xs)) ((So.grp kS (So.srt kS xs)).length)).getD f zFg).x6)]) (d := zFg) 2 (slFg ((q18 1).val 0) (fnS (So.grp kS (So.srt kS xs)) ((So.grp kS (So.srt kS xs)).length))) f 7 0 (fun _ h => h) (fun _ => rfl) (by omega) (Nat.le_of_ble_eq_true rfl) (by kernel_rfl)),
        .m (al 4),
        .m (ss 4)]) (fun q52 L => L ++ [ob ((q52 2).blk 0) #[.int .i64 (((fnS (So.grp kS (So.srt kS xs)) ((So.grp kS (So.srt kS xs)).length)).getD f zFg).x0), .int .i64 (((fnS (So.grp kS (So.srt kS xs)) ((So.grp kS (So.srt kS xs)).length)).getD f zFg).x1), .int .i64 (((fnS (So.grp kS (So.srt kS xs)) ((So.grp kS (So.srt kS xs)).length)).getD f zFg).x2), .int .i64 (((fnS (So.grp kS (So.srt kS xs)) ((So.grp kS (So.srt kS xs)).length)).getD f zFg).x3), .int .i64 (((fnS (So.grp kS (So.srt kS xs)) ((So.grp kS (So.srt kS xs)).length)).getD f zFg).x4), .int .i64 (((fnS (So.grp kS (So.srt kS xs)) ((So.grp kS (So.srt kS xs)).length)).getD f zFg).x5), .int .i64 (((fnS (So.grp kS (So.srt kS xs)) ((So.grp kS (So.srt kS xs)).length)).getD f zFg).x6)] 44]) OW ?_
       clear OW; intro q52 _ Wq52 OW; simp only [↓pc, ↓pn, vE, Hint.val, Act.put, eL]
       gi_upto_region 35 with fail
       refine rg (fun q53 => [.m (ls 4 ([.int .i64 (((fnS (So.grp kS (So.srt kS xs)) ((So.grp kS (So.srt kS xs)).length)).getD f zFg).x0), .int .i64 (((fnS (So.grp kS (So.srt kS xs)) ((So.grp kS (So.srt kS xs)).length)).getD f zFg).x1), .int .i64 (((fnS (So.grp kS (So.srt kS xs)) ((So.grp kS (So.srt kS xs)).length)).getD f zFg).x2), .int .i64 (((fnS (So.grp kS (So.srt kS xs)) ((So.grp kS (So.srt kS xs)).length)).getD f zFg).x3), .int .i64 (((fnS (So.grp kS (So.srt kS xs)) ((So.grp kS (So.srt kS xs)).length)).getD f zFg).x4), .int .i64 (((fnS (So.grp kS (So.srt kS xs)) ((So.grp kS (So.srt kS xs)).length)).getD f zFg).x5), .int .i64 (((fnS (So.grp kS (So.srt kS xs)) ((So.grp kS (So.srt kS xs)).length)).getD f zFg).x6)])),
        .m (ls 3 ([.int .i64 ((xs.getD m zSn).x0), .int .i64 ((xs.getD m zSn).x1), .int .i64 ((xs.getD m zSn).x2), .int .i64 ((xs.getD m zSn).x3), .int .i64 ((xs.getD m zSn).x4)])),
        .c [] [] (thol (((fnS (So.grp kS (So.srt kS xs)) ((So.grp kS (So.srt kS xs)).length)).getD f zFg).x0) (((fnS (So.grp kS (So.srt kS xs)) ((So.grp kS (So.srt kS xs)).length)).getD f zFg).x1) (((fnS (So.grp kS (So.srt kS xs)) ((So.grp kS (So.srt kS xs)).length)).getD f zFg).x2) (((fnS (So.grp kS (So.srt kS xs)) ((So.grp kS (So.srt kS xs)).length)).getD f zFg).x3) (((fnS (So.grp kS (So.srt kS xs)) ((So.grp kS (So.srt kS xs)).length)).getD f zFg).x4) (((fnS (So.grp kS (So.srt kS xs)) ((So.grp kS (So.srt kS xs)).length)).getD f zFg).x5) (((fnS (So.grp kS (So.srt kS xs)) ((So.grp kS (So.srt kS xs)).length)).getD f zFg).x6) ((xs.getD m zSn).x0) ((xs.getD m zSn).x1) ((xs.getD m zSn).x2) ((xs.getD m zSn).x3) ((xs.getD m zSn).x4))]) (fun _ L => L) OW ?_
       clear OW; intro q53 _ Wq53 OW; simp only [↓pc, ↓pn, vE, Hint.val, Act.put, eL]
       cases hB54 : ((((((fnS (So.grp kS (So.srt kS xs)) ((So.grp kS (So.srt kS xs)).length)).getD f zFg).x5) == ((xs.getD m zSn).x4)) && ((((fnS (So.grp kS (So.srt kS xs)) ((So.grp kS (So.srt kS xs)).length)).getD f zFg).x1) == ((xs.getD m zSn).x0))) && (((((fnS (So.grp kS (So.srt kS xs)) ((So.grp kS (So.srt kS xs)).length)).getD f zFg).x1) == ((xs.getD m zSn).x0)) && (((((fnS (So.grp kS (So.srt kS xs)) ((So.grp kS (So.srt kS xs)).length)).getD f zFg).x2) == (tbare_0 (((fnS (So.grp kS (So.srt kS xs)) ((So.grp kS (So.srt kS xs)).length)).getD f zFg).x0) ((xs.getD m zSn).x1))) && (((((fnS (So.grp kS (So.srt kS xs)) ((So.grp kS (So.srt kS xs)).length)).getD f zFg).x3) == (tbare_1 (((fnS (So.grp kS (So.srt kS xs)) ((So.grp kS (So.srt kS xs)).length)).getD f zFg).x0) ((xs.getD m zSn).x2))) && ((((fnS (So.grp kS (So.srt kS xs)) ((So.grp kS (So.srt kS xs)).length)).getD f zFg).x4) == (tbare_2 (((fnS (So.grp kS (So.srt kS xs)) ((So.grp kS (So.srt kS xs)).length)).getD f zFg).x0) ((xs.getD m zSn).x3)))))))
       case true =>
        gi_upto_region 36 with fail
        refine rg (fun q55 => [.v (.int .i64 ((hcF (fnS (So.grp kS (So.srt kS xs)) ((So.grp kS (So.srt kS xs)).length)) (xs.getD m zSn) f : Nat) : Int)),
         .t (tb (a := .int .i64 ((hcF (fnS (So.grp kS (So.srt kS xs)) ((So.grp kS (So.srt kS xs)).length)) (xs.getD m zSn) f : Nat) : Int)) (b := .int .i64 1) fun _ _ _ _ => bin_add_nat (a := hcF (fnS (So.grp kS (So.srt kS xs)) ((So.grp kS (So.srt kS xs)).length)) (xs.getD m zSn) f) (b := 1) (by omega)),
         .v (.int .i64 (((hcF (fnS (So.grp kS (So.srt kS xs)) ((So.grp kS (So.srt kS xs)).length)) (xs.getD m zSn) f) + 1 : Nat) : Int))]) (fun _ L => L) OW ?_
        clear OW; intro q55 _ Wq55 OW; simp only [↓pc, ↓pn, vE, Hint.val, Act.put, eL]
        gi_upto_region 37 with fail
        refine rg (fun q56 => [.t (tb (a := .int .i64 (f : Int)) (b := .int .i64 1) fun _ _ _ _ => bin_add_nat (a := f) (b := 1) (by omega)),
         .v (.int .i64 ((f + 1 : Nat) : Int))]) (fun _ L => L) OW ?_
        clear OW; intro q56 _ Wq56 OW; simp only [↓pc, ↓pn, vE, Hint.val, Act.put, eL]
        gi_wp2
        go_roundw
        case rel => exact ⟨f + 1, by omega, by go_num, by first | exact congrArg (fun n : Nat => Value.int .i64 (n : Int)) (hcF_t (by omega) (by assumption)).symm | exact congrArg (fun n : Nat => Value.int .i64 (n : Int)) (hcF_f (by omega) (by assumption)).symm, (by skip; exact OwnE.pick OW.out [0, 1, 2, 3] _ (by kernel_rfl))⟩
        case measure => (simp [intOf] <;> omega)
       gi_upto_region 37 with fail
       refine rg (fun q57 => [.t (tb (a := .int .i64 (f : Int)) (b := .int .i64 1) fun _ _ _ _ => bin_add_nat (a := f) (b := 1) (by omega)),
        .v (.int .i64 ((f + 1 : Nat) : Int))]) (fun _ L => L) OW ?_
       clear OW; intro q57 _ Wq57 OW; simp only [↓pc, ↓pn, vE, Hint.val, Act.put, eL]
       gi_wp2
       go_roundw
       case rel => exact ⟨f + 1, by omega, by go_num, by first | exact congrArg (fun n : Nat => Value.int .i64 (n : Int)) (hcF_t (by omega) (by assumption)).symm | exact congrArg (fun n : Nat => Value.int .i64 (n : Int)) (hcF_f (by omega) (by assumption)).symm, (by skip; exact OwnE.pick OW.out [0, 1, 2, 3] _ (by kernel_rfl))⟩
       case measure => (simp [intOf] <;> omega)
      have dhB51 := of_decide_eq_false hB51
      gi_upto_region 38 with fail
      refine rg (fun q58 => [.v (.int .i64 ((hcF (fnS (So.grp kS (So.srt kS xs)) ((So.grp kS (So.srt kS xs)).length)) (xs.getD m zSn) f : Nat) : Int)),
       .t (tk (show Value.bool (((hcF (fnS (So.grp kS (So.srt kS xs)) ((So.grp kS (So.srt kS xs)).length)) (xs.getD m zSn) f : Nat) : Int) != 1) = .bool false from congrArg Value.bool (by rw [hc_one HX (by omega) (by omega)]; rfl)))]) (fun _ L => L) OW ?_
      clear OW; intro q58 _ Wq58 OW; simp only [↓pc, ↓pn, vE, Hint.val, Act.put, eL]
      gi_upto_region 40 with fail
      refine rg (fun q59 => [.t (tb (a := .int .i64 (m : Int)) (b := .int .i64 1) fun _ _ _ _ => bin_add_nat (a := m) (b := 1) (by omega)),
       .v (.int .i64 ((m + 1 : Nat) : Int))]) (fun _ L => L) OW ?_
      clear OW; intro q59 _ Wq59 OW; simp only [↓pc, ↓pn, vE, Hint.val, Act.put, eL]
      gi_wp2
      go_roundw
      case rel => exact ⟨m + 1, by omega, by go_num, (by skip; exact OwnE.pick OW.out [0, 1, 2] _ (by kernel_rfl))⟩
      case measure => (simp [intOf] <;> omega)
    have dhB44 := of_decide_eq_false hB44
    obtain rfl : xs.length = m := by omega
    gi_upto_region 41 with fail
    refine rg (fun q60 => [.v (.int .i64 ((cnI xs (256 * ((8 : Nat) : Int)) : Nat) : Int)),
     .v (((q18 1).val 0)),
     .m (lenS 2 (slFg ((q18 1).val 0) (fnS (So.grp kS (So.srt kS xs)) ((So.grp kS (So.srt kS xs)).length))) (fun _ h => h)),
     .v (.bool (((cnI xs (256 * ((8 : Nat) : Int)) : Nat) : Int) == (((fnS (So.grp kS (So.srt kS xs)) ((So.grp kS (So.srt kS xs)).length)).length : Nat) : Int))),
     .v (.bool (((cnI xs (256 * ((8 : Nat) : Int)) : Nat) : Int) == (((fnS (So.grp kS (So.srt kS xs)) ((So.grp kS (So.srt kS xs)).length)).length : Nat) : Int)))]) (fun _ L => L) OW ?_
    clear OW; intro q60 _ Wq60 OW; simp only [↓pc, ↓pn, vE, Hint.val, Act.put, eL]
    gi_wp2
    exact leafE HS HH OW [.t (.bool (((cnI xs (256 * ((8 : Nat) : Int)) : Nat) : Int) == (((fnS (So.grp kS (So.srt kS xs)) ((So.grp kS (So.srt kS xs)).length)).length : Nat) : Int)))] Env.zero [] [(0, 0)] (by first | rfl | exact congrArg Value.bool (beq_iff_eq.2 (congrArg (fun n : Nat => (n : Int)) (cnI_8 HX))))
end Go.Proofs.Ytdglhppcfdpcaaa.E
