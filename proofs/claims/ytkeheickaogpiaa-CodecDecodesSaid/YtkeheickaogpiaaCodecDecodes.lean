/- CodecDecodes, walked. -/
import Derived.Test.YtkeheickaogpiaaCdN
import Derived.WalkKit
import Derived.Sort.CutIn
import Derived.IntWalk
namespace Go.Proofs.Ytkeheickaogpiaa
open Go Go.RowKit Go.Shelf
attribute [local go_sem] Oper.semAt_some
set_option linter.unusedVariables false
set_option linter.unusedSimpArgs false


/-- The document's lines. -/
def jL (r : List UInt8) (x : Int) : List UInt8 := dDec1_0 r x
def jL2 (r : List UInt8) (x : Int) : List UInt8 := dDec2_0 r x
set_option maxRecDepth 100000 in
set_option maxHeartbeats 1000000 in
theorem CodecDecodes1_any (r : List UInt8) (hr : r.length = 72) (x : Int) (h0 : -9223372036854775808 ≤ x) (h1 : x ≤ 9223372036854775807) (w : World) : Calls Try.prog 4 #[.int .i64 1, .agg (rB 72 r).toArray, .int .i64 x] w fun e w' => e = .returned (.bool true) ∧ Below w.heap.size w w' := by
  have HJL : (jL r x).length = 64 := by unfold jL dDec1_0; cases (decide (2 ≤ jK ((List.range 8).map (dK r x)))) <;> simp [fillL_len]
  have HDC : ∀ x, (dDec1_0 r x).length = 64 := fun x => by unfold dDec1_0; cases (decide (2 ≤ jK ((List.range 8).map (dK r x)))) <;> simp [fillL_len]
  have H : Has [] w := has_nil
  have OW : Hid (OwnS [] w [] w) := Lib.hid (OwnS.start H)
  refine (callsIn_wide (n := 6)).1 ?_
  refine callsIn_of_wp_marks Try.func4 rfl trivial ?_ rfl
  simp only [Try.ntmps4, List.size_toArray, List.length_cons, List.length_nil, Nat.reduceAdd, Nat.reduceSub, Array.replicate_succ, Array.replicate_zero, List.push_toArray, List.append_toArray, List.nil_append, List.cons_append]
  gi_upto_region 0 with fail
  refine wpIn_region_re 1 (fun ηq1 => [.bx 0 27 (.agg (rB 72 r).toArray),
      .pv (.bool false)])
    (fun ηq1 L => L ++ [((ηq1 0).blk 0, Obj.cells (rB 72 r).toArray 27 (0, 0))]) (by kernel_rfl) OW (fun _ => by kernel_rfl) ?_
  clear OW; intro ηq1 ysq1 Wq1 OW
  simp only [↓putE_cons, ↓putE_nil, valE, Hint.val, Act.put, List.setIfInBounds_toArray, List.set_cons_succ, List.set_cons_zero]
  gi_upto_region 1 with fail
  refine wpIn_region_re 6 (fun ηq2 => [.cl 11 #[] (fun E => .pointer (some ⟨E.blk 0, 0, none⟩)) [] [] (fun E => [(1, (E.blk 0, Obj.cells #[.pointer (some ⟨E.blk 1, 0, none⟩), .pointer (some ⟨E.blk 2, 0, none⟩)] 61 (0, 0))), (2, (E.blk 1, Obj.cells hsN 102 (0, 0))), (3, (E.blk 2, Obj.cells #[.pointer (some ⟨E.blk 3, 0, none⟩), .slice (some ⟨E.blk 4, 0, none⟩) 5 (5 + (E.rest 0).length)] 109 (0, 0))), (4, (E.blk 3, Obj.cells fieldCells 137 (0, 0))), (5, (E.blk 4, Obj.cells (rowV genL (E.rest 0)) 5 (0, 0)))]) (enters_of Try.func11 (by kernel_rfl) rfl) (fun w' H => callsIn_wide.2 (dcoder_any  w' H)),
      .pv (.pointer (some ⟨(ηq2 0).blk 0, 0, none⟩))])
    (fun ηq2 L => L ++ [((ηq2 0).blk 0, Obj.cells #[.pointer (some ⟨(ηq2 0).blk 1, 0, none⟩), .pointer (some ⟨(ηq2 0).blk 2, 0, none⟩)] 61 (0, 0)), ((ηq2 0).blk 1, Obj.cells hsN 102 (0, 0)), ((ηq2 0).blk 2, Obj.cells #[.pointer (some ⟨(ηq2 0).blk 3, 0, none⟩), .slice (some ⟨(ηq2 0).blk 4, 0, none⟩) 5 (5 + ((ηq2 0).rest 0).length)] 109 (0, 0)), ((ηq2 0).blk 3, Obj.cells fieldCells 137 (0, 0)), ((ηq2 0).blk 4, Obj.cells (rowV genL ((ηq2 0).rest 0)) 5 (0, 0))]) (by kernel_rfl) OW (fun _ => by kernel_rfl) ?_
  clear OW; intro ηq2 ysq2 Wq2 OW
  simp only [↓putE_cons, ↓putE_nil, valE, Hint.val, Act.put, List.setIfInBounds_toArray, List.set_cons_succ, List.set_cons_zero]
  gi_upto_region 2 with fail
  refine wpIn_region_re 6 (fun ηq3 => [.pv (.pointer (some ⟨(ηq2 0).blk 0, 0, none⟩)),
      .pv (.bool false)])
    (fun ηq3 L => L) (by kernel_rfl) OW (fun _ => by kernel_rfl) ?_
  clear OW; intro ηq3 ysq3 Wq3 OW
  simp only [↓putE_cons, ↓putE_nil, valE, Hint.val, Act.put, List.setIfInBounds_toArray, List.set_cons_succ, List.set_cons_zero]
  gi_upto_region 4 with fail
  refine wpIn_region_re 6 (fun ηq4 => [.pv (.int .i64 1),
      .cl 14 #[.int .i64 1] (fun E => .bool ((1 == 1) || (1 == 2))) [] [] (fun E => []) (enters_of Try.func14 (by kernel_rfl) rfl) (fun w' H => cB (callsIn_wide.2 (dmode_any 1 w'))),
      .pv (.bool (!((1 == 1) || (1 == 2))))])
    (fun ηq4 L => L) (by kernel_rfl) OW (fun _ => by kernel_rfl) ?_
  clear OW; intro ηq4 ysq4 Wq4 OW
  simp only [↓putE_cons, ↓putE_nil, valE, Hint.val, Act.put, List.setIfInBounds_toArray, List.set_cons_succ, List.set_cons_zero]
  cases hB5 : (!((1 == 1) || (1 == 2)))
  case true => exact absurd (hB5.symm.trans (show _ = false from rfl)) (by decide)
  case false =>
    gi_upto_region 6 with fail
    refine wpIn_region_re 8 (fun ηq6 => [.pv (.pointer (some ⟨(ηq2 0).blk 0, 0, none⟩)),
        .pv (.int .i64 1),
        .ls (rB 72 r) 0 0,
        .pv (.int .i64 x),
        .cl 13 #[.pointer (some ⟨(ηq2 0).blk 0, 0, none⟩), .int .i64 1, .agg (rB 72 r).toArray, .int .i64 x] (fun E => .tuple #[.agg (rB 64 (dDec1_0 r x)).toArray, .agg #[.int .i64 (jK ((List.range 8).map (dK r x))), .int .i64 (djoin_0 ((List.range 8).map (dK r x)))]]) [(1, ((ηq2 0).blk 0, Obj.cells #[.pointer (some ⟨(ηq2 0).blk 1, 0, none⟩), .pointer (some ⟨(ηq2 0).blk 2, 0, none⟩)] 61 (0, 0))), (2, ((ηq2 0).blk 1, Obj.cells hsN 102 (0, 0)))] [] (fun E => []) (enters_of Try.func13 (by kernel_rfl) rfl) (fun w' H => cN (callsIn_wide.2 (dDec1_any ((ηq2 0).blk 0) ((ηq2 0).blk 1) ((ηq2 0).blk 2) r (by first | rfl | (simp only [List.length_set, List.length_append, List.length_replicate, List.length_cons, List.length_nil, List.length_map, List.length_range, List.length_take, List.length_drop, HDC, HJL, hr]; done) | (simp only [List.length_set, List.length_append, List.length_replicate, List.length_cons, List.length_nil, List.length_map, List.length_range, List.length_take, List.length_drop, HDC, HJL, hr]; omega)) x (by omega) (by omega) w' H))),
        .pv (.tuple #[.agg (rB 64 (dDec1_0 r x)).toArray, .agg #[.int .i64 (jK ((List.range 8).map (dK r x))), .int .i64 (djoin_0 ((List.range 8).map (dK r x)))]]),
        .pv (.agg (rB 64 (dDec1_0 r x)).toArray),
        .pv (.agg #[.int .i64 (jK ((List.range 8).map (dK r x))), .int .i64 (djoin_0 ((List.range 8).map (dK r x)))]),
        .al 6 23 (rB 64 (List.replicate 64 0)).toArray,
        .al 7 30 #[.int .i64 0, .int .i64 0],
        .ss 6 ((ηq6 8).blk 0) 0 23 (rB 64 (dDec1_0 r x)) (rB 64 (dDec1_0 r x)).toArray,
        .ss 7 ((ηq6 9).blk 0) 0 30 ([.int .i64 (jK ((List.range 8).map (dK r x))), .int .i64 (djoin_0 ((List.range 8).map (dK r x)))]) #[.int .i64 (jK ((List.range 8).map (dK r x))), .int .i64 (djoin_0 ((List.range 8).map (dK r x)))]])
      (fun ηq6 L => L ++ [((ηq6 8).blk 0, Obj.cells (rB 64 (dDec1_0 r x)).toArray 23 (0, 0)), ((ηq6 9).blk 0, Obj.cells #[.int .i64 (jK ((List.range 8).map (dK r x))), .int .i64 (djoin_0 ((List.range 8).map (dK r x)))] 30 (0, 0))]) (by kernel_rfl) OW (fun _ => by kernel_rfl) ?_
    clear OW; intro ηq6 ysq6 Wq6 OW
    simp only [↓putE_cons, ↓putE_nil, valE, Hint.val, Act.put, List.setIfInBounds_toArray, List.set_cons_succ, List.set_cons_zero]
    gi_upto_region 7 with fail
    refine wpIn_region_re 9 (fun ηq7 => [.pv (.int .i64 1),
        .ls (rB 72 r) 0 0,
        .pv (.int .i64 x),
        .cl 17 #[.int .i64 1, .agg (rB 72 r).toArray, .int .i64 x] (fun E => .tuple #[.agg (rB 64 (jL r x)).toArray, .int .i64 (jA r x), .int .i64 (jB r x)]) [] [] (fun E => []) (enters_of Try.func17 (by kernel_rfl) rfl) (fun w' H => cB (callsIn_wide.2 (rdec1_any r (by first | rfl | (simp only [List.length_set, List.length_append, List.length_replicate, List.length_cons, List.length_nil, List.length_map, List.length_range, List.length_take, List.length_drop, HDC, HJL, hr]; done) | (simp only [List.length_set, List.length_append, List.length_replicate, List.length_cons, List.length_nil, List.length_map, List.length_range, List.length_take, List.length_drop, HDC, HJL, hr]; omega)) x (by omega) (by omega) w'))),
        .pv (.tuple #[.agg (rB 64 (jL r x)).toArray, .int .i64 (jA r x), .int .i64 (jB r x)]),
        .pv (.agg (rB 64 (jL r x)).toArray),
        .pv (.int .i64 (jA r x)),
        .pv (.int .i64 (jB r x)),
        .al 8 22 (rB 64 (List.replicate 64 0)).toArray,
        .ss 8 ((ηq7 8).blk 0) 0 22 (rB 64 (jL r x)) (rB 64 (jL r x)).toArray,
        .pv (.int .i64 (jA r x)),
        .pv (.int .i64 (jB r x))])
      (fun ηq7 L => L ++ [((ηq7 8).blk 0, Obj.cells (rB 64 (jL r x)).toArray 22 (0, 0))]) (by kernel_rfl) OW (fun _ => by kernel_rfl) ?_
    clear OW; intro ηq7 ysq7 Wq7 OW
    simp only [↓putE_cons, ↓putE_nil, valE, Hint.val, Act.put, List.setIfInBounds_toArray, List.set_cons_succ, List.set_cons_zero]
    gi_upto_region 8 with fail
    refine wpIn_region_re 9 (fun ηq8 => [.ls (rB 64 (dDec1_0 r x)) 6 0,
        .ls (rB 64 (jL r x)) 8 0,
        .tv (.bool (decide ((dDec1_0 r x) = jL r x))) (sBin .eql 22 (.tmp 35) (.tmp 36) (.agg (rB 64 (dDec1_0 r x)).toArray) (.agg (rB 64 (jL r x)).toArray)) (fun _ => bin_eqT (xs := rB 64 (dDec1_0 r x)) (ys := rB 64 (jL r x)) (by kernel_rfl) (eqc_rB (show ((dDec1_0 r x)).length = 64 by first | rfl | (simp only [List.length_set, List.length_append, List.length_replicate, List.length_cons, List.length_nil, List.length_map, List.length_range, List.length_take, List.length_drop, HDC, HJL, hr]; done) | (simp only [List.length_set, List.length_append, List.length_replicate, List.length_cons, List.length_nil, List.length_map, List.length_range, List.length_take, List.length_drop, HDC, HJL, hr]; omega)) (show (jL r x).length = 64 by first | rfl | (simp only [List.length_set, List.length_append, List.length_replicate, List.length_cons, List.length_nil, List.length_map, List.length_range, List.length_take, List.length_drop, HDC, HJL, hr]; done) | (simp only [List.length_set, List.length_append, List.length_replicate, List.length_cons, List.length_nil, List.length_map, List.length_range, List.length_take, List.length_drop, HDC, HJL, hr]; omega)))),
        .pv (.bool (decide ((dDec1_0 r x) = jL r x))),
        .ls ([.int .i64 (jK ((List.range 8).map (dK r x))), .int .i64 (djoin_0 ((List.range 8).map (dK r x)))]) 7 0,
        .pv (.int .i64 (jA r x)),
        .pv (.int .i64 (jB r x)),
        .pv (.agg #[.int .i64 (jA r x), .int .i64 (jB r x)]),
        .tv (.bool ((jK ((List.range 8).map (dK r x))) == (jA r x) && ((djoin_0 ((List.range 8).map (dK r x))) == (jB r x) && true))) (sBin .eql 30 (.tmp 39) (.tmp 42) (.agg #[.int .i64 (jK ((List.range 8).map (dK r x))), .int .i64 (djoin_0 ((List.range 8).map (dK r x)))]) (.agg #[.int .i64 (jA r x), .int .i64 (jB r x)])) (fun _ => bin_eqT (xs := [.int .i64 (jK ((List.range 8).map (dK r x))), .int .i64 (djoin_0 ((List.range 8).map (dK r x)))]) (ys := [.int .i64 (jA r x), .int .i64 (jB r x)]) (by kernel_rfl) (by rfl)),
        .pk (.bool ((decide ((dDec1_0 r x) = jL r x)) && ((jK ((List.range 8).map (dK r x))) == (jA r x) && ((djoin_0 ((List.range 8).map (dK r x))) == (jB r x) && true)))),
        .pv (.bool ((decide ((dDec1_0 r x) = jL r x)) && ((jK ((List.range 8).map (dK r x))) == (jA r x) && ((djoin_0 ((List.range 8).map (dK r x))) == (jB r x) && true))))])
      (fun ηq8 L => L) (by kernel_rfl) OW (fun _ => by kernel_rfl) ?_
    clear OW; intro ηq8 ysq8 Wq8 OW
    simp only [↓putE_cons, ↓putE_nil, valE, Hint.val, Act.put, List.setIfInBounds_toArray, List.set_cons_succ, List.set_cons_zero]
    gi_wp2
    exact leavesS OW [.t (.bool ((decide ((dDec1_0 r x) = jL r x)) && ((jK ((List.range 8).map (dK r x))) == (jA r x) && ((djoin_0 ((List.range 8).map (dK r x))) == (jB r x) && true))))] (by kernel_rfl) fun hO => ⟨(by simp [outV, RV.val, jA, jB, jL]), hO.done⟩
set_option maxRecDepth 100000 in
set_option maxHeartbeats 1000000 in
theorem CodecDecodes2_any (r : List UInt8) (hr : r.length = 72) (x : Int) (h0 : -9223372036854775808 ≤ x) (h1 : x ≤ 9223372036854775807) (w : World) : Calls Try.prog 4 #[.int .i64 2, .agg (rB 72 r).toArray, .int .i64 x] w fun e w' => e = .returned (.bool true) ∧ Below w.heap.size w w' := by
  have HJL : (jL2 r x).length = 64 := by have h9 := halfT_len (hvT_len (cWx_len hr x) (Nat.le_refl 2)) (Nat.le_refl 2); unfold jL2 dDec2_0; cases (decide (2 ≤ jK ((List.range 2).map (cK r x)))) <;> simp [h9]
  have HDC : ∀ x, (dDec2_0 r x).length = 64 := fun x => by have h9 := halfT_len (hvT_len (cWx_len hr x) (Nat.le_refl 2)) (Nat.le_refl 2); unfold dDec2_0; cases (decide (2 ≤ jK ((List.range 2).map (cK r x)))) <;> simp [h9]
  have H : Has [] w := has_nil
  have OW : Hid (OwnS [] w [] w) := Lib.hid (OwnS.start H)
  refine (callsIn_wide (n := 6)).1 ?_
  refine callsIn_of_wp_marks Try.func4 rfl trivial ?_ rfl
  simp only [Try.ntmps4, List.size_toArray, List.length_cons, List.length_nil, Nat.reduceAdd, Nat.reduceSub, Array.replicate_succ, Array.replicate_zero, List.push_toArray, List.append_toArray, List.nil_append, List.cons_append]
  gi_upto_region 0 with fail
  refine wpIn_region_re 1 (fun ηq1 => [.bx 0 27 (.agg (rB 72 r).toArray),
      .pv (.bool false)])
    (fun ηq1 L => L ++ [((ηq1 0).blk 0, Obj.cells (rB 72 r).toArray 27 (0, 0))]) (by kernel_rfl) OW (fun _ => by kernel_rfl) ?_
  clear OW; intro ηq1 ysq1 Wq1 OW
  simp only [↓putE_cons, ↓putE_nil, valE, Hint.val, Act.put, List.setIfInBounds_toArray, List.set_cons_succ, List.set_cons_zero]
  gi_upto_region 1 with fail
  refine wpIn_region_re 6 (fun ηq2 => [.cl 11 #[] (fun E => .pointer (some ⟨E.blk 0, 0, none⟩)) [] [] (fun E => [(1, (E.blk 0, Obj.cells #[.pointer (some ⟨E.blk 1, 0, none⟩), .pointer (some ⟨E.blk 2, 0, none⟩)] 61 (0, 0))), (2, (E.blk 1, Obj.cells hsN 102 (0, 0))), (3, (E.blk 2, Obj.cells #[.pointer (some ⟨E.blk 3, 0, none⟩), .slice (some ⟨E.blk 4, 0, none⟩) 5 (5 + (E.rest 0).length)] 109 (0, 0))), (4, (E.blk 3, Obj.cells fieldCells 137 (0, 0))), (5, (E.blk 4, Obj.cells (rowV genL (E.rest 0)) 5 (0, 0)))]) (enters_of Try.func11 (by kernel_rfl) rfl) (fun w' H => callsIn_wide.2 (dcoder_any  w' H)),
      .pv (.pointer (some ⟨(ηq2 0).blk 0, 0, none⟩))])
    (fun ηq2 L => L ++ [((ηq2 0).blk 0, Obj.cells #[.pointer (some ⟨(ηq2 0).blk 1, 0, none⟩), .pointer (some ⟨(ηq2 0).blk 2, 0, none⟩)] 61 (0, 0)), ((ηq2 0).blk 1, Obj.cells hsN 102 (0, 0)), ((ηq2 0).blk 2, Obj.cells #[.pointer (some ⟨(ηq2 0).blk 3, 0, none⟩), .slice (some ⟨(ηq2 0).blk 4, 0, none⟩) 5 (5 + ((ηq2 0).rest 0).length)] 109 (0, 0)), ((ηq2 0).blk 3, Obj.cells fieldCells 137 (0, 0)), ((ηq2 0).blk 4, Obj.cells (rowV genL ((ηq2 0).rest 0)) 5 (0, 0))]) (by kernel_rfl) OW (fun _ => by kernel_rfl) ?_
  clear OW; intro ηq2 ysq2 Wq2 OW
  simp only [↓putE_cons, ↓putE_nil, valE, Hint.val, Act.put, List.setIfInBounds_toArray, List.set_cons_succ, List.set_cons_zero]
  gi_upto_region 2 with fail
  refine wpIn_region_re 6 (fun ηq3 => [.pv (.pointer (some ⟨(ηq2 0).blk 0, 0, none⟩)),
      .pv (.bool false)])
    (fun ηq3 L => L) (by kernel_rfl) OW (fun _ => by kernel_rfl) ?_
  clear OW; intro ηq3 ysq3 Wq3 OW
  simp only [↓putE_cons, ↓putE_nil, valE, Hint.val, Act.put, List.setIfInBounds_toArray, List.set_cons_succ, List.set_cons_zero]
  gi_upto_region 4 with fail
  refine wpIn_region_re 6 (fun ηq4 => [.pv (.int .i64 2),
      .cl 14 #[.int .i64 2] (fun E => .bool ((2 == 1) || (2 == 2))) [] [] (fun E => []) (enters_of Try.func14 (by kernel_rfl) rfl) (fun w' H => cB (callsIn_wide.2 (dmode_any 2 w'))),
      .pv (.bool (!((2 == 1) || (2 == 2))))])
    (fun ηq4 L => L) (by kernel_rfl) OW (fun _ => by kernel_rfl) ?_
  clear OW; intro ηq4 ysq4 Wq4 OW
  simp only [↓putE_cons, ↓putE_nil, valE, Hint.val, Act.put, List.setIfInBounds_toArray, List.set_cons_succ, List.set_cons_zero]
  cases hB5 : (!((2 == 1) || (2 == 2)))
  case true => exact absurd (hB5.symm.trans (show _ = false from rfl)) (by decide)
  case false =>
    gi_upto_region 6 with fail
    refine wpIn_region_re 8 (fun ηq6 => [.pv (.pointer (some ⟨(ηq2 0).blk 0, 0, none⟩)),
        .pv (.int .i64 2),
        .ls (rB 72 r) 0 0,
        .pv (.int .i64 x),
        .cl 13 #[.pointer (some ⟨(ηq2 0).blk 0, 0, none⟩), .int .i64 2, .agg (rB 72 r).toArray, .int .i64 x] (fun E => .tuple #[.agg (rB 64 (dDec2_0 r x)).toArray, .agg #[.int .i64 (jK ((List.range 2).map (cK r x))), .int .i64 (djoin_0 ((List.range 2).map (cK r x)))]]) [(1, ((ηq2 0).blk 0, Obj.cells #[.pointer (some ⟨(ηq2 0).blk 1, 0, none⟩), .pointer (some ⟨(ηq2 0).blk 2, 0, none⟩)] 61 (0, 0))), (3, ((ηq2 0).blk 2, Obj.cells #[.pointer (some ⟨(ηq2 0).blk 3, 0, none⟩), .slice (some ⟨(ηq2 0).blk 4, 0, none⟩) 5 (5 + ((ηq2 0).rest 0).length)] 109 (0, 0))), (4, ((ηq2 0).blk 3, Obj.cells fieldCells 137 (0, 0))), (5, ((ηq2 0).blk 4, Obj.cells (rowV genL ((ηq2 0).rest 0)) 5 (0, 0)))] [] (fun E => []) (enters_of Try.func13 (by kernel_rfl) rfl) (fun w' H => cN (callsIn_wide.2 (dDec2_any ((ηq2 0).blk 0) ((ηq2 0).blk 1) ((ηq2 0).blk 2) ((ηq2 0).blk 3) ((ηq2 0).blk 4) ((ηq2 0).rest 0) r (by first | rfl | (simp only [List.length_set, List.length_append, List.length_replicate, List.length_cons, List.length_nil, List.length_map, List.length_range, List.length_take, List.length_drop, HDC, HJL, hr]; done) | (simp only [List.length_set, List.length_append, List.length_replicate, List.length_cons, List.length_nil, List.length_map, List.length_range, List.length_take, List.length_drop, HDC, HJL, hr]; omega)) x (by omega) (by omega) w' H))),
        .pv (.tuple #[.agg (rB 64 (dDec2_0 r x)).toArray, .agg #[.int .i64 (jK ((List.range 2).map (cK r x))), .int .i64 (djoin_0 ((List.range 2).map (cK r x)))]]),
        .pv (.agg (rB 64 (dDec2_0 r x)).toArray),
        .pv (.agg #[.int .i64 (jK ((List.range 2).map (cK r x))), .int .i64 (djoin_0 ((List.range 2).map (cK r x)))]),
        .al 6 23 (rB 64 (List.replicate 64 0)).toArray,
        .al 7 30 #[.int .i64 0, .int .i64 0],
        .ss 6 ((ηq6 8).blk 0) 0 23 (rB 64 (dDec2_0 r x)) (rB 64 (dDec2_0 r x)).toArray,
        .ss 7 ((ηq6 9).blk 0) 0 30 ([.int .i64 (jK ((List.range 2).map (cK r x))), .int .i64 (djoin_0 ((List.range 2).map (cK r x)))]) #[.int .i64 (jK ((List.range 2).map (cK r x))), .int .i64 (djoin_0 ((List.range 2).map (cK r x)))]])
      (fun ηq6 L => L ++ [((ηq6 8).blk 0, Obj.cells (rB 64 (dDec2_0 r x)).toArray 23 (0, 0)), ((ηq6 9).blk 0, Obj.cells #[.int .i64 (jK ((List.range 2).map (cK r x))), .int .i64 (djoin_0 ((List.range 2).map (cK r x)))] 30 (0, 0))]) (by kernel_rfl) OW (fun _ => by kernel_rfl) ?_
    clear OW; intro ηq6 ysq6 Wq6 OW
    simp only [↓putE_cons, ↓putE_nil, valE, Hint.val, Act.put, List.setIfInBounds_toArray, List.set_cons_succ, List.set_cons_zero]
    gi_upto_region 7 with fail
    refine wpIn_region_re 9 (fun ηq7 => [.pv (.int .i64 2),
        .ls (rB 72 r) 0 0,
        .pv (.int .i64 x),
        .cl 17 #[.int .i64 2, .agg (rB 72 r).toArray, .int .i64 x] (fun E => .tuple #[.agg (rB 64 (jL2 r x)).toArray, .int .i64 (jA2 r x), .int .i64 (jB2 r x)]) [] [] (fun E => []) (enters_of Try.func17 (by kernel_rfl) rfl) (fun w' H => cB (callsIn_wide.2 (rdec2_any r (by first | rfl | (simp only [List.length_set, List.length_append, List.length_replicate, List.length_cons, List.length_nil, List.length_map, List.length_range, List.length_take, List.length_drop, HDC, HJL, hr]; done) | (simp only [List.length_set, List.length_append, List.length_replicate, List.length_cons, List.length_nil, List.length_map, List.length_range, List.length_take, List.length_drop, HDC, HJL, hr]; omega)) x (by omega) (by omega) w'))),
        .pv (.tuple #[.agg (rB 64 (jL2 r x)).toArray, .int .i64 (jA2 r x), .int .i64 (jB2 r x)]),
        .pv (.agg (rB 64 (jL2 r x)).toArray),
        .pv (.int .i64 (jA2 r x)),
        .pv (.int .i64 (jB2 r x)),
        .al 8 22 (rB 64 (List.replicate 64 0)).toArray,
        .ss 8 ((ηq7 8).blk 0) 0 22 (rB 64 (jL2 r x)) (rB 64 (jL2 r x)).toArray,
        .pv (.int .i64 (jA2 r x)),
        .pv (.int .i64 (jB2 r x))])
      (fun ηq7 L => L ++ [((ηq7 8).blk 0, Obj.cells (rB 64 (jL2 r x)).toArray 22 (0, 0))]) (by kernel_rfl) OW (fun _ => by kernel_rfl) ?_
    clear OW; intro ηq7 ysq7 Wq7 OW
    simp only [↓putE_cons, ↓putE_nil, valE, Hint.val, Act.put, List.setIfInBounds_toArray, List.set_cons_succ, List.set_cons_zero]
    gi_upto_region 8 with fail
    refine wpIn_region_re 9 (fun ηq8 => [.ls (rB 64 (dDec2_0 r x)) 6 0,
        .ls (rB 64 (jL2 r x)) 8 0,
        .tv (.bool (decide ((dDec2_0 r x) = jL2 r x))) (sBin .eql 22 (.tmp 35) (.tmp 36) (.agg (rB 64 (dDec2_0 r x)).toArray) (.agg (rB 64 (jL2 r x)).toArray)) (fun _ => bin_eqT (xs := rB 64 (dDec2_0 r x)) (ys := rB 64 (jL2 r x)) (by kernel_rfl) (eqc_rB (show ((dDec2_0 r x)).length = 64 by first | rfl | (simp only [List.length_set, List.length_append, List.length_replicate, List.length_cons, List.length_nil, List.length_map, List.length_range, List.length_take, List.length_drop, HDC, HJL, hr]; done) | (simp only [List.length_set, List.length_append, List.length_replicate, List.length_cons, List.length_nil, List.length_map, List.length_range, List.length_take, List.length_drop, HDC, HJL, hr]; omega)) (show (jL2 r x).length = 64 by first | rfl | (simp only [List.length_set, List.length_append, List.length_replicate, List.length_cons, List.length_nil, List.length_map, List.length_range, List.length_take, List.length_drop, HDC, HJL, hr]; done) | (simp only [List.length_set, List.length_append, List.length_replicate, List.length_cons, List.length_nil, List.length_map, List.length_range, List.length_take, List.length_drop, HDC, HJL, hr]; omega)))),
        .pv (.bool (decide ((dDec2_0 r x) = jL2 r x))),
        .ls ([.int .i64 (jK ((List.range 2).map (cK r x))), .int .i64 (djoin_0 ((List.range 2).map (cK r x)))]) 7 0,
        .pv (.int .i64 (jA2 r x)),
        .pv (.int .i64 (jB2 r x)),
        .pv (.agg #[.int .i64 (jA2 r x), .int .i64 (jB2 r x)]),
        .tv (.bool ((jK ((List.range 2).map (cK r x))) == (jA2 r x) && ((djoin_0 ((List.range 2).map (cK r x))) == (jB2 r x) && true))) (sBin .eql 30 (.tmp 39) (.tmp 42) (.agg #[.int .i64 (jK ((List.range 2).map (cK r x))), .int .i64 (djoin_0 ((List.range 2).map (cK r x)))]) (.agg #[.int .i64 (jA2 r x), .int .i64 (jB2 r x)])) (fun _ => bin_eqT (xs := [.int .i64 (jK ((List.range 2).map (cK r x))), .int .i64 (djoin_0 ((List.range 2).map (cK r x)))]) (ys := [.int .i64 (jA2 r x), .int .i64 (jB2 r x)]) (by kernel_rfl) (by rfl)),
        .pk (.bool ((decide ((dDec2_0 r x) = jL2 r x)) && ((jK ((List.range 2).map (cK r x))) == (jA2 r x) && ((djoin_0 ((List.range 2).map (cK r x))) == (jB2 r x) && true)))),
        .pv (.bool ((decide ((dDec2_0 r x) = jL2 r x)) && ((jK ((List.range 2).map (cK r x))) == (jA2 r x) && ((djoin_0 ((List.range 2).map (cK r x))) == (jB2 r x) && true))))])
      (fun ηq8 L => L) (by kernel_rfl) OW (fun _ => by kernel_rfl) ?_
    clear OW; intro ηq8 ysq8 Wq8 OW
    simp only [↓putE_cons, ↓putE_nil, valE, Hint.val, Act.put, List.setIfInBounds_toArray, List.set_cons_succ, List.set_cons_zero]
    gi_wp2
    exact leavesS OW [.t (.bool ((decide ((dDec2_0 r x) = jL2 r x)) && ((jK ((List.range 2).map (cK r x))) == (jA2 r x) && ((djoin_0 ((List.range 2).map (cK r x))) == (jB2 r x) && true))))] (by kernel_rfl) fun hO => ⟨(by simp [outV, RV.val, jA2, jB2, jL2]), hO.done⟩
set_option maxRecDepth 100000 in
set_option maxHeartbeats 1000000 in
theorem CodecDecodes0_any (m : Int) (hm1 : m ≠ 1) (hm2 : m ≠ 2) (r : List UInt8) (hr : r.length = 72) (x : Int) (h0 : -9223372036854775808 ≤ x) (h1 : x ≤ 9223372036854775807) (w : World) : Calls Try.prog 4 #[.int .i64 m, .agg (rB 72 r).toArray, .int .i64 x] w fun e w' => e = .returned (.bool true) ∧ Below w.heap.size w w' := by
  have H : Has [] w := has_nil
  have OW : Hid (OwnS [] w [] w) := Lib.hid (OwnS.start H)
  refine (callsIn_wide (n := 6)).1 ?_
  refine callsIn_of_wp_marks Try.func4 rfl trivial ?_ rfl
  simp only [Try.ntmps4, List.size_toArray, List.length_cons, List.length_nil, Nat.reduceAdd, Nat.reduceSub, Array.replicate_succ, Array.replicate_zero, List.push_toArray, List.append_toArray, List.nil_append, List.cons_append]
  gi_upto_region 0 with fail
  refine wpIn_region_re 1 (fun ηq1 => [.bx 0 27 (.agg (rB 72 r).toArray),
      .pv (.bool false)])
    (fun ηq1 L => L ++ [((ηq1 0).blk 0, Obj.cells (rB 72 r).toArray 27 (0, 0))]) (by kernel_rfl) OW (fun _ => by kernel_rfl) ?_
  clear OW; intro ηq1 ysq1 Wq1 OW
  simp only [↓putE_cons, ↓putE_nil, valE, Hint.val, Act.put, List.setIfInBounds_toArray, List.set_cons_succ, List.set_cons_zero]
  gi_upto_region 1 with fail
  refine wpIn_region_re 6 (fun ηq2 => [.cl 11 #[] (fun E => .pointer (some ⟨E.blk 0, 0, none⟩)) [] [] (fun E => [(1, (E.blk 0, Obj.cells #[.pointer (some ⟨E.blk 1, 0, none⟩), .pointer (some ⟨E.blk 2, 0, none⟩)] 61 (0, 0))), (2, (E.blk 1, Obj.cells hsN 102 (0, 0))), (3, (E.blk 2, Obj.cells #[.pointer (some ⟨E.blk 3, 0, none⟩), .slice (some ⟨E.blk 4, 0, none⟩) 5 (5 + (E.rest 0).length)] 109 (0, 0))), (4, (E.blk 3, Obj.cells fieldCells 137 (0, 0))), (5, (E.blk 4, Obj.cells (rowV genL (E.rest 0)) 5 (0, 0)))]) (enters_of Try.func11 (by kernel_rfl) rfl) (fun w' H => callsIn_wide.2 (dcoder_any  w' H)),
      .pv (.pointer (some ⟨(ηq2 0).blk 0, 0, none⟩))])
    (fun ηq2 L => L ++ [((ηq2 0).blk 0, Obj.cells #[.pointer (some ⟨(ηq2 0).blk 1, 0, none⟩), .pointer (some ⟨(ηq2 0).blk 2, 0, none⟩)] 61 (0, 0)), ((ηq2 0).blk 1, Obj.cells hsN 102 (0, 0)), ((ηq2 0).blk 2, Obj.cells #[.pointer (some ⟨(ηq2 0).blk 3, 0, none⟩), .slice (some ⟨(ηq2 0).blk 4, 0, none⟩) 5 (5 + ((ηq2 0).rest 0).length)] 109 (0, 0)), ((ηq2 0).blk 3, Obj.cells fieldCells 137 (0, 0)), ((ηq2 0).blk 4, Obj.cells (rowV genL ((ηq2 0).rest 0)) 5 (0, 0))]) (by kernel_rfl) OW (fun _ => by kernel_rfl) ?_
  clear OW; intro ηq2 ysq2 Wq2 OW
  simp only [↓putE_cons, ↓putE_nil, valE, Hint.val, Act.put, List.setIfInBounds_toArray, List.set_cons_succ, List.set_cons_zero]
  gi_upto_region 2 with fail
  refine wpIn_region_re 6 (fun ηq3 => [.pv (.pointer (some ⟨(ηq2 0).blk 0, 0, none⟩)),
      .pv (.bool false)])
    (fun ηq3 L => L) (by kernel_rfl) OW (fun _ => by kernel_rfl) ?_
  clear OW; intro ηq3 ysq3 Wq3 OW
  simp only [↓putE_cons, ↓putE_nil, valE, Hint.val, Act.put, List.setIfInBounds_toArray, List.set_cons_succ, List.set_cons_zero]
  gi_upto_region 4 with fail
  refine wpIn_region_re 6 (fun ηq4 => [.pv (.int .i64 m),
      .cl 14 #[.int .i64 m] (fun E => .bool ((m == 1) || (m == 2))) [] [] (fun E => []) (enters_of Try.func14 (by kernel_rfl) rfl) (fun w' H => cB (callsIn_wide.2 (dmode_any m w'))),
      .pv (.bool (!((m == 1) || (m == 2))))])
    (fun ηq4 L => L) (by kernel_rfl) OW (fun _ => by kernel_rfl) ?_
  clear OW; intro ηq4 ysq4 Wq4 OW
  simp only [↓putE_cons, ↓putE_nil, valE, Hint.val, Act.put, List.setIfInBounds_toArray, List.set_cons_succ, List.set_cons_zero]
  cases hB5 : (!((m == 1) || (m == 2)))
  case true =>
    gi_upto_region 5 with fail
    refine wpIn_region_re 6 (fun ηq6 => [.pv (.bool true)])
      (fun ηq6 L => L) (by kernel_rfl) OW (fun _ => by kernel_rfl) ?_
    clear OW; intro ηq6 ysq6 Wq6 OW
    simp only [↓putE_cons, ↓putE_nil, valE, Hint.val, Act.put, List.setIfInBounds_toArray, List.set_cons_succ, List.set_cons_zero]
    gi_wp2
    exact leavesS OW [.t (.bool true)] (by kernel_rfl) fun hO => ⟨(by rfl), hO.done⟩
  case false => exact absurd (hB5.symm.trans (show _ = true from by rw [beq_false_of_ne hm1, beq_false_of_ne hm2]; rfl)) (by decide)
theorem CodecDecodes_any (m : Int) (r : List UInt8) (x : Int) (hr : r.length = 72) (h0 : -9223372036854775808 ≤ x) (h1 : x ≤ 9223372036854775807) (w : World) : Calls Try.prog 4 #[.int .i64 m, .agg (rawV r), .int .i64 x] w fun e w' => e = .returned (.bool true) ∧ Below w.heap.size w w' := by
  rw [← rB_raw hr]
  by_cases e1 : m = 1
  · subst e1; exact CodecDecodes1_any r hr x h0 h1 w
  · by_cases e2 : m = 2
    · subst e2; exact CodecDecodes2_any r hr x h0 h1 w
    · exact CodecDecodes0_any m e1 e2 r hr x h0 h1 w
end Go.Proofs.Ytkeheickaogpiaa
