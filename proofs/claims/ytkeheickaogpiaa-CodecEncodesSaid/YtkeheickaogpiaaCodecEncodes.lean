/- CodecEncodes, walked. -/
import Derived.Test.YtkeheickaogpiaaCdJ
import Derived.Test.YtkeheickaogpiaaCmY
import Derived.Test.YtkeheickaogpiaaCdR
import Derived.Test.YtkeheickaogpiaaCdS
import Derived.WalkKit
import Derived.Sort.CutIn
import Derived.IntWalk
namespace Go.Proofs.Ytkeheickaogpiaa
open Go Go.RowKit Go.Shelf
attribute [local go_sem] Oper.semAt_some
set_option linter.unusedVariables false
set_option linter.unusedSimpArgs false


def CodecEncodes1_0 (l : List UInt8) (x : Int) (p : Bool) : Bool := (bif p then (decide ((dDec1_0 (encT 9 (eW1 l x p) 8) x) = List.replicate 64 0)) && ((jK ((List.range 8).map (dK (encT 9 (eW1 l x p) 8) x))) == 2 && ((djoin_0 ((List.range 8).map (dK (encT 9 (eW1 l x p) 8) x))) == 0 && true)) else (decide ((dDec1_0 (encT 9 (eW1 l x p) 8) x) = l)) && ((jK ((List.range 8).map (dK (encT 9 (eW1 l x p) 8) x))) == 0 && ((djoin_0 ((List.range 8).map (dK (encT 9 (eW1 l x p) 8) x))) == 0 && true)))
set_option maxRecDepth 100000 in
set_option maxHeartbeats 1000000 in
theorem CodecEncodes1_any (l : List UInt8) (hl : l.length = 64) (x : Int) (h0 : -9223372036854775808 ≤ x) (h1 : x ≤ 9223372036854775807) (p : Bool) (w : World) : Calls Try.prog 3 #[.int .i64 1, .agg (rB 64 l).toArray, .int .i64 x, .bool p] w fun e w' => e = .returned (.bool (CodecEncodes1_0 l x p)) ∧ Below w.heap.size w w' := by
  have HEN := own1_len l x p
  have HDC : ∀ r x, (dDec1_0 r x).length = 64 := fun r x => by unfold dDec1_0; cases (decide (2 ≤ jK ((List.range 8).map (dK r x)))) <;> simp [fillL_len]
  have H : Has [] w := has_nil
  have OW : Hid (OwnS [] w [] w) := Lib.hid (OwnS.start H)
  refine (callsIn_wide (n := 6)).1 ?_
  refine callsIn_of_wp_marks Try.func3 rfl trivial ?_ rfl
  simp only [Try.ntmps3, List.size_toArray, List.length_cons, List.length_nil, Nat.reduceAdd, Nat.reduceSub, Array.replicate_succ, Array.replicate_zero, List.push_toArray, List.append_toArray, List.nil_append, List.cons_append]
  gi_upto_region 0 with fail
  refine wpIn_region_re 1 (fun ηq1 => [.bx 0 23 (.agg (rB 64 l).toArray),
      .pv (.bool false)])
    (fun ηq1 L => L ++ [((ηq1 0).blk 0, Obj.cells (rB 64 l).toArray 23 (0, 0))]) (by kernel_rfl) OW (fun _ => by kernel_rfl) ?_
  clear OW; intro ηq1 ysq1 Wq1 OW
  simp only [↓putE_cons, ↓putE_nil, valE, Hint.val, Act.put, List.setIfInBounds_toArray, List.set_cons_succ, List.set_cons_zero]
  gi_upto_region 1 with fail
  refine wpIn_region_re 6 (fun ηq2 => [.cl 11 #[] (fun E => .pointer (some ⟨E.blk 0, 0, none⟩)) [] [] (fun E => [(1, (E.blk 0, Obj.cells #[.pointer (some ⟨E.blk 1, 0, none⟩), .pointer (some ⟨E.blk 2, 0, none⟩)] 61 (0, 0))), (2, (E.blk 1, Obj.cells hsN 102 (0, 0))), (3, (E.blk 2, Obj.cells #[.pointer (some ⟨E.blk 3, 0, none⟩), .slice (some ⟨E.blk 4, 0, none⟩) 5 (5 + (E.rest 0).length)] 109 (0, 0))), (4, (E.blk 3, Obj.cells fieldCells 137 (0, 0))), (5, (E.blk 4, Obj.cells (rowV genL (E.rest 0)) 5 (0, 0)))]) (enters_of Try.func11 (by kernel_rfl) rfl) (fun w' H => callsIn_wide.2 (dcoder_any  w' H)),
      .pv (.pointer (some ⟨(ηq2 0).blk 0, 0, none⟩))])
    (fun ηq2 L => L ++ [((ηq2 0).blk 0, Obj.cells #[.pointer (some ⟨(ηq2 0).blk 1, 0, none⟩), .pointer (some ⟨(ηq2 0).blk 2, 0, none⟩)] 61 (0, 0)), ((ηq2 0).blk 1, Obj.cells hsN 102 (0, 0)), ((ηq2 0).blk 2, Obj.cells #[.pointer (some ⟨(ηq2 0).blk 3, 0, none⟩), .slice (some ⟨(ηq2 0).blk 4, 0, none⟩) 5 (5 + ((ηq2 0).rest 0).length)] 109 (0, 0)), ((ηq2 0).blk 3, Obj.cells fieldCells 137 (0, 0)), ((ηq2 0).blk 4, Obj.cells (rowV genL ((ηq2 0).rest 0)) 5 (0, 0))]) (by kernel_rfl) OW (fun _ => by kernel_rfl) ?_
  clear OW; intro ηq2 ysq2 Wq2 OW
  simp only [↓putE_cons, ↓putE_nil, valE, Hint.val, Act.put, List.setIfInBounds_toArray, List.set_cons_succ, List.set_cons_zero]
  gi_upto_region 2 with fail
  refine wpIn_region_re 6 (fun ηq3 => [.pv (.pointer (some ⟨(ηq2 0).blk 0, 0, none⟩)),
      .pv (.bool false)])
    (fun ηq3 L => L) (by kernel_rfl) OW (fun _ => by kernel_rfl) ?_
  clear OW; intro ηq3 ysq3 Wq3 OW
  simp only [↓putE_cons, ↓putE_nil, valE, Hint.val, Act.put, List.setIfInBounds_toArray, List.set_cons_succ, List.set_cons_zero]
  gi_upto_region 4 with fail
  refine wpIn_region_re 7 (fun ηq4 => [.pv (.pointer (some ⟨(ηq2 0).blk 0, 0, none⟩)),
      .pv (.int .i64 1),
      .ls (rB 64 l) 0 0,
      .pv (.int .i64 x),
      .pv (.bool p),
      .cl 12 #[.pointer (some ⟨(ηq2 0).blk 0, 0, none⟩), .int .i64 1, .agg (rB 64 l).toArray, .int .i64 x, .bool p] (fun E => .agg (rB 72 (encT 9 (eW1 l x p) 8)).toArray) [(1, ((ηq2 0).blk 0, Obj.cells #[.pointer (some ⟨(ηq2 0).blk 1, 0, none⟩), .pointer (some ⟨(ηq2 0).blk 2, 0, none⟩)] 61 (0, 0))), (2, ((ηq2 0).blk 1, Obj.cells hsN 102 (0, 0)))] [] (fun E => []) (enters_of Try.func12 (by kernel_rfl) rfl) (fun w' H => cN (callsIn_wide.2 (dEnc1_any ((ηq2 0).blk 0) ((ηq2 0).blk 1) ((ηq2 0).blk 2) l (by first | rfl | (simp only [List.length_set, List.length_append, List.length_replicate, List.length_cons, List.length_nil, List.length_map, List.length_range, List.length_take, List.length_drop, HEN, HDC, hl]; done) | (simp only [List.length_set, List.length_append, List.length_replicate, List.length_cons, List.length_nil, List.length_map, List.length_range, List.length_take, List.length_drop, HEN, HDC, hl]; omega)) x (by omega) (by omega) p w' H))),
      .al 6 27 (rB 72 (List.replicate 72 0)).toArray,
      .ss 6 ((ηq4 6).blk 0) 0 27 (rB 72 (encT 9 (eW1 l x p) 8)) (rB 72 (encT 9 (eW1 l x p) 8)).toArray])
    (fun ηq4 L => L ++ [((ηq4 6).blk 0, Obj.cells (rB 72 (encT 9 (eW1 l x p) 8)).toArray 27 (0, 0))]) (by kernel_rfl) OW (fun _ => by kernel_rfl) ?_
  clear OW; intro ηq4 ysq4 Wq4 OW
  simp only [↓putE_cons, ↓putE_nil, valE, Hint.val, Act.put, List.setIfInBounds_toArray, List.set_cons_succ, List.set_cons_zero]
  gi_upto_region 5 with fail
  refine wpIn_region_re 9 (fun ηq5 => [.pv (.pointer (some ⟨(ηq2 0).blk 0, 0, none⟩)),
      .pv (.int .i64 1),
      .ls (rB 72 (encT 9 (eW1 l x p) 8)) 6 0,
      .pv (.int .i64 x),
      .cl 13 #[.pointer (some ⟨(ηq2 0).blk 0, 0, none⟩), .int .i64 1, .agg (rB 72 (encT 9 (eW1 l x p) 8)).toArray, .int .i64 x] (fun E => .tuple #[.agg (rB 64 (dDec1_0 (encT 9 (eW1 l x p) 8) x)).toArray, .agg #[.int .i64 (jK ((List.range 8).map (dK (encT 9 (eW1 l x p) 8) x))), .int .i64 (djoin_0 ((List.range 8).map (dK (encT 9 (eW1 l x p) 8) x)))]]) [(1, ((ηq2 0).blk 0, Obj.cells #[.pointer (some ⟨(ηq2 0).blk 1, 0, none⟩), .pointer (some ⟨(ηq2 0).blk 2, 0, none⟩)] 61 (0, 0))), (2, ((ηq2 0).blk 1, Obj.cells hsN 102 (0, 0)))] [] (fun E => []) (enters_of Try.func13 (by kernel_rfl) rfl) (fun w' H => cN (callsIn_wide.2 (dDec1_any ((ηq2 0).blk 0) ((ηq2 0).blk 1) ((ηq2 0).blk 2) (encT 9 (eW1 l x p) 8) (by first | rfl | (simp only [List.length_set, List.length_append, List.length_replicate, List.length_cons, List.length_nil, List.length_map, List.length_range, List.length_take, List.length_drop, HEN, HDC, hl]; done) | (simp only [List.length_set, List.length_append, List.length_replicate, List.length_cons, List.length_nil, List.length_map, List.length_range, List.length_take, List.length_drop, HEN, HDC, hl]; omega)) x (by omega) (by omega) w' H))),
      .pv (.tuple #[.agg (rB 64 (dDec1_0 (encT 9 (eW1 l x p) 8) x)).toArray, .agg #[.int .i64 (jK ((List.range 8).map (dK (encT 9 (eW1 l x p) 8) x))), .int .i64 (djoin_0 ((List.range 8).map (dK (encT 9 (eW1 l x p) 8) x)))]]),
      .pv (.agg (rB 64 (dDec1_0 (encT 9 (eW1 l x p) 8) x)).toArray),
      .pv (.agg #[.int .i64 (jK ((List.range 8).map (dK (encT 9 (eW1 l x p) 8) x))), .int .i64 (djoin_0 ((List.range 8).map (dK (encT 9 (eW1 l x p) 8) x)))]),
      .al 7 23 (rB 64 (List.replicate 64 0)).toArray,
      .al 8 30 #[.int .i64 0, .int .i64 0],
      .ss 7 ((ηq5 8).blk 0) 0 23 (rB 64 (dDec1_0 (encT 9 (eW1 l x p) 8) x)) (rB 64 (dDec1_0 (encT 9 (eW1 l x p) 8) x)).toArray,
      .ss 8 ((ηq5 9).blk 0) 0 30 ([.int .i64 (jK ((List.range 8).map (dK (encT 9 (eW1 l x p) 8) x))), .int .i64 (djoin_0 ((List.range 8).map (dK (encT 9 (eW1 l x p) 8) x)))]) #[.int .i64 (jK ((List.range 8).map (dK (encT 9 (eW1 l x p) 8) x))), .int .i64 (djoin_0 ((List.range 8).map (dK (encT 9 (eW1 l x p) 8) x)))]])
    (fun ηq5 L => L ++ [((ηq5 8).blk 0, Obj.cells (rB 64 (dDec1_0 (encT 9 (eW1 l x p) 8) x)).toArray 23 (0, 0)), ((ηq5 9).blk 0, Obj.cells #[.int .i64 (jK ((List.range 8).map (dK (encT 9 (eW1 l x p) 8) x))), .int .i64 (djoin_0 ((List.range 8).map (dK (encT 9 (eW1 l x p) 8) x)))] 30 (0, 0))]) (by kernel_rfl) OW (fun _ => by kernel_rfl) ?_
  clear OW; intro ηq5 ysq5 Wq5 OW
  simp only [↓putE_cons, ↓putE_nil, valE, Hint.val, Act.put, List.setIfInBounds_toArray, List.set_cons_succ, List.set_cons_zero]
  gi_upto_region 6 with fail
  refine wpIn_region_re 9 (fun ηq6 => [.pv (.int .i64 1),
      .cl 14 #[.int .i64 1] (fun E => .bool ((1 == 1) || (1 == 2))) [] [] (fun E => []) (enters_of Try.func14 (by kernel_rfl) rfl) (fun w' H => cB (callsIn_wide.2 (dmode_any 1 w'))),
      .pv (.bool (!((1 == 1) || (1 == 2))))])
    (fun ηq6 L => L) (by kernel_rfl) OW (fun _ => by kernel_rfl) ?_
  clear OW; intro ηq6 ysq6 Wq6 OW
  simp only [↓putE_cons, ↓putE_nil, valE, Hint.val, Act.put, List.setIfInBounds_toArray, List.set_cons_succ, List.set_cons_zero]
  cases hB7 : (!((1 == 1) || (1 == 2)))
  case true => exact absurd (hB7.symm.trans (show _ = false from rfl)) (by decide)
  case false =>
    gi_upto_region 8 with fail
    refine wpIn_region_re 9 (fun ηq8 => [.pv (.int .i64 1),
        .ls (rB 72 (encT 9 (eW1 l x p) 8)) 6 0,
        .ls (rB 64 l) 0 0,
        .pv (.int .i64 x),
        .pv (.bool p),
        .cl 15 #[.int .i64 1, .agg (rB 72 (encT 9 (eW1 l x p) 8)).toArray, .agg (rB 64 l).toArray, .int .i64 x, .bool p] (fun E => .bool true) [] [] (fun E => []) (enters_of Try.func15 (by kernel_rfl) rfl) (fun w' H => cB (callsIn_wide.2 (rend1_any l (by first | rfl | (simp only [List.length_set, List.length_append, List.length_replicate, List.length_cons, List.length_nil, List.length_map, List.length_range, List.length_take, List.length_drop, HEN, HDC, hl]; done) | (simp only [List.length_set, List.length_append, List.length_replicate, List.length_cons, List.length_nil, List.length_map, List.length_range, List.length_take, List.length_drop, HEN, HDC, hl]; omega)) x (by omega) (by omega) p w'))),
        .pv (.bool false),
        .pv (.bool false),
        .ls (rB 72 (encT 9 (eW1 l x p) 8)) 6 0,
        .pv (.int .i64 1),
        .ls (rB 64 l) 0 0,
        .pv (.int .i64 x),
        .pv (.bool p),
        .cl 16 #[.int .i64 1, .agg (rB 64 l).toArray, .int .i64 x, .bool p] (fun E => .agg (rB 72 (encT 9 (eW1 l x p) 8)).toArray) [] [] (fun E => []) (enters_of Try.func16 (by kernel_rfl) rfl) (fun w' H => cB (callsIn_wide.2 (renc1_any l (by first | rfl | (simp only [List.length_set, List.length_append, List.length_replicate, List.length_cons, List.length_nil, List.length_map, List.length_range, List.length_take, List.length_drop, HEN, HDC, hl]; done) | (simp only [List.length_set, List.length_append, List.length_replicate, List.length_cons, List.length_nil, List.length_map, List.length_range, List.length_take, List.length_drop, HEN, HDC, hl]; omega)) x (by omega) (by omega) p w'))),
        .tv (.bool false) (sBin .neq 26 (.tmp 54) (.tmp 59) (.agg (rB 72 (encT 9 (eW1 l x p) 8)).toArray) (.agg (rB 72 (encT 9 (eW1 l x p) 8)).toArray)) (fun _ => bin_neT (xs := rB 72 (encT 9 (eW1 l x p) 8)) (ys := rB 72 (encT 9 (eW1 l x p) 8)) (by kernel_rfl) ((eqc_rB HEN HEN).trans (decide_eq_true rfl))),
        .pk (.bool false)])
      (fun ηq8 L => L) (by kernel_rfl) OW (fun _ => by kernel_rfl) ?_
    clear OW; intro ηq8 ysq8 Wq8 OW
    simp only [↓putE_cons, ↓putE_nil, valE, Hint.val, Act.put, List.setIfInBounds_toArray, List.set_cons_succ, List.set_cons_zero]
    gi_upto_region 10 with fail
    refine wpIn_region_re 9 (fun ηq9 => [.pv (.bool p)])
      (fun ηq9 L => L) (by kernel_rfl) OW (fun _ => by kernel_rfl) ?_
    clear OW; intro ηq9 ysq9 Wq9 OW
    simp only [↓putE_cons, ↓putE_nil, valE, Hint.val, Act.put, List.setIfInBounds_toArray, List.set_cons_succ, List.set_cons_zero]
    cases hB10 : (p)
    case true =>
      gi_upto_region 11 with fail
      refine wpIn_region_re 9 (fun ηq11 => [.ls (rB 64 (dDec1_0 (encT 9 (eW1 l x p) 8) x)) 7 0,
          .pv (.agg (rB 64 (List.replicate 64 0)).toArray),
          .tv (.bool (decide ((dDec1_0 (encT 9 (eW1 l x p) 8) x) = List.replicate 64 0))) (sBin .eql 23 (.tmp 63) (.tmp 64) (.agg (rB 64 (dDec1_0 (encT 9 (eW1 l x p) 8) x)).toArray) (.agg (rB 64 (List.replicate 64 0)).toArray)) (fun _ => bin_eqT (xs := rB 64 (dDec1_0 (encT 9 (eW1 l x p) 8) x)) (ys := rB 64 (List.replicate 64 0)) (by kernel_rfl) (eqc_rB (show ((dDec1_0 (encT 9 (eW1 l x p) 8) x)).length = 64 by first | rfl | (simp only [List.length_set, List.length_append, List.length_replicate, List.length_cons, List.length_nil, List.length_map, List.length_range, List.length_take, List.length_drop, HEN, HDC, hl]; done) | (simp only [List.length_set, List.length_append, List.length_replicate, List.length_cons, List.length_nil, List.length_map, List.length_range, List.length_take, List.length_drop, HEN, HDC, hl]; omega)) List.length_replicate)),
          .pv (.bool (decide ((dDec1_0 (encT 9 (eW1 l x p) 8) x) = List.replicate 64 0))),
          .ls ([.int .i64 (jK ((List.range 8).map (dK (encT 9 (eW1 l x p) 8) x))), .int .i64 (djoin_0 ((List.range 8).map (dK (encT 9 (eW1 l x p) 8) x)))]) 8 0,
          .pv (.agg #[.int .i64 2, .int .i64 0]),
          .tv (.bool ((jK ((List.range 8).map (dK (encT 9 (eW1 l x p) 8) x))) == 2 && ((djoin_0 ((List.range 8).map (dK (encT 9 (eW1 l x p) 8) x))) == 0 && true))) (sBin .eql 30 (.tmp 67) (.tmp 68) (.agg #[.int .i64 (jK ((List.range 8).map (dK (encT 9 (eW1 l x p) 8) x))), .int .i64 (djoin_0 ((List.range 8).map (dK (encT 9 (eW1 l x p) 8) x)))]) (.agg #[.int .i64 2, .int .i64 0])) (fun _ => bin_eqT (xs := [.int .i64 (jK ((List.range 8).map (dK (encT 9 (eW1 l x p) 8) x))), .int .i64 (djoin_0 ((List.range 8).map (dK (encT 9 (eW1 l x p) 8) x)))]) (ys := [.int .i64 2, .int .i64 0]) (by kernel_rfl) (by rfl)),
          .pk (.bool ((decide ((dDec1_0 (encT 9 (eW1 l x p) 8) x) = List.replicate 64 0)) && ((jK ((List.range 8).map (dK (encT 9 (eW1 l x p) 8) x))) == 2 && ((djoin_0 ((List.range 8).map (dK (encT 9 (eW1 l x p) 8) x))) == 0 && true)))),
          .pv (.bool ((decide ((dDec1_0 (encT 9 (eW1 l x p) 8) x) = List.replicate 64 0)) && ((jK ((List.range 8).map (dK (encT 9 (eW1 l x p) 8) x))) == 2 && ((djoin_0 ((List.range 8).map (dK (encT 9 (eW1 l x p) 8) x))) == 0 && true))))])
        (fun ηq11 L => L) (by kernel_rfl) OW (fun _ => by kernel_rfl) ?_
      clear OW; intro ηq11 ysq11 Wq11 OW
      simp only [↓putE_cons, ↓putE_nil, valE, Hint.val, Act.put, List.setIfInBounds_toArray, List.set_cons_succ, List.set_cons_zero]
      gi_wp2
      exact leavesS OW [.t (.bool ((decide ((dDec1_0 (encT 9 (eW1 l x p) 8) x) = List.replicate 64 0)) && ((jK ((List.range 8).map (dK (encT 9 (eW1 l x p) 8) x))) == 2 && ((djoin_0 ((List.range 8).map (dK (encT 9 (eW1 l x p) 8) x))) == 0 && true))))] (by kernel_rfl) fun hO => ⟨(by (try simp only [CodecEncodes1_0]); (repeat (first | rw [hB7] | rw [hB10] | rw [cond_true] | rw [cond_false])); try rfl), hO.done⟩
    gi_upto_region 12 with fail
    refine wpIn_region_re 9 (fun ηq12 => [.ls (rB 64 (dDec1_0 (encT 9 (eW1 l x p) 8) x)) 7 0,
        .ls (rB 64 l) 0 0,
        .tv (.bool (decide ((dDec1_0 (encT 9 (eW1 l x p) 8) x) = l))) (sBin .eql 23 (.tmp 71) (.tmp 72) (.agg (rB 64 (dDec1_0 (encT 9 (eW1 l x p) 8) x)).toArray) (.agg (rB 64 l).toArray)) (fun _ => bin_eqT (xs := rB 64 (dDec1_0 (encT 9 (eW1 l x p) 8) x)) (ys := rB 64 l) (by kernel_rfl) (eqc_rB (show ((dDec1_0 (encT 9 (eW1 l x p) 8) x)).length = 64 by first | rfl | (simp only [List.length_set, List.length_append, List.length_replicate, List.length_cons, List.length_nil, List.length_map, List.length_range, List.length_take, List.length_drop, HEN, HDC, hl]; done) | (simp only [List.length_set, List.length_append, List.length_replicate, List.length_cons, List.length_nil, List.length_map, List.length_range, List.length_take, List.length_drop, HEN, HDC, hl]; omega)) (show (l).length = 64 by first | rfl | (simp only [List.length_set, List.length_append, List.length_replicate, List.length_cons, List.length_nil, List.length_map, List.length_range, List.length_take, List.length_drop, HEN, HDC, hl]; done) | (simp only [List.length_set, List.length_append, List.length_replicate, List.length_cons, List.length_nil, List.length_map, List.length_range, List.length_take, List.length_drop, HEN, HDC, hl]; omega)))),
        .pv (.bool (decide ((dDec1_0 (encT 9 (eW1 l x p) 8) x) = l))),
        .ls ([.int .i64 (jK ((List.range 8).map (dK (encT 9 (eW1 l x p) 8) x))), .int .i64 (djoin_0 ((List.range 8).map (dK (encT 9 (eW1 l x p) 8) x)))]) 8 0,
        .pv (.agg #[.int .i64 0, .int .i64 0]),
        .tv (.bool ((jK ((List.range 8).map (dK (encT 9 (eW1 l x p) 8) x))) == 0 && ((djoin_0 ((List.range 8).map (dK (encT 9 (eW1 l x p) 8) x))) == 0 && true))) (sBin .eql 30 (.tmp 75) (.tmp 76) (.agg #[.int .i64 (jK ((List.range 8).map (dK (encT 9 (eW1 l x p) 8) x))), .int .i64 (djoin_0 ((List.range 8).map (dK (encT 9 (eW1 l x p) 8) x)))]) (.agg #[.int .i64 0, .int .i64 0])) (fun _ => bin_eqT (xs := [.int .i64 (jK ((List.range 8).map (dK (encT 9 (eW1 l x p) 8) x))), .int .i64 (djoin_0 ((List.range 8).map (dK (encT 9 (eW1 l x p) 8) x)))]) (ys := [.int .i64 0, .int .i64 0]) (by kernel_rfl) (by rfl)),
        .pk (.bool ((decide ((dDec1_0 (encT 9 (eW1 l x p) 8) x) = l)) && ((jK ((List.range 8).map (dK (encT 9 (eW1 l x p) 8) x))) == 0 && ((djoin_0 ((List.range 8).map (dK (encT 9 (eW1 l x p) 8) x))) == 0 && true)))),
        .pv (.bool ((decide ((dDec1_0 (encT 9 (eW1 l x p) 8) x) = l)) && ((jK ((List.range 8).map (dK (encT 9 (eW1 l x p) 8) x))) == 0 && ((djoin_0 ((List.range 8).map (dK (encT 9 (eW1 l x p) 8) x))) == 0 && true))))])
      (fun ηq12 L => L) (by kernel_rfl) OW (fun _ => by kernel_rfl) ?_
    clear OW; intro ηq12 ysq12 Wq12 OW
    simp only [↓putE_cons, ↓putE_nil, valE, Hint.val, Act.put, List.setIfInBounds_toArray, List.set_cons_succ, List.set_cons_zero]
    gi_wp2
    exact leavesS OW [.t (.bool ((decide ((dDec1_0 (encT 9 (eW1 l x p) 8) x) = l)) && ((jK ((List.range 8).map (dK (encT 9 (eW1 l x p) 8) x))) == 0 && ((djoin_0 ((List.range 8).map (dK (encT 9 (eW1 l x p) 8) x))) == 0 && true))))] (by kernel_rfl) fun hO => ⟨(by (try simp only [CodecEncodes1_0]); (repeat (first | rw [hB7] | rw [hB10] | rw [cond_true] | rw [cond_false])); try rfl), hO.done⟩
def CodecEncodes2_0 (l : List UInt8) (x : Int) (p : Bool) : Bool := (bif p then (decide ((dDec2_0 (encT 36 (eW2 l x p) 2) x) = List.replicate 64 0)) && ((jK ((List.range 2).map (cK (encT 36 (eW2 l x p) 2) x))) == 2 && ((djoin_0 ((List.range 2).map (cK (encT 36 (eW2 l x p) 2) x))) == 0 && true)) else (decide ((dDec2_0 (encT 36 (eW2 l x p) 2) x) = l)) && ((jK ((List.range 2).map (cK (encT 36 (eW2 l x p) 2) x))) == 0 && ((djoin_0 ((List.range 2).map (cK (encT 36 (eW2 l x p) 2) x))) == 0 && true)))
set_option maxRecDepth 100000 in
set_option maxHeartbeats 1000000 in
theorem CodecEncodes2_any (l : List UInt8) (hl : l.length = 64) (x : Int) (h0 : -9223372036854775808 ≤ x) (h1 : x ≤ 9223372036854775807) (p : Bool) (w : World) : Calls Try.prog 3 #[.int .i64 2, .agg (rB 64 l).toArray, .int .i64 x, .bool p] w fun e w' => e = .returned (.bool (CodecEncodes2_0 l x p)) ∧ Below w.heap.size w w' := by
  have HEN := own2_len hl x p
  have HDC : ∀ x, (dDec2_0 (encT 36 (eW2 l x p) 2) x).length = 64 := fun x => by have h9 := halfT_len (hvT_len (cWx_len (own2_len hl x p) x) (Nat.le_refl 2)) (Nat.le_refl 2); unfold dDec2_0; cases (decide (2 ≤ jK ((List.range 2).map (cK (encT 36 (eW2 l x p) 2) x)))) <;> simp [h9]
  have H : Has [] w := has_nil
  have OW : Hid (OwnS [] w [] w) := Lib.hid (OwnS.start H)
  refine (callsIn_wide (n := 6)).1 ?_
  refine callsIn_of_wp_marks Try.func3 rfl trivial ?_ rfl
  simp only [Try.ntmps3, List.size_toArray, List.length_cons, List.length_nil, Nat.reduceAdd, Nat.reduceSub, Array.replicate_succ, Array.replicate_zero, List.push_toArray, List.append_toArray, List.nil_append, List.cons_append]
  gi_upto_region 0 with fail
  refine wpIn_region_re 1 (fun ηq1 => [.bx 0 23 (.agg (rB 64 l).toArray),
      .pv (.bool false)])
    (fun ηq1 L => L ++ [((ηq1 0).blk 0, Obj.cells (rB 64 l).toArray 23 (0, 0))]) (by kernel_rfl) OW (fun _ => by kernel_rfl) ?_
  clear OW; intro ηq1 ysq1 Wq1 OW
  simp only [↓putE_cons, ↓putE_nil, valE, Hint.val, Act.put, List.setIfInBounds_toArray, List.set_cons_succ, List.set_cons_zero]
  gi_upto_region 1 with fail
  refine wpIn_region_re 6 (fun ηq2 => [.cl 11 #[] (fun E => .pointer (some ⟨E.blk 0, 0, none⟩)) [] [] (fun E => [(1, (E.blk 0, Obj.cells #[.pointer (some ⟨E.blk 1, 0, none⟩), .pointer (some ⟨E.blk 2, 0, none⟩)] 61 (0, 0))), (2, (E.blk 1, Obj.cells hsN 102 (0, 0))), (3, (E.blk 2, Obj.cells #[.pointer (some ⟨E.blk 3, 0, none⟩), .slice (some ⟨E.blk 4, 0, none⟩) 5 (5 + (E.rest 0).length)] 109 (0, 0))), (4, (E.blk 3, Obj.cells fieldCells 137 (0, 0))), (5, (E.blk 4, Obj.cells (rowV genL (E.rest 0)) 5 (0, 0)))]) (enters_of Try.func11 (by kernel_rfl) rfl) (fun w' H => callsIn_wide.2 (dcoder_any  w' H)),
      .pv (.pointer (some ⟨(ηq2 0).blk 0, 0, none⟩))])
    (fun ηq2 L => L ++ [((ηq2 0).blk 0, Obj.cells #[.pointer (some ⟨(ηq2 0).blk 1, 0, none⟩), .pointer (some ⟨(ηq2 0).blk 2, 0, none⟩)] 61 (0, 0)), ((ηq2 0).blk 1, Obj.cells hsN 102 (0, 0)), ((ηq2 0).blk 2, Obj.cells #[.pointer (some ⟨(ηq2 0).blk 3, 0, none⟩), .slice (some ⟨(ηq2 0).blk 4, 0, none⟩) 5 (5 + ((ηq2 0).rest 0).length)] 109 (0, 0)), ((ηq2 0).blk 3, Obj.cells fieldCells 137 (0, 0)), ((ηq2 0).blk 4, Obj.cells (rowV genL ((ηq2 0).rest 0)) 5 (0, 0))]) (by kernel_rfl) OW (fun _ => by kernel_rfl) ?_
  clear OW; intro ηq2 ysq2 Wq2 OW
  simp only [↓putE_cons, ↓putE_nil, valE, Hint.val, Act.put, List.setIfInBounds_toArray, List.set_cons_succ, List.set_cons_zero]
  gi_upto_region 2 with fail
  refine wpIn_region_re 6 (fun ηq3 => [.pv (.pointer (some ⟨(ηq2 0).blk 0, 0, none⟩)),
      .pv (.bool false)])
    (fun ηq3 L => L) (by kernel_rfl) OW (fun _ => by kernel_rfl) ?_
  clear OW; intro ηq3 ysq3 Wq3 OW
  simp only [↓putE_cons, ↓putE_nil, valE, Hint.val, Act.put, List.setIfInBounds_toArray, List.set_cons_succ, List.set_cons_zero]
  gi_upto_region 4 with fail
  refine wpIn_region_re 7 (fun ηq4 => [.pv (.pointer (some ⟨(ηq2 0).blk 0, 0, none⟩)),
      .pv (.int .i64 2),
      .ls (rB 64 l) 0 0,
      .pv (.int .i64 x),
      .pv (.bool p),
      .cl 12 #[.pointer (some ⟨(ηq2 0).blk 0, 0, none⟩), .int .i64 2, .agg (rB 64 l).toArray, .int .i64 x, .bool p] (fun E => .agg (rB 72 (encT 36 (eW2 l x p) 2)).toArray) [(1, ((ηq2 0).blk 0, Obj.cells #[.pointer (some ⟨(ηq2 0).blk 1, 0, none⟩), .pointer (some ⟨(ηq2 0).blk 2, 0, none⟩)] 61 (0, 0))), (3, ((ηq2 0).blk 2, Obj.cells #[.pointer (some ⟨(ηq2 0).blk 3, 0, none⟩), .slice (some ⟨(ηq2 0).blk 4, 0, none⟩) 5 (5 + ((ηq2 0).rest 0).length)] 109 (0, 0))), (4, ((ηq2 0).blk 3, Obj.cells fieldCells 137 (0, 0))), (5, ((ηq2 0).blk 4, Obj.cells (rowV genL ((ηq2 0).rest 0)) 5 (0, 0)))] [] (fun E => []) (enters_of Try.func12 (by kernel_rfl) rfl) (fun w' H => cN (callsIn_wide.2 (dEnc2_any ((ηq2 0).blk 0) ((ηq2 0).blk 1) ((ηq2 0).blk 2) ((ηq2 0).blk 3) ((ηq2 0).blk 4) ((ηq2 0).rest 0) l (by first | rfl | (simp only [List.length_set, List.length_append, List.length_replicate, List.length_cons, List.length_nil, List.length_map, List.length_range, List.length_take, List.length_drop, HEN, HDC, hl]; done) | (simp only [List.length_set, List.length_append, List.length_replicate, List.length_cons, List.length_nil, List.length_map, List.length_range, List.length_take, List.length_drop, HEN, HDC, hl]; omega)) x (by omega) (by omega) p w' H))),
      .al 6 27 (rB 72 (List.replicate 72 0)).toArray,
      .ss 6 ((ηq4 6).blk 0) 0 27 (rB 72 (encT 36 (eW2 l x p) 2)) (rB 72 (encT 36 (eW2 l x p) 2)).toArray])
    (fun ηq4 L => L ++ [((ηq4 6).blk 0, Obj.cells (rB 72 (encT 36 (eW2 l x p) 2)).toArray 27 (0, 0))]) (by kernel_rfl) OW (fun _ => by kernel_rfl) ?_
  clear OW; intro ηq4 ysq4 Wq4 OW
  simp only [↓putE_cons, ↓putE_nil, valE, Hint.val, Act.put, List.setIfInBounds_toArray, List.set_cons_succ, List.set_cons_zero]
  gi_upto_region 5 with fail
  refine wpIn_region_re 9 (fun ηq5 => [.pv (.pointer (some ⟨(ηq2 0).blk 0, 0, none⟩)),
      .pv (.int .i64 2),
      .ls (rB 72 (encT 36 (eW2 l x p) 2)) 6 0,
      .pv (.int .i64 x),
      .cl 13 #[.pointer (some ⟨(ηq2 0).blk 0, 0, none⟩), .int .i64 2, .agg (rB 72 (encT 36 (eW2 l x p) 2)).toArray, .int .i64 x] (fun E => .tuple #[.agg (rB 64 (dDec2_0 (encT 36 (eW2 l x p) 2) x)).toArray, .agg #[.int .i64 (jK ((List.range 2).map (cK (encT 36 (eW2 l x p) 2) x))), .int .i64 (djoin_0 ((List.range 2).map (cK (encT 36 (eW2 l x p) 2) x)))]]) [(1, ((ηq2 0).blk 0, Obj.cells #[.pointer (some ⟨(ηq2 0).blk 1, 0, none⟩), .pointer (some ⟨(ηq2 0).blk 2, 0, none⟩)] 61 (0, 0))), (3, ((ηq2 0).blk 2, Obj.cells #[.pointer (some ⟨(ηq2 0).blk 3, 0, none⟩), .slice (some ⟨(ηq2 0).blk 4, 0, none⟩) 5 (5 + ((ηq2 0).rest 0).length)] 109 (0, 0))), (4, ((ηq2 0).blk 3, Obj.cells fieldCells 137 (0, 0))), (5, ((ηq2 0).blk 4, Obj.cells (rowV genL ((ηq2 0).rest 0)) 5 (0, 0)))] [] (fun E => []) (enters_of Try.func13 (by kernel_rfl) rfl) (fun w' H => cN (callsIn_wide.2 (dDec2_any ((ηq2 0).blk 0) ((ηq2 0).blk 1) ((ηq2 0).blk 2) ((ηq2 0).blk 3) ((ηq2 0).blk 4) ((ηq2 0).rest 0) (encT 36 (eW2 l x p) 2) (by first | rfl | (simp only [List.length_set, List.length_append, List.length_replicate, List.length_cons, List.length_nil, List.length_map, List.length_range, List.length_take, List.length_drop, HEN, HDC, hl]; done) | (simp only [List.length_set, List.length_append, List.length_replicate, List.length_cons, List.length_nil, List.length_map, List.length_range, List.length_take, List.length_drop, HEN, HDC, hl]; omega)) x (by omega) (by omega) w' H))),
      .pv (.tuple #[.agg (rB 64 (dDec2_0 (encT 36 (eW2 l x p) 2) x)).toArray, .agg #[.int .i64 (jK ((List.range 2).map (cK (encT 36 (eW2 l x p) 2) x))), .int .i64 (djoin_0 ((List.range 2).map (cK (encT 36 (eW2 l x p) 2) x)))]]),
      .pv (.agg (rB 64 (dDec2_0 (encT 36 (eW2 l x p) 2) x)).toArray),
      .pv (.agg #[.int .i64 (jK ((List.range 2).map (cK (encT 36 (eW2 l x p) 2) x))), .int .i64 (djoin_0 ((List.range 2).map (cK (encT 36 (eW2 l x p) 2) x)))]),
      .al 7 23 (rB 64 (List.replicate 64 0)).toArray,
      .al 8 30 #[.int .i64 0, .int .i64 0],
      .ss 7 ((ηq5 8).blk 0) 0 23 (rB 64 (dDec2_0 (encT 36 (eW2 l x p) 2) x)) (rB 64 (dDec2_0 (encT 36 (eW2 l x p) 2) x)).toArray,
      .ss 8 ((ηq5 9).blk 0) 0 30 ([.int .i64 (jK ((List.range 2).map (cK (encT 36 (eW2 l x p) 2) x))), .int .i64 (djoin_0 ((List.range 2).map (cK (encT 36 (eW2 l x p) 2) x)))]) #[.int .i64 (jK ((List.range 2).map (cK (encT 36 (eW2 l x p) 2) x))), .int .i64 (djoin_0 ((List.range 2).map (cK (encT 36 (eW2 l x p) 2) x)))]])
    (fun ηq5 L => L ++ [((ηq5 8).blk 0, Obj.cells (rB 64 (dDec2_0 (encT 36 (eW2 l x p) 2) x)).toArray 23 (0, 0)), ((ηq5 9).blk 0, Obj.cells #[.int .i64 (jK ((List.range 2).map (cK (encT 36 (eW2 l x p) 2) x))), .int .i64 (djoin_0 ((List.range 2).map (cK (encT 36 (eW2 l x p) 2) x)))] 30 (0, 0))]) (by kernel_rfl) OW (fun _ => by kernel_rfl) ?_
  clear OW; intro ηq5 ysq5 Wq5 OW
  simp only [↓putE_cons, ↓putE_nil, valE, Hint.val, Act.put, List.setIfInBounds_toArray, List.set_cons_succ, List.set_cons_zero]
  gi_upto_region 6 with fail
  refine wpIn_region_re 9 (fun ηq6 => [.pv (.int .i64 2),
      .cl 14 #[.int .i64 2] (fun E => .bool ((2 == 1) || (2 == 2))) [] [] (fun E => []) (enters_of Try.func14 (by kernel_rfl) rfl) (fun w' H => cB (callsIn_wide.2 (dmode_any 2 w'))),
      .pv (.bool (!((2 == 1) || (2 == 2))))])
    (fun ηq6 L => L) (by kernel_rfl) OW (fun _ => by kernel_rfl) ?_
  clear OW; intro ηq6 ysq6 Wq6 OW
  simp only [↓putE_cons, ↓putE_nil, valE, Hint.val, Act.put, List.setIfInBounds_toArray, List.set_cons_succ, List.set_cons_zero]
  cases hB7 : (!((2 == 1) || (2 == 2)))
  case true => exact absurd (hB7.symm.trans (show _ = false from rfl)) (by decide)
  case false =>
    gi_upto_region 8 with fail
    refine wpIn_region_re 9 (fun ηq8 => [.pv (.int .i64 2),
        .ls (rB 72 (encT 36 (eW2 l x p) 2)) 6 0,
        .ls (rB 64 l) 0 0,
        .pv (.int .i64 x),
        .pv (.bool p),
        .cl 15 #[.int .i64 2, .agg (rB 72 (encT 36 (eW2 l x p) 2)).toArray, .agg (rB 64 l).toArray, .int .i64 x, .bool p] (fun E => .bool true) [] [] (fun E => []) (enters_of Try.func15 (by kernel_rfl) rfl) (fun w' H => cB (callsIn_wide.2 (rend2_any l (by first | rfl | (simp only [List.length_set, List.length_append, List.length_replicate, List.length_cons, List.length_nil, List.length_map, List.length_range, List.length_take, List.length_drop, HEN, HDC, hl]; done) | (simp only [List.length_set, List.length_append, List.length_replicate, List.length_cons, List.length_nil, List.length_map, List.length_range, List.length_take, List.length_drop, HEN, HDC, hl]; omega)) x (by omega) (by omega) p w'))),
        .pv (.bool false),
        .pv (.bool false),
        .ls (rB 72 (encT 36 (eW2 l x p) 2)) 6 0,
        .pv (.int .i64 2),
        .ls (rB 64 l) 0 0,
        .pv (.int .i64 x),
        .pv (.bool p),
        .cl 16 #[.int .i64 2, .agg (rB 64 l).toArray, .int .i64 x, .bool p] (fun E => .agg (rB 72 (encT 36 (eW2 l x p) 2)).toArray) [] [] (fun E => []) (enters_of Try.func16 (by kernel_rfl) rfl) (fun w' H => cB (callsIn_wide.2 (renc2_any l (by first | rfl | (simp only [List.length_set, List.length_append, List.length_replicate, List.length_cons, List.length_nil, List.length_map, List.length_range, List.length_take, List.length_drop, HEN, HDC, hl]; done) | (simp only [List.length_set, List.length_append, List.length_replicate, List.length_cons, List.length_nil, List.length_map, List.length_range, List.length_take, List.length_drop, HEN, HDC, hl]; omega)) x (by omega) (by omega) p w'))),
        .tv (.bool false) (sBin .neq 26 (.tmp 54) (.tmp 59) (.agg (rB 72 (encT 36 (eW2 l x p) 2)).toArray) (.agg (rB 72 (encT 36 (eW2 l x p) 2)).toArray)) (fun _ => bin_neT (xs := rB 72 (encT 36 (eW2 l x p) 2)) (ys := rB 72 (encT 36 (eW2 l x p) 2)) (by kernel_rfl) ((eqc_rB HEN HEN).trans (decide_eq_true rfl))),
        .pk (.bool false)])
      (fun ηq8 L => L) (by kernel_rfl) OW (fun _ => by kernel_rfl) ?_
    clear OW; intro ηq8 ysq8 Wq8 OW
    simp only [↓putE_cons, ↓putE_nil, valE, Hint.val, Act.put, List.setIfInBounds_toArray, List.set_cons_succ, List.set_cons_zero]
    gi_upto_region 10 with fail
    refine wpIn_region_re 9 (fun ηq9 => [.pv (.bool p)])
      (fun ηq9 L => L) (by kernel_rfl) OW (fun _ => by kernel_rfl) ?_
    clear OW; intro ηq9 ysq9 Wq9 OW
    simp only [↓putE_cons, ↓putE_nil, valE, Hint.val, Act.put, List.setIfInBounds_toArray, List.set_cons_succ, List.set_cons_zero]
    cases hB10 : (p)
    case true =>
      gi_upto_region 11 with fail
      refine wpIn_region_re 9 (fun ηq11 => [.ls (rB 64 (dDec2_0 (encT 36 (eW2 l x p) 2) x)) 7 0,
          .pv (.agg (rB 64 (List.replicate 64 0)).toArray),
          .tv (.bool (decide ((dDec2_0 (encT 36 (eW2 l x p) 2) x) = List.replicate 64 0))) (sBin .eql 23 (.tmp 63) (.tmp 64) (.agg (rB 64 (dDec2_0 (encT 36 (eW2 l x p) 2) x)).toArray) (.agg (rB 64 (List.replicate 64 0)).toArray)) (fun _ => bin_eqT (xs := rB 64 (dDec2_0 (encT 36 (eW2 l x p) 2) x)) (ys := rB 64 (List.replicate 64 0)) (by kernel_rfl) (eqc_rB (show ((dDec2_0 (encT 36 (eW2 l x p) 2) x)).length = 64 by first | rfl | (simp only [List.length_set, List.length_append, List.length_replicate, List.length_cons, List.length_nil, List.length_map, List.length_range, List.length_take, List.length_drop, HEN, HDC, hl]; done) | (simp only [List.length_set, List.length_append, List.length_replicate, List.length_cons, List.length_nil, List.length_map, List.length_range, List.length_take, List.length_drop, HEN, HDC, hl]; omega)) List.length_replicate)),
          .pv (.bool (decide ((dDec2_0 (encT 36 (eW2 l x p) 2) x) = List.replicate 64 0))),
          .ls ([.int .i64 (jK ((List.range 2).map (cK (encT 36 (eW2 l x p) 2) x))), .int .i64 (djoin_0 ((List.range 2).map (cK (encT 36 (eW2 l x p) 2) x)))]) 8 0,
          .pv (.agg #[.int .i64 2, .int .i64 0]),
          .tv (.bool ((jK ((List.range 2).map (cK (encT 36 (eW2 l x p) 2) x))) == 2 && ((djoin_0 ((List.range 2).map (cK (encT 36 (eW2 l x p) 2) x))) == 0 && true))) (sBin .eql 30 (.tmp 67) (.tmp 68) (.agg #[.int .i64 (jK ((List.range 2).map (cK (encT 36 (eW2 l x p) 2) x))), .int .i64 (djoin_0 ((List.range 2).map (cK (encT 36 (eW2 l x p) 2) x)))]) (.agg #[.int .i64 2, .int .i64 0])) (fun _ => bin_eqT (xs := [.int .i64 (jK ((List.range 2).map (cK (encT 36 (eW2 l x p) 2) x))), .int .i64 (djoin_0 ((List.range 2).map (cK (encT 36 (eW2 l x p) 2) x)))]) (ys := [.int .i64 2, .int .i64 0]) (by kernel_rfl) (by rfl)),
          .pk (.bool ((decide ((dDec2_0 (encT 36 (eW2 l x p) 2) x) = List.replicate 64 0)) && ((jK ((List.range 2).map (cK (encT 36 (eW2 l x p) 2) x))) == 2 && ((djoin_0 ((List.range 2).map (cK (encT 36 (eW2 l x p) 2) x))) == 0 && true)))),
          .pv (.bool ((decide ((dDec2_0 (encT 36 (eW2 l x p) 2) x) = List.replicate 64 0)) && ((jK ((List.range 2).map (cK (encT 36 (eW2 l x p) 2) x))) == 2 && ((djoin_0 ((List.range 2).map (cK (encT 36 (eW2 l x p) 2) x))) == 0 && true))))])
        (fun ηq11 L => L) (by kernel_rfl) OW (fun _ => by kernel_rfl) ?_
      clear OW; intro ηq11 ysq11 Wq11 OW
      simp only [↓putE_cons, ↓putE_nil, valE, Hint.val, Act.put, List.setIfInBounds_toArray, List.set_cons_succ, List.set_cons_zero]
      gi_wp2
      exact leavesS OW [.t (.bool ((decide ((dDec2_0 (encT 36 (eW2 l x p) 2) x) = List.replicate 64 0)) && ((jK ((List.range 2).map (cK (encT 36 (eW2 l x p) 2) x))) == 2 && ((djoin_0 ((List.range 2).map (cK (encT 36 (eW2 l x p) 2) x))) == 0 && true))))] (by kernel_rfl) fun hO => ⟨(by (try simp only [CodecEncodes2_0]); (repeat (first | rw [hB7] | rw [hB10] | rw [cond_true] | rw [cond_false])); try rfl), hO.done⟩
    gi_upto_region 12 with fail
    refine wpIn_region_re 9 (fun ηq12 => [.ls (rB 64 (dDec2_0 (encT 36 (eW2 l x p) 2) x)) 7 0,
        .ls (rB 64 l) 0 0,
        .tv (.bool (decide ((dDec2_0 (encT 36 (eW2 l x p) 2) x) = l))) (sBin .eql 23 (.tmp 71) (.tmp 72) (.agg (rB 64 (dDec2_0 (encT 36 (eW2 l x p) 2) x)).toArray) (.agg (rB 64 l).toArray)) (fun _ => bin_eqT (xs := rB 64 (dDec2_0 (encT 36 (eW2 l x p) 2) x)) (ys := rB 64 l) (by kernel_rfl) (eqc_rB (show ((dDec2_0 (encT 36 (eW2 l x p) 2) x)).length = 64 by first | rfl | (simp only [List.length_set, List.length_append, List.length_replicate, List.length_cons, List.length_nil, List.length_map, List.length_range, List.length_take, List.length_drop, HEN, HDC, hl]; done) | (simp only [List.length_set, List.length_append, List.length_replicate, List.length_cons, List.length_nil, List.length_map, List.length_range, List.length_take, List.length_drop, HEN, HDC, hl]; omega)) (show (l).length = 64 by first | rfl | (simp only [List.length_set, List.length_append, List.length_replicate, List.length_cons, List.length_nil, List.length_map, List.length_range, List.length_take, List.length_drop, HEN, HDC, hl]; done) | (simp only [List.length_set, List.length_append, List.length_replicate, List.length_cons, List.length_nil, List.length_map, List.length_range, List.length_take, List.length_drop, HEN, HDC, hl]; omega)))),
        .pv (.bool (decide ((dDec2_0 (encT 36 (eW2 l x p) 2) x) = l))),
        .ls ([.int .i64 (jK ((List.range 2).map (cK (encT 36 (eW2 l x p) 2) x))), .int .i64 (djoin_0 ((List.range 2).map (cK (encT 36 (eW2 l x p) 2) x)))]) 8 0,
        .pv (.agg #[.int .i64 0, .int .i64 0]),
        .tv (.bool ((jK ((List.range 2).map (cK (encT 36 (eW2 l x p) 2) x))) == 0 && ((djoin_0 ((List.range 2).map (cK (encT 36 (eW2 l x p) 2) x))) == 0 && true))) (sBin .eql 30 (.tmp 75) (.tmp 76) (.agg #[.int .i64 (jK ((List.range 2).map (cK (encT 36 (eW2 l x p) 2) x))), .int .i64 (djoin_0 ((List.range 2).map (cK (encT 36 (eW2 l x p) 2) x)))]) (.agg #[.int .i64 0, .int .i64 0])) (fun _ => bin_eqT (xs := [.int .i64 (jK ((List.range 2).map (cK (encT 36 (eW2 l x p) 2) x))), .int .i64 (djoin_0 ((List.range 2).map (cK (encT 36 (eW2 l x p) 2) x)))]) (ys := [.int .i64 0, .int .i64 0]) (by kernel_rfl) (by rfl)),
        .pk (.bool ((decide ((dDec2_0 (encT 36 (eW2 l x p) 2) x) = l)) && ((jK ((List.range 2).map (cK (encT 36 (eW2 l x p) 2) x))) == 0 && ((djoin_0 ((List.range 2).map (cK (encT 36 (eW2 l x p) 2) x))) == 0 && true)))),
        .pv (.bool ((decide ((dDec2_0 (encT 36 (eW2 l x p) 2) x) = l)) && ((jK ((List.range 2).map (cK (encT 36 (eW2 l x p) 2) x))) == 0 && ((djoin_0 ((List.range 2).map (cK (encT 36 (eW2 l x p) 2) x))) == 0 && true))))])
      (fun ηq12 L => L) (by kernel_rfl) OW (fun _ => by kernel_rfl) ?_
    clear OW; intro ηq12 ysq12 Wq12 OW
    simp only [↓putE_cons, ↓putE_nil, valE, Hint.val, Act.put, List.setIfInBounds_toArray, List.set_cons_succ, List.set_cons_zero]
    gi_wp2
    exact leavesS OW [.t (.bool ((decide ((dDec2_0 (encT 36 (eW2 l x p) 2) x) = l)) && ((jK ((List.range 2).map (cK (encT 36 (eW2 l x p) 2) x))) == 0 && ((djoin_0 ((List.range 2).map (cK (encT 36 (eW2 l x p) 2) x))) == 0 && true))))] (by kernel_rfl) fun hO => ⟨(by (try simp only [CodecEncodes2_0]); (repeat (first | rw [hB7] | rw [hB10] | rw [cond_true] | rw [cond_false])); try rfl), hO.done⟩
set_option maxRecDepth 100000 in
set_option maxHeartbeats 1000000 in
theorem CodecEncodes0_any (m : Int) (hm1 : m ≠ 1) (hm2 : m ≠ 2) (l : List UInt8) (hl : l.length = 64) (x : Int) (h0 : -9223372036854775808 ≤ x) (h1 : x ≤ 9223372036854775807) (p : Bool) (w : World) : Calls Try.prog 3 #[.int .i64 m, .agg (rB 64 l).toArray, .int .i64 x, .bool p] w fun e w' => e = .returned (.bool true) ∧ Below w.heap.size w w' := by
  have H : Has [] w := has_nil
  have OW : Hid (OwnS [] w [] w) := Lib.hid (OwnS.start H)
  refine (callsIn_wide (n := 6)).1 ?_
  refine callsIn_of_wp_marks Try.func3 rfl trivial ?_ rfl
  simp only [Try.ntmps3, List.size_toArray, List.length_cons, List.length_nil, Nat.reduceAdd, Nat.reduceSub, Array.replicate_succ, Array.replicate_zero, List.push_toArray, List.append_toArray, List.nil_append, List.cons_append]
  gi_upto_region 0 with fail
  refine wpIn_region_re 1 (fun ηq1 => [.bx 0 23 (.agg (rB 64 l).toArray),
      .pv (.bool false)])
    (fun ηq1 L => L ++ [((ηq1 0).blk 0, Obj.cells (rB 64 l).toArray 23 (0, 0))]) (by kernel_rfl) OW (fun _ => by kernel_rfl) ?_
  clear OW; intro ηq1 ysq1 Wq1 OW
  simp only [↓putE_cons, ↓putE_nil, valE, Hint.val, Act.put, List.setIfInBounds_toArray, List.set_cons_succ, List.set_cons_zero]
  gi_upto_region 1 with fail
  refine wpIn_region_re 6 (fun ηq2 => [.cl 11 #[] (fun E => .pointer (some ⟨E.blk 0, 0, none⟩)) [] [] (fun E => [(1, (E.blk 0, Obj.cells #[.pointer (some ⟨E.blk 1, 0, none⟩), .pointer (some ⟨E.blk 2, 0, none⟩)] 61 (0, 0))), (2, (E.blk 1, Obj.cells hsN 102 (0, 0))), (3, (E.blk 2, Obj.cells #[.pointer (some ⟨E.blk 3, 0, none⟩), .slice (some ⟨E.blk 4, 0, none⟩) 5 (5 + (E.rest 0).length)] 109 (0, 0))), (4, (E.blk 3, Obj.cells fieldCells 137 (0, 0))), (5, (E.blk 4, Obj.cells (rowV genL (E.rest 0)) 5 (0, 0)))]) (enters_of Try.func11 (by kernel_rfl) rfl) (fun w' H => callsIn_wide.2 (dcoder_any  w' H)),
      .pv (.pointer (some ⟨(ηq2 0).blk 0, 0, none⟩))])
    (fun ηq2 L => L ++ [((ηq2 0).blk 0, Obj.cells #[.pointer (some ⟨(ηq2 0).blk 1, 0, none⟩), .pointer (some ⟨(ηq2 0).blk 2, 0, none⟩)] 61 (0, 0)), ((ηq2 0).blk 1, Obj.cells hsN 102 (0, 0)), ((ηq2 0).blk 2, Obj.cells #[.pointer (some ⟨(ηq2 0).blk 3, 0, none⟩), .slice (some ⟨(ηq2 0).blk 4, 0, none⟩) 5 (5 + ((ηq2 0).rest 0).length)] 109 (0, 0)), ((ηq2 0).blk 3, Obj.cells fieldCells 137 (0, 0)), ((ηq2 0).blk 4, Obj.cells (rowV genL ((ηq2 0).rest 0)) 5 (0, 0))]) (by kernel_rfl) OW (fun _ => by kernel_rfl) ?_
  clear OW; intro ηq2 ysq2 Wq2 OW
  simp only [↓putE_cons, ↓putE_nil, valE, Hint.val, Act.put, List.setIfInBounds_toArray, List.set_cons_succ, List.set_cons_zero]
  gi_upto_region 2 with fail
  refine wpIn_region_re 6 (fun ηq3 => [.pv (.pointer (some ⟨(ηq2 0).blk 0, 0, none⟩)),
      .pv (.bool false)])
    (fun ηq3 L => L) (by kernel_rfl) OW (fun _ => by kernel_rfl) ?_
  clear OW; intro ηq3 ysq3 Wq3 OW
  simp only [↓putE_cons, ↓putE_nil, valE, Hint.val, Act.put, List.setIfInBounds_toArray, List.set_cons_succ, List.set_cons_zero]
  gi_upto_region 4 with fail
  refine wpIn_region_re 7 (fun ηq4 => [.pv (.pointer (some ⟨(ηq2 0).blk 0, 0, none⟩)),
      .pv (.int .i64 m),
      .ls (rB 64 l) 0 0,
      .pv (.int .i64 x),
      .pv (.bool p),
      .cl 12 #[.pointer (some ⟨(ηq2 0).blk 0, 0, none⟩), .int .i64 m, .agg (rB 64 l).toArray, .int .i64 x, .bool p] (fun E => .agg (rB 72 (List.replicate 72 0)).toArray) [] [] (fun E => []) (enters_of Try.func12 (by kernel_rfl) rfl) (fun w' H => cB (callsIn_wide.2 (dEnc0_any ((ηq2 0).blk 0) m l (by first | rfl | (simp only [List.length_set, List.length_append, List.length_replicate, List.length_cons, List.length_nil, List.length_map, List.length_range, List.length_take, List.length_drop, hl]; done) | (simp only [List.length_set, List.length_append, List.length_replicate, List.length_cons, List.length_nil, List.length_map, List.length_range, List.length_take, List.length_drop, hl]; omega)) x p (by omega) (by omega) w'))),
      .al 6 27 (rB 72 (List.replicate 72 0)).toArray,
      .ss 6 ((ηq4 6).blk 0) 0 27 (rB 72 (List.replicate 72 0)) (rB 72 (List.replicate 72 0)).toArray])
    (fun ηq4 L => L ++ [((ηq4 6).blk 0, Obj.cells (rB 72 (List.replicate 72 0)).toArray 27 (0, 0))]) (by kernel_rfl) OW (fun _ => by kernel_rfl) ?_
  clear OW; intro ηq4 ysq4 Wq4 OW
  simp only [↓putE_cons, ↓putE_nil, valE, Hint.val, Act.put, List.setIfInBounds_toArray, List.set_cons_succ, List.set_cons_zero]
  gi_upto_region 5 with fail
  refine wpIn_region_re 9 (fun ηq5 => [.pv (.pointer (some ⟨(ηq2 0).blk 0, 0, none⟩)),
      .pv (.int .i64 m),
      .ls (rB 72 (List.replicate 72 0)) 6 0,
      .pv (.int .i64 x),
      .cl 13 #[.pointer (some ⟨(ηq2 0).blk 0, 0, none⟩), .int .i64 m, .agg (rB 72 (List.replicate 72 0)).toArray, .int .i64 x] (fun E => .tuple #[.agg (rB 64 (List.replicate 64 0)).toArray, .agg #[.int .i64 3, .int .i64 0]]) [] [] (fun E => []) (enters_of Try.func13 (by kernel_rfl) rfl) (fun w' H => cB (callsIn_wide.2 (dDec0_any ((ηq2 0).blk 0) m (List.replicate 72 0) (by first | rfl | (simp only [List.length_set, List.length_append, List.length_replicate, List.length_cons, List.length_nil, List.length_map, List.length_range, List.length_take, List.length_drop, hl]; done) | (simp only [List.length_set, List.length_append, List.length_replicate, List.length_cons, List.length_nil, List.length_map, List.length_range, List.length_take, List.length_drop, hl]; omega)) x (by omega) (by omega) w'))),
      .pv (.tuple #[.agg (rB 64 (List.replicate 64 0)).toArray, .agg #[.int .i64 3, .int .i64 0]]),
      .pv (.agg (rB 64 (List.replicate 64 0)).toArray),
      .pv (.agg #[.int .i64 3, .int .i64 0]),
      .al 7 23 (rB 64 (List.replicate 64 0)).toArray,
      .al 8 30 #[.int .i64 0, .int .i64 0],
      .ss 7 ((ηq5 8).blk 0) 0 23 (rB 64 (List.replicate 64 0)) (rB 64 (List.replicate 64 0)).toArray,
      .ss 8 ((ηq5 9).blk 0) 0 30 ([.int .i64 3, .int .i64 0]) #[.int .i64 3, .int .i64 0]])
    (fun ηq5 L => L ++ [((ηq5 8).blk 0, Obj.cells (rB 64 (List.replicate 64 0)).toArray 23 (0, 0)), ((ηq5 9).blk 0, Obj.cells #[.int .i64 3, .int .i64 0] 30 (0, 0))]) (by kernel_rfl) OW (fun _ => by kernel_rfl) ?_
  clear OW; intro ηq5 ysq5 Wq5 OW
  simp only [↓putE_cons, ↓putE_nil, valE, Hint.val, Act.put, List.setIfInBounds_toArray, List.set_cons_succ, List.set_cons_zero]
  gi_upto_region 6 with fail
  refine wpIn_region_re 9 (fun ηq6 => [.pv (.int .i64 m),
      .cl 14 #[.int .i64 m] (fun E => .bool ((m == 1) || (m == 2))) [] [] (fun E => []) (enters_of Try.func14 (by kernel_rfl) rfl) (fun w' H => cB (callsIn_wide.2 (dmode_any m w'))),
      .pv (.bool (!((m == 1) || (m == 2))))])
    (fun ηq6 L => L) (by kernel_rfl) OW (fun _ => by kernel_rfl) ?_
  clear OW; intro ηq6 ysq6 Wq6 OW
  simp only [↓putE_cons, ↓putE_nil, valE, Hint.val, Act.put, List.setIfInBounds_toArray, List.set_cons_succ, List.set_cons_zero]
  cases hB7 : (!((m == 1) || (m == 2)))
  case true =>
    gi_upto_region 7 with fail
    refine wpIn_region_re 9 (fun ηq8 => [.ls (rB 72 (List.replicate 72 0)) 6 0,
        .pv (.agg (rB 72 (List.replicate 72 0)).toArray),
        .tv (.bool (decide (List.replicate 72 0 = List.replicate 72 0))) (sBin .eql 27 (.tmp 33) (.tmp 34) (.agg (rB 72 (List.replicate 72 0)).toArray) (.agg (rB 72 (List.replicate 72 0)).toArray)) (fun _ => bin_eqT (xs := rB 72 (List.replicate 72 0)) (ys := rB 72 (List.replicate 72 0)) (by kernel_rfl) (eqc_rB (show (List.replicate 72 0).length = 72 by first | rfl | (simp only [List.length_set, List.length_append, List.length_replicate, List.length_cons, List.length_nil, List.length_map, List.length_range, List.length_take, List.length_drop, hl]; done) | (simp only [List.length_set, List.length_append, List.length_replicate, List.length_cons, List.length_nil, List.length_map, List.length_range, List.length_take, List.length_drop, hl]; omega)) List.length_replicate)),
        .pv (.bool (decide (List.replicate 72 0 = List.replicate 72 0))),
        .ls (rB 64 (List.replicate 64 0)) 7 0,
        .pv (.agg (rB 64 (List.replicate 64 0)).toArray),
        .tv (.bool (decide (List.replicate 64 0 = List.replicate 64 0))) (sBin .eql 23 (.tmp 37) (.tmp 38) (.agg (rB 64 (List.replicate 64 0)).toArray) (.agg (rB 64 (List.replicate 64 0)).toArray)) (fun _ => bin_eqT (xs := rB 64 (List.replicate 64 0)) (ys := rB 64 (List.replicate 64 0)) (by kernel_rfl) (eqc_rB (show (List.replicate 64 0).length = 64 by first | rfl | (simp only [List.length_set, List.length_append, List.length_replicate, List.length_cons, List.length_nil, List.length_map, List.length_range, List.length_take, List.length_drop, hl]; done) | (simp only [List.length_set, List.length_append, List.length_replicate, List.length_cons, List.length_nil, List.length_map, List.length_range, List.length_take, List.length_drop, hl]; omega)) List.length_replicate)),
        .pk (.bool ((decide (List.replicate 72 0 = List.replicate 72 0)) && (decide (List.replicate 64 0 = List.replicate 64 0)))),
        .pv (.bool ((decide (List.replicate 72 0 = List.replicate 72 0)) && (decide (List.replicate 64 0 = List.replicate 64 0)))),
        .ls ([.int .i64 3, .int .i64 0]) 8 0,
        .pv (.agg #[.int .i64 3, .int .i64 0]),
        .tv (.bool (3 == 3 && (0 == 0 && true))) (sBin .eql 30 (.tmp 42) (.tmp 43) (.agg #[.int .i64 3, .int .i64 0]) (.agg #[.int .i64 3, .int .i64 0])) (fun _ => bin_eqT (xs := [.int .i64 3, .int .i64 0]) (ys := [.int .i64 3, .int .i64 0]) (by kernel_rfl) (by rfl)),
        .pk (.bool (((decide (List.replicate 72 0 = List.replicate 72 0)) && (decide (List.replicate 64 0 = List.replicate 64 0))) && (3 == 3 && (0 == 0 && true)))),
        .pv (.bool (((decide (List.replicate 72 0 = List.replicate 72 0)) && (decide (List.replicate 64 0 = List.replicate 64 0))) && (3 == 3 && (0 == 0 && true))))])
      (fun ηq8 L => L) (by kernel_rfl) OW (fun _ => by kernel_rfl) ?_
    clear OW; intro ηq8 ysq8 Wq8 OW
    simp only [↓putE_cons, ↓putE_nil, valE, Hint.val, Act.put, List.setIfInBounds_toArray, List.set_cons_succ, List.set_cons_zero]
    gi_wp2
    exact leavesS OW [.t (.bool (((decide (List.replicate 72 0 = List.replicate 72 0)) && (decide (List.replicate 64 0 = List.replicate 64 0))) && (3 == 3 && (0 == 0 && true))))] (by kernel_rfl) fun hO => ⟨(by rfl), hO.done⟩
  case false => exact absurd (hB7.symm.trans (show _ = true from by rw [beq_false_of_ne hm1, beq_false_of_ne hm2]; rfl)) (by decide)
theorem CodecEncodes1_true {l : List UInt8} (hl : l.length = 64) (x : Int) (p : Bool) : CodecEncodes1_0 l x p = true := by
  unfold CodecEncodes1_0
  cases p with
  | true =>
    have h := mark1 l x
    rw [cond_true, bad1 (Int.le_of_eq h.symm), join2 h, h]
    simp
  | false =>
    obtain ⟨h1, h2⟩ := told1 hl x
    rw [cond_false, h1, join0 h2, h2]
    simp
theorem CodecEncodes2_true {l : List UInt8} (hl : l.length = 64) (x : Int) (p : Bool) : CodecEncodes2_0 l x p = true := by
  unfold CodecEncodes2_0
  cases p with
  | true =>
    have h := mark2 hl x
    rw [cond_true, bad2 (Int.le_of_eq h.symm), join2 h, h]
    simp
  | false =>
    obtain ⟨h1, h2⟩ := told2 hl x
    rw [cond_false, h1, join0 h2, h2]
    simp
theorem CodecEncodes_any (m : Int) (l : List UInt8) (x : Int) (p : Bool) (hl : l.length = 64) (h0 : -9223372036854775808 ≤ x) (h1 : x ≤ 9223372036854775807) (w : World) : Calls Try.prog 3 #[.int .i64 m, .agg (rawV l), .int .i64 x, .bool p] w fun e w' => e = .returned (.bool true) ∧ Below w.heap.size w w' := by
  rw [← rB_raw hl]
  by_cases e1 : m = 1
  · subst e1; rw [← CodecEncodes1_true hl x p]; exact CodecEncodes1_any l hl x h0 h1 p w
  · by_cases e2 : m = 2
    · subst e2; rw [← CodecEncodes2_true hl x p]; exact CodecEncodes2_any l hl x h0 h1 p w
    · exact CodecEncodes0_any m e1 e2 l hl x h0 h1 p w
end Go.Proofs.Ytkeheickaogpiaa
