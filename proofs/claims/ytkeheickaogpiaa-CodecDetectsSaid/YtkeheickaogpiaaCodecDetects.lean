/- CodecDetects, walked. -/
import Derived.Test.YtkeheickaogpiaaCdJ
import Derived.Test.YtkeheickaogpiaaCmM
import Derived.WalkKit
import Derived.Sort.CutIn
import Derived.IntWalk
namespace Go.Proofs.Ytkeheickaogpiaa
open Go Go.RowKit Go.Shelf
attribute [local go_sem] Oper.semAt_some
set_option linter.unusedVariables false
set_option linter.unusedSimpArgs false


def CodecDetects1t_0 (l : List UInt8) (x : Int) (r : List UInt8) : Bool := (bif (decide (1 < ((expo 1 (encT 9 (eW1 l x true) 8) r : Nat) : Int))) || ((decide (((expo 1 (encT 9 (eW1 l x true) 8) r : Nat) : Int) < 2)) && false) then true else (decide (2 ≤ (jK ((List.range 8).map (dK r x))))) && (decide ((dDec1_0 r x) = List.replicate 64 0)))
set_option maxRecDepth 100000 in
set_option maxHeartbeats 1000000 in
theorem CodecDetects1t_any (l : List UInt8) (hl : l.length = 64) (x : Int) (h0 : -9223372036854775808 ≤ x) (h1 : x ≤ 9223372036854775807) (r : List UInt8) (hr : r.length = 72) (w : World) : Calls Try.prog 6 #[.int .i64 1, .agg (rB 64 l).toArray, .int .i64 x, .bool true, .agg (rB 72 r).toArray] w fun e w' => e = .returned (.bool (CodecDetects1t_0 l x r)) ∧ Below w.heap.size w w' := by
  have HEN := fun (l : List UInt8) (x : Int) (p : Bool) => encT_len (n := 9) (eW1_len l x p) (k := 8) (by decide)
  have HDC : ∀ x, (dDec1_0 r x).length = 64 := fun x => by unfold dDec1_0; cases (decide (2 ≤ jK ((List.range 8).map (dK r x)))) <;> simp [fillL_len]
  have H : Has [] w := has_nil
  have OW : Hid (OwnS [] w [] w) := Lib.hid (OwnS.start H)
  refine (callsIn_wide (n := 6)).1 ?_
  refine callsIn_of_wp_marks Try.func6 rfl trivial ?_ rfl
  simp only [Try.ntmps6, List.size_toArray, List.length_cons, List.length_nil, Nat.reduceAdd, Nat.reduceSub, Array.replicate_succ, Array.replicate_zero, List.push_toArray, List.append_toArray, List.nil_append, List.cons_append]
  gi_upto_region 0 with fail
  refine wpIn_region_re 2 (fun ηq1 => [.bx 0 23 (.agg (rB 64 l).toArray),
      .bx 1 27 (.agg (rB 72 r).toArray),
      .pv (.bool false)])
    (fun ηq1 L => L ++ [((ηq1 0).blk 0, Obj.cells (rB 64 l).toArray 23 (0, 0)), ((ηq1 1).blk 0, Obj.cells (rB 72 r).toArray 27 (0, 0))]) (by kernel_rfl) OW (fun _ => by kernel_rfl) ?_
  clear OW; intro ηq1 ysq1 Wq1 OW
  simp only [↓putE_cons, ↓putE_nil, valE, Hint.val, Act.put, List.setIfInBounds_toArray, List.set_cons_succ, List.set_cons_zero]
  gi_upto_region 1 with fail
  refine wpIn_region_re 7 (fun ηq2 => [.cl 11 #[] (fun E => .pointer (some ⟨E.blk 0, 0, none⟩)) [] [] (fun E => [(2, (E.blk 0, Obj.cells #[.pointer (some ⟨E.blk 1, 0, none⟩), .pointer (some ⟨E.blk 2, 0, none⟩)] 61 (0, 0))), (3, (E.blk 1, Obj.cells hsN 102 (0, 0))), (4, (E.blk 2, Obj.cells #[.pointer (some ⟨E.blk 3, 0, none⟩), .slice (some ⟨E.blk 4, 0, none⟩) 5 (5 + (E.rest 0).length)] 109 (0, 0))), (5, (E.blk 3, Obj.cells fieldCells 137 (0, 0))), (6, (E.blk 4, Obj.cells (rowV genL (E.rest 0)) 5 (0, 0)))]) (enters_of Try.func11 (by kernel_rfl) rfl) (fun w' H => callsIn_wide.2 (dcoder_any  w' H)),
      .pv (.pointer (some ⟨(ηq2 0).blk 0, 0, none⟩))])
    (fun ηq2 L => L ++ [((ηq2 0).blk 0, Obj.cells #[.pointer (some ⟨(ηq2 0).blk 1, 0, none⟩), .pointer (some ⟨(ηq2 0).blk 2, 0, none⟩)] 61 (0, 0)), ((ηq2 0).blk 1, Obj.cells hsN 102 (0, 0)), ((ηq2 0).blk 2, Obj.cells #[.pointer (some ⟨(ηq2 0).blk 3, 0, none⟩), .slice (some ⟨(ηq2 0).blk 4, 0, none⟩) 5 (5 + ((ηq2 0).rest 0).length)] 109 (0, 0)), ((ηq2 0).blk 3, Obj.cells fieldCells 137 (0, 0)), ((ηq2 0).blk 4, Obj.cells (rowV genL ((ηq2 0).rest 0)) 5 (0, 0))]) (by kernel_rfl) OW (fun _ => by kernel_rfl) ?_
  clear OW; intro ηq2 ysq2 Wq2 OW
  simp only [↓putE_cons, ↓putE_nil, valE, Hint.val, Act.put, List.setIfInBounds_toArray, List.set_cons_succ, List.set_cons_zero]
  gi_upto_region 2 with fail
  refine wpIn_region_re 7 (fun ηq3 => [.pv (.pointer (some ⟨(ηq2 0).blk 0, 0, none⟩)),
      .pv (.bool false)])
    (fun ηq3 L => L) (by kernel_rfl) OW (fun _ => by kernel_rfl) ?_
  clear OW; intro ηq3 ysq3 Wq3 OW
  simp only [↓putE_cons, ↓putE_nil, valE, Hint.val, Act.put, List.setIfInBounds_toArray, List.set_cons_succ, List.set_cons_zero]
  gi_upto_region 4 with fail
  refine wpIn_region_re 7 (fun ηq4 => [.pv (.int .i64 1),
      .cl 14 #[.int .i64 1] (fun E => .bool ((1 == 1) || (1 == 2))) [] [] (fun E => []) (enters_of Try.func14 (by kernel_rfl) rfl) (fun w' H => cB (callsIn_wide.2 (dmode_any 1 w'))),
      .pv (.bool (!((1 == 1) || (1 == 2))))])
    (fun ηq4 L => L) (by kernel_rfl) OW (fun _ => by kernel_rfl) ?_
  clear OW; intro ηq4 ysq4 Wq4 OW
  simp only [↓putE_cons, ↓putE_nil, valE, Hint.val, Act.put, List.setIfInBounds_toArray, List.set_cons_succ, List.set_cons_zero]
  cases hB5 : (!((1 == 1) || (1 == 2)))
  case true => exact absurd (hB5.symm.trans (show _ = false from rfl)) (by decide)
  case false =>
    gi_upto_region 6 with fail
    refine wpIn_region_re 8 (fun ηq6 => [.pv (.pointer (some ⟨(ηq2 0).blk 0, 0, none⟩)),
        .pv (.int .i64 1),
        .ls (rB 64 l) 0 0,
        .pv (.int .i64 x),
        .pv (.bool true),
        .cl 12 #[.pointer (some ⟨(ηq2 0).blk 0, 0, none⟩), .int .i64 1, .agg (rB 64 l).toArray, .int .i64 x, .bool true] (fun E => .agg (rB 72 (encT 9 (eW1 l x true) 8)).toArray) [(2, ((ηq2 0).blk 0, Obj.cells #[.pointer (some ⟨(ηq2 0).blk 1, 0, none⟩), .pointer (some ⟨(ηq2 0).blk 2, 0, none⟩)] 61 (0, 0))), (3, ((ηq2 0).blk 1, Obj.cells hsN 102 (0, 0)))] [] (fun E => []) (enters_of Try.func12 (by kernel_rfl) rfl) (fun w' H => cN (callsIn_wide.2 (dEnc1_any ((ηq2 0).blk 0) ((ηq2 0).blk 1) ((ηq2 0).blk 2) l (by first | rfl | (simp only [List.length_set, List.length_append, List.length_replicate, List.length_cons, List.length_nil, List.length_map, List.length_range, List.length_take, List.length_drop, HEN, HDC, hl, hr]; done) | (simp only [List.length_set, List.length_append, List.length_replicate, List.length_cons, List.length_nil, List.length_map, List.length_range, List.length_take, List.length_drop, HEN, HDC, hl, hr]; omega)) x (by omega) (by omega) true w' H))),
        .al 7 27 (rB 72 (List.replicate 72 0)).toArray,
        .ss 7 ((ηq6 6).blk 0) 0 27 (rB 72 (encT 9 (eW1 l x true) 8)) (rB 72 (encT 9 (eW1 l x true) 8)).toArray])
      (fun ηq6 L => L ++ [((ηq6 6).blk 0, Obj.cells (rB 72 (encT 9 (eW1 l x true) 8)).toArray 27 (0, 0))]) (by kernel_rfl) OW (fun _ => by kernel_rfl) ?_
    clear OW; intro ηq6 ysq6 Wq6 OW
    simp only [↓putE_cons, ↓putE_nil, valE, Hint.val, Act.put, List.setIfInBounds_toArray, List.set_cons_succ, List.set_cons_zero]
    gi_upto_region 7 with fail
    refine wpIn_region_re 8 (fun ηq7 => [.pv (.int .i64 1),
        .ls (rB 72 (encT 9 (eW1 l x true) 8)) 7 0,
        .ls (rB 72 r) 1 0,
        .cl 18 #[.int .i64 1, .agg (rB 72 (encT 9 (eW1 l x true) 8)).toArray, .agg (rB 72 r).toArray] (fun _ => .int .i64 ((expo 1 (encT 9 (eW1 l x true) 8) r : Nat) : Int)) [] [] (fun _ => []) (enters_of Try.func18 (by kernel_rfl) rfl) (fun w' _ => by rw [rB_raw (n := 72) (xs := encT 9 (eW1 l x true) 8) (show (encT 9 (eW1 l x true) 8).length = 72 by first | rfl | (simp only [List.length_set, List.length_append, List.length_replicate, List.length_cons, List.length_nil, List.length_map, List.length_range, List.length_take, List.length_drop, HEN, HDC, hl, hr]; done) | (simp only [List.length_set, List.length_append, List.length_replicate, List.length_cons, List.length_nil, List.length_map, List.length_range, List.length_take, List.length_drop, HEN, HDC, hl, hr]; omega)), rB_raw (n := 72) (xs := r) (show (r).length = 72 by first | rfl | (simp only [List.length_set, List.length_append, List.length_replicate, List.length_cons, List.length_nil, List.length_map, List.length_range, List.length_take, List.length_drop, HEN, HDC, hl, hr]; done) | (simp only [List.length_set, List.length_append, List.length_replicate, List.length_cons, List.length_nil, List.length_map, List.length_range, List.length_take, List.length_drop, HEN, HDC, hl, hr]; omega))]; exact cB (callsIn_wide.2 (refExp_any 1 (encT 9 (eW1 l x true) 8) r (by first | rfl | (simp only [List.length_set, List.length_append, List.length_replicate, List.length_cons, List.length_nil, List.length_map, List.length_range, List.length_take, List.length_drop, HEN, HDC, hl, hr]; done) | (simp only [List.length_set, List.length_append, List.length_replicate, List.length_cons, List.length_nil, List.length_map, List.length_range, List.length_take, List.length_drop, HEN, HDC, hl, hr]; omega)) (by first | rfl | (simp only [List.length_set, List.length_append, List.length_replicate, List.length_cons, List.length_nil, List.length_map, List.length_range, List.length_take, List.length_drop, HEN, HDC, hl, hr]; done) | (simp only [List.length_set, List.length_append, List.length_replicate, List.length_cons, List.length_nil, List.length_map, List.length_range, List.length_take, List.length_drop, HEN, HDC, hl, hr]; omega)) _))),
        .pv (.int .i64 ((expo 1 (encT 9 (eW1 l x true) 8) r : Nat) : Int))])
      (fun ηq7 L => L) (by kernel_rfl) OW (fun _ => by kernel_rfl) ?_
    clear OW; intro ηq7 ysq7 Wq7 OW
    simp only [↓putE_cons, ↓putE_nil, valE, Hint.val, Act.put, List.setIfInBounds_toArray, List.set_cons_succ, List.set_cons_zero]
    gi_upto_region 8 with fail
    refine wpIn_region_re 8 (fun ηq8 => [.pv (.int .i64 2)])
      (fun ηq8 L => L) (by kernel_rfl) OW (fun _ => by kernel_rfl) ?_
    clear OW; intro ηq8 ysq8 Wq8 OW
    simp only [↓putE_cons, ↓putE_nil, valE, Hint.val, Act.put, List.setIfInBounds_toArray, List.set_cons_succ, List.set_cons_zero]
    gi_upto_region 9 with fail
    refine wpIn_region_re 8 (fun ηq9 => [.pv (.int .i64 1),
        .pv (.bool false)])
      (fun ηq9 L => L) (by kernel_rfl) OW (fun _ => by kernel_rfl) ?_
    clear OW; intro ηq9 ysq9 Wq9 OW
    simp only [↓putE_cons, ↓putE_nil, valE, Hint.val, Act.put, List.setIfInBounds_toArray, List.set_cons_succ, List.set_cons_zero]
    gi_upto_region 11 with fail
    refine wpIn_region_re 8 (fun ηq10 => [.pv (.bool true)])
      (fun ηq10 L => L) (by kernel_rfl) OW (fun _ => by kernel_rfl) ?_
    clear OW; intro ηq10 ysq10 Wq10 OW
    simp only [↓putE_cons, ↓putE_nil, valE, Hint.val, Act.put, List.setIfInBounds_toArray, List.set_cons_succ, List.set_cons_zero]
    gi_upto_region 12 with fail
    refine wpIn_region_re 8 (fun ηq11 => [.pv (.int .i64 2),
        .pv (.int .i64 1),
        .pv (.int .i64 1)])
      (fun ηq11 L => L) (by kernel_rfl) OW (fun _ => by kernel_rfl) ?_
    clear OW; intro ηq11 ysq11 Wq11 OW
    simp only [↓putE_cons, ↓putE_nil, valE, Hint.val, Act.put, List.setIfInBounds_toArray, List.set_cons_succ, List.set_cons_zero]
    gi_upto_region 13 with fail
    refine wpIn_region_re 8 (fun ηq12 => [.pv (.int .i64 ((expo 1 (encT 9 (eW1 l x true) 8) r : Nat) : Int)),
        .pv (.int .i64 1),
        .pv (.bool (decide (1 < ((expo 1 (encT 9 (eW1 l x true) 8) r : Nat) : Int)))),
        .pv (.bool (decide (1 < ((expo 1 (encT 9 (eW1 l x true) 8) r : Nat) : Int)))),
        .pv (.int .i64 ((expo 1 (encT 9 (eW1 l x true) 8) r : Nat) : Int)),
        .pv (.bool (decide (((expo 1 (encT 9 (eW1 l x true) 8) r : Nat) : Int) < 2))),
        .pv (.bool (decide (((expo 1 (encT 9 (eW1 l x true) 8) r : Nat) : Int) < 2))),
        .pv (.bool true),
        .pv (.bool false),
        .pk (.bool ((decide (((expo 1 (encT 9 (eW1 l x true) 8) r : Nat) : Int) < 2)) && false)),
        .pk (.bool ((decide (1 < ((expo 1 (encT 9 (eW1 l x true) 8) r : Nat) : Int))) || ((decide (((expo 1 (encT 9 (eW1 l x true) 8) r : Nat) : Int) < 2)) && false)))])
      (fun ηq12 L => L) (by kernel_rfl) OW (fun _ => by kernel_rfl) ?_
    clear OW; intro ηq12 ysq12 Wq12 OW
    simp only [↓putE_cons, ↓putE_nil, valE, Hint.val, Act.put, List.setIfInBounds_toArray, List.set_cons_succ, List.set_cons_zero]
    cases hB13 : ((decide (1 < ((expo 1 (encT 9 (eW1 l x true) 8) r : Nat) : Int))) || ((decide (((expo 1 (encT 9 (eW1 l x true) 8) r : Nat) : Int) < 2)) && false))
    case true =>
      gi_upto_region 14 with fail
      refine wpIn_region_re 8 (fun ηq14 => [.pv (.bool true)])
        (fun ηq14 L => L) (by kernel_rfl) OW (fun _ => by kernel_rfl) ?_
      clear OW; intro ηq14 ysq14 Wq14 OW
      simp only [↓putE_cons, ↓putE_nil, valE, Hint.val, Act.put, List.setIfInBounds_toArray, List.set_cons_succ, List.set_cons_zero]
      gi_wp2
      exact leavesS OW [.t (.bool true)] (by kernel_rfl) fun hO => ⟨(by (try simp only [CodecDetects1t_0]); (repeat (first | rw [hB5] | rw [hB13] | rw [cond_true] | rw [cond_false])); try rfl), hO.done⟩
    gi_upto_region 15 with fail
    refine wpIn_region_re 10 (fun ηq15 => [.pv (.pointer (some ⟨(ηq2 0).blk 0, 0, none⟩)),
        .pv (.int .i64 1),
        .ls (rB 72 r) 1 0,
        .pv (.int .i64 x),
        .cl 13 #[.pointer (some ⟨(ηq2 0).blk 0, 0, none⟩), .int .i64 1, .agg (rB 72 r).toArray, .int .i64 x] (fun E => .tuple #[.agg (rB 64 (dDec1_0 r x)).toArray, .agg #[.int .i64 (jK ((List.range 8).map (dK r x))), .int .i64 (djoin_0 ((List.range 8).map (dK r x)))]]) [(2, ((ηq2 0).blk 0, Obj.cells #[.pointer (some ⟨(ηq2 0).blk 1, 0, none⟩), .pointer (some ⟨(ηq2 0).blk 2, 0, none⟩)] 61 (0, 0))), (3, ((ηq2 0).blk 1, Obj.cells hsN 102 (0, 0)))] [] (fun E => []) (enters_of Try.func13 (by kernel_rfl) rfl) (fun w' H => cN (callsIn_wide.2 (dDec1_any ((ηq2 0).blk 0) ((ηq2 0).blk 1) ((ηq2 0).blk 2) r (by first | rfl | (simp only [List.length_set, List.length_append, List.length_replicate, List.length_cons, List.length_nil, List.length_map, List.length_range, List.length_take, List.length_drop, HEN, HDC, hl, hr]; done) | (simp only [List.length_set, List.length_append, List.length_replicate, List.length_cons, List.length_nil, List.length_map, List.length_range, List.length_take, List.length_drop, HEN, HDC, hl, hr]; omega)) x (by omega) (by omega) w' H))),
        .pv (.tuple #[.agg (rB 64 (dDec1_0 r x)).toArray, .agg #[.int .i64 (jK ((List.range 8).map (dK r x))), .int .i64 (djoin_0 ((List.range 8).map (dK r x)))]]),
        .pv (.agg (rB 64 (dDec1_0 r x)).toArray),
        .pv (.agg #[.int .i64 (jK ((List.range 8).map (dK r x))), .int .i64 (djoin_0 ((List.range 8).map (dK r x)))]),
        .al 8 23 (rB 64 (List.replicate 64 0)).toArray,
        .al 9 30 #[.int .i64 0, .int .i64 0],
        .ss 8 ((ηq15 8).blk 0) 0 23 (rB 64 (dDec1_0 r x)) (rB 64 (dDec1_0 r x)).toArray,
        .ss 9 ((ηq15 9).blk 0) 0 30 ([.int .i64 (jK ((List.range 8).map (dK r x))), .int .i64 (djoin_0 ((List.range 8).map (dK r x)))]) #[.int .i64 (jK ((List.range 8).map (dK r x))), .int .i64 (djoin_0 ((List.range 8).map (dK r x)))]])
      (fun ηq15 L => L ++ [((ηq15 8).blk 0, Obj.cells (rB 64 (dDec1_0 r x)).toArray 23 (0, 0)), ((ηq15 9).blk 0, Obj.cells #[.int .i64 (jK ((List.range 8).map (dK r x))), .int .i64 (djoin_0 ((List.range 8).map (dK r x)))] 30 (0, 0))]) (by kernel_rfl) OW (fun _ => by kernel_rfl) ?_
    clear OW; intro ηq15 ysq15 Wq15 OW
    simp only [↓putE_cons, ↓putE_nil, valE, Hint.val, Act.put, List.setIfInBounds_toArray, List.set_cons_succ, List.set_cons_zero]
    gi_upto_region 16 with fail
    refine wpIn_region_re 10 (fun ηq16 => [.pv (.pointer (some ⟨(ηq15 9).blk 0, 0, none⟩)),
        .ld (.int .i64 (jK ((List.range 8).map (dK r x)))) 9 0,
        .pv (.bool (decide (2 ≤ (jK ((List.range 8).map (dK r x)))))),
        .pv (.bool (decide (2 ≤ (jK ((List.range 8).map (dK r x)))))),
        .ls (rB 64 (dDec1_0 r x)) 8 0,
        .pv (.agg (rB 64 (List.replicate 64 0)).toArray),
        .tv (.bool (decide ((dDec1_0 r x) = List.replicate 64 0))) (sBin .eql 23 (.tmp 61) (.tmp 62) (.agg (rB 64 (dDec1_0 r x)).toArray) (.agg (rB 64 (List.replicate 64 0)).toArray)) (fun _ => bin_eqT (xs := rB 64 (dDec1_0 r x)) (ys := rB 64 (List.replicate 64 0)) (by kernel_rfl) (eqc_rB (show ((dDec1_0 r x)).length = 64 by first | rfl | (simp only [List.length_set, List.length_append, List.length_replicate, List.length_cons, List.length_nil, List.length_map, List.length_range, List.length_take, List.length_drop, HEN, HDC, hl, hr]; done) | (simp only [List.length_set, List.length_append, List.length_replicate, List.length_cons, List.length_nil, List.length_map, List.length_range, List.length_take, List.length_drop, HEN, HDC, hl, hr]; omega)) List.length_replicate)),
        .pk (.bool ((decide (2 ≤ (jK ((List.range 8).map (dK r x))))) && (decide ((dDec1_0 r x) = List.replicate 64 0)))),
        .pv (.bool ((decide (2 ≤ (jK ((List.range 8).map (dK r x))))) && (decide ((dDec1_0 r x) = List.replicate 64 0))))])
      (fun ηq16 L => L) (by kernel_rfl) OW (fun _ => by kernel_rfl) ?_
    clear OW; intro ηq16 ysq16 Wq16 OW
    simp only [↓putE_cons, ↓putE_nil, valE, Hint.val, Act.put, List.setIfInBounds_toArray, List.set_cons_succ, List.set_cons_zero]
    gi_wp2
    exact leavesS OW [.t (.bool ((decide (2 ≤ (jK ((List.range 8).map (dK r x))))) && (decide ((dDec1_0 r x) = List.replicate 64 0))))] (by kernel_rfl) fun hO => ⟨(by (try simp only [CodecDetects1t_0]); (repeat (first | rw [hB5] | rw [hB13] | rw [cond_true] | rw [cond_false])); try rfl), hO.done⟩
def CodecDetects1f_0 (l : List UInt8) (x : Int) (r : List UInt8) : Bool := (bif (decide (2 < ((expo 1 (encT 9 (eW1 l x false) 8) r : Nat) : Int))) || ((decide (((expo 1 (encT 9 (eW1 l x false) 8) r : Nat) : Int) < 2)) && true) then true else (decide (2 ≤ (jK ((List.range 8).map (dK r x))))) && (decide ((dDec1_0 r x) = List.replicate 64 0)))
set_option maxRecDepth 100000 in
set_option maxHeartbeats 1000000 in
theorem CodecDetects1f_any (l : List UInt8) (hl : l.length = 64) (x : Int) (h0 : -9223372036854775808 ≤ x) (h1 : x ≤ 9223372036854775807) (r : List UInt8) (hr : r.length = 72) (w : World) : Calls Try.prog 6 #[.int .i64 1, .agg (rB 64 l).toArray, .int .i64 x, .bool false, .agg (rB 72 r).toArray] w fun e w' => e = .returned (.bool (CodecDetects1f_0 l x r)) ∧ Below w.heap.size w w' := by
  have HEN := fun (l : List UInt8) (x : Int) (p : Bool) => encT_len (n := 9) (eW1_len l x p) (k := 8) (by decide)
  have HDC : ∀ x, (dDec1_0 r x).length = 64 := fun x => by unfold dDec1_0; cases (decide (2 ≤ jK ((List.range 8).map (dK r x)))) <;> simp [fillL_len]
  have H : Has [] w := has_nil
  have OW : Hid (OwnS [] w [] w) := Lib.hid (OwnS.start H)
  refine (callsIn_wide (n := 6)).1 ?_
  refine callsIn_of_wp_marks Try.func6 rfl trivial ?_ rfl
  simp only [Try.ntmps6, List.size_toArray, List.length_cons, List.length_nil, Nat.reduceAdd, Nat.reduceSub, Array.replicate_succ, Array.replicate_zero, List.push_toArray, List.append_toArray, List.nil_append, List.cons_append]
  gi_upto_region 0 with fail
  refine wpIn_region_re 2 (fun ηq1 => [.bx 0 23 (.agg (rB 64 l).toArray),
      .bx 1 27 (.agg (rB 72 r).toArray),
      .pv (.bool false)])
    (fun ηq1 L => L ++ [((ηq1 0).blk 0, Obj.cells (rB 64 l).toArray 23 (0, 0)), ((ηq1 1).blk 0, Obj.cells (rB 72 r).toArray 27 (0, 0))]) (by kernel_rfl) OW (fun _ => by kernel_rfl) ?_
  clear OW; intro ηq1 ysq1 Wq1 OW
  simp only [↓putE_cons, ↓putE_nil, valE, Hint.val, Act.put, List.setIfInBounds_toArray, List.set_cons_succ, List.set_cons_zero]
  gi_upto_region 1 with fail
  refine wpIn_region_re 7 (fun ηq2 => [.cl 11 #[] (fun E => .pointer (some ⟨E.blk 0, 0, none⟩)) [] [] (fun E => [(2, (E.blk 0, Obj.cells #[.pointer (some ⟨E.blk 1, 0, none⟩), .pointer (some ⟨E.blk 2, 0, none⟩)] 61 (0, 0))), (3, (E.blk 1, Obj.cells hsN 102 (0, 0))), (4, (E.blk 2, Obj.cells #[.pointer (some ⟨E.blk 3, 0, none⟩), .slice (some ⟨E.blk 4, 0, none⟩) 5 (5 + (E.rest 0).length)] 109 (0, 0))), (5, (E.blk 3, Obj.cells fieldCells 137 (0, 0))), (6, (E.blk 4, Obj.cells (rowV genL (E.rest 0)) 5 (0, 0)))]) (enters_of Try.func11 (by kernel_rfl) rfl) (fun w' H => callsIn_wide.2 (dcoder_any  w' H)),
      .pv (.pointer (some ⟨(ηq2 0).blk 0, 0, none⟩))])
    (fun ηq2 L => L ++ [((ηq2 0).blk 0, Obj.cells #[.pointer (some ⟨(ηq2 0).blk 1, 0, none⟩), .pointer (some ⟨(ηq2 0).blk 2, 0, none⟩)] 61 (0, 0)), ((ηq2 0).blk 1, Obj.cells hsN 102 (0, 0)), ((ηq2 0).blk 2, Obj.cells #[.pointer (some ⟨(ηq2 0).blk 3, 0, none⟩), .slice (some ⟨(ηq2 0).blk 4, 0, none⟩) 5 (5 + ((ηq2 0).rest 0).length)] 109 (0, 0)), ((ηq2 0).blk 3, Obj.cells fieldCells 137 (0, 0)), ((ηq2 0).blk 4, Obj.cells (rowV genL ((ηq2 0).rest 0)) 5 (0, 0))]) (by kernel_rfl) OW (fun _ => by kernel_rfl) ?_
  clear OW; intro ηq2 ysq2 Wq2 OW
  simp only [↓putE_cons, ↓putE_nil, valE, Hint.val, Act.put, List.setIfInBounds_toArray, List.set_cons_succ, List.set_cons_zero]
  gi_upto_region 2 with fail
  refine wpIn_region_re 7 (fun ηq3 => [.pv (.pointer (some ⟨(ηq2 0).blk 0, 0, none⟩)),
      .pv (.bool false)])
    (fun ηq3 L => L) (by kernel_rfl) OW (fun _ => by kernel_rfl) ?_
  clear OW; intro ηq3 ysq3 Wq3 OW
  simp only [↓putE_cons, ↓putE_nil, valE, Hint.val, Act.put, List.setIfInBounds_toArray, List.set_cons_succ, List.set_cons_zero]
  gi_upto_region 4 with fail
  refine wpIn_region_re 7 (fun ηq4 => [.pv (.int .i64 1),
      .cl 14 #[.int .i64 1] (fun E => .bool ((1 == 1) || (1 == 2))) [] [] (fun E => []) (enters_of Try.func14 (by kernel_rfl) rfl) (fun w' H => cB (callsIn_wide.2 (dmode_any 1 w'))),
      .pv (.bool (!((1 == 1) || (1 == 2))))])
    (fun ηq4 L => L) (by kernel_rfl) OW (fun _ => by kernel_rfl) ?_
  clear OW; intro ηq4 ysq4 Wq4 OW
  simp only [↓putE_cons, ↓putE_nil, valE, Hint.val, Act.put, List.setIfInBounds_toArray, List.set_cons_succ, List.set_cons_zero]
  cases hB5 : (!((1 == 1) || (1 == 2)))
  case true => exact absurd (hB5.symm.trans (show _ = false from rfl)) (by decide)
  case false =>
    gi_upto_region 6 with fail
    refine wpIn_region_re 8 (fun ηq6 => [.pv (.pointer (some ⟨(ηq2 0).blk 0, 0, none⟩)),
        .pv (.int .i64 1),
        .ls (rB 64 l) 0 0,
        .pv (.int .i64 x),
        .pv (.bool false),
        .cl 12 #[.pointer (some ⟨(ηq2 0).blk 0, 0, none⟩), .int .i64 1, .agg (rB 64 l).toArray, .int .i64 x, .bool false] (fun E => .agg (rB 72 (encT 9 (eW1 l x false) 8)).toArray) [(2, ((ηq2 0).blk 0, Obj.cells #[.pointer (some ⟨(ηq2 0).blk 1, 0, none⟩), .pointer (some ⟨(ηq2 0).blk 2, 0, none⟩)] 61 (0, 0))), (3, ((ηq2 0).blk 1, Obj.cells hsN 102 (0, 0)))] [] (fun E => []) (enters_of Try.func12 (by kernel_rfl) rfl) (fun w' H => cN (callsIn_wide.2 (dEnc1_any ((ηq2 0).blk 0) ((ηq2 0).blk 1) ((ηq2 0).blk 2) l (by first | rfl | (simp only [List.length_set, List.length_append, List.length_replicate, List.length_cons, List.length_nil, List.length_map, List.length_range, List.length_take, List.length_drop, HEN, HDC, hl, hr]; done) | (simp only [List.length_set, List.length_append, List.length_replicate, List.length_cons, List.length_nil, List.length_map, List.length_range, List.length_take, List.length_drop, HEN, HDC, hl, hr]; omega)) x (by omega) (by omega) false w' H))),
        .al 7 27 (rB 72 (List.replicate 72 0)).toArray,
        .ss 7 ((ηq6 6).blk 0) 0 27 (rB 72 (encT 9 (eW1 l x false) 8)) (rB 72 (encT 9 (eW1 l x false) 8)).toArray])
      (fun ηq6 L => L ++ [((ηq6 6).blk 0, Obj.cells (rB 72 (encT 9 (eW1 l x false) 8)).toArray 27 (0, 0))]) (by kernel_rfl) OW (fun _ => by kernel_rfl) ?_
    clear OW; intro ηq6 ysq6 Wq6 OW
    simp only [↓putE_cons, ↓putE_nil, valE, Hint.val, Act.put, List.setIfInBounds_toArray, List.set_cons_succ, List.set_cons_zero]
    gi_upto_region 7 with fail
    refine wpIn_region_re 8 (fun ηq7 => [.pv (.int .i64 1),
        .ls (rB 72 (encT 9 (eW1 l x false) 8)) 7 0,
        .ls (rB 72 r) 1 0,
        .cl 18 #[.int .i64 1, .agg (rB 72 (encT 9 (eW1 l x false) 8)).toArray, .agg (rB 72 r).toArray] (fun _ => .int .i64 ((expo 1 (encT 9 (eW1 l x false) 8) r : Nat) : Int)) [] [] (fun _ => []) (enters_of Try.func18 (by kernel_rfl) rfl) (fun w' _ => by rw [rB_raw (n := 72) (xs := encT 9 (eW1 l x false) 8) (show (encT 9 (eW1 l x false) 8).length = 72 by first | rfl | (simp only [List.length_set, List.length_append, List.length_replicate, List.length_cons, List.length_nil, List.length_map, List.length_range, List.length_take, List.length_drop, HEN, HDC, hl, hr]; done) | (simp only [List.length_set, List.length_append, List.length_replicate, List.length_cons, List.length_nil, List.length_map, List.length_range, List.length_take, List.length_drop, HEN, HDC, hl, hr]; omega)), rB_raw (n := 72) (xs := r) (show (r).length = 72 by first | rfl | (simp only [List.length_set, List.length_append, List.length_replicate, List.length_cons, List.length_nil, List.length_map, List.length_range, List.length_take, List.length_drop, HEN, HDC, hl, hr]; done) | (simp only [List.length_set, List.length_append, List.length_replicate, List.length_cons, List.length_nil, List.length_map, List.length_range, List.length_take, List.length_drop, HEN, HDC, hl, hr]; omega))]; exact cB (callsIn_wide.2 (refExp_any 1 (encT 9 (eW1 l x false) 8) r (by first | rfl | (simp only [List.length_set, List.length_append, List.length_replicate, List.length_cons, List.length_nil, List.length_map, List.length_range, List.length_take, List.length_drop, HEN, HDC, hl, hr]; done) | (simp only [List.length_set, List.length_append, List.length_replicate, List.length_cons, List.length_nil, List.length_map, List.length_range, List.length_take, List.length_drop, HEN, HDC, hl, hr]; omega)) (by first | rfl | (simp only [List.length_set, List.length_append, List.length_replicate, List.length_cons, List.length_nil, List.length_map, List.length_range, List.length_take, List.length_drop, HEN, HDC, hl, hr]; done) | (simp only [List.length_set, List.length_append, List.length_replicate, List.length_cons, List.length_nil, List.length_map, List.length_range, List.length_take, List.length_drop, HEN, HDC, hl, hr]; omega)) _))),
        .pv (.int .i64 ((expo 1 (encT 9 (eW1 l x false) 8) r : Nat) : Int))])
      (fun ηq7 L => L) (by kernel_rfl) OW (fun _ => by kernel_rfl) ?_
    clear OW; intro ηq7 ysq7 Wq7 OW
    simp only [↓putE_cons, ↓putE_nil, valE, Hint.val, Act.put, List.setIfInBounds_toArray, List.set_cons_succ, List.set_cons_zero]
    gi_upto_region 8 with fail
    refine wpIn_region_re 8 (fun ηq8 => [.pv (.int .i64 2)])
      (fun ηq8 L => L) (by kernel_rfl) OW (fun _ => by kernel_rfl) ?_
    clear OW; intro ηq8 ysq8 Wq8 OW
    simp only [↓putE_cons, ↓putE_nil, valE, Hint.val, Act.put, List.setIfInBounds_toArray, List.set_cons_succ, List.set_cons_zero]
    gi_upto_region 9 with fail
    refine wpIn_region_re 8 (fun ηq9 => [.pv (.int .i64 1),
        .pv (.bool false)])
      (fun ηq9 L => L) (by kernel_rfl) OW (fun _ => by kernel_rfl) ?_
    clear OW; intro ηq9 ysq9 Wq9 OW
    simp only [↓putE_cons, ↓putE_nil, valE, Hint.val, Act.put, List.setIfInBounds_toArray, List.set_cons_succ, List.set_cons_zero]
    gi_upto_region 11 with fail
    refine wpIn_region_re 8 (fun ηq10 => [.pv (.bool false)])
      (fun ηq10 L => L) (by kernel_rfl) OW (fun _ => by kernel_rfl) ?_
    clear OW; intro ηq10 ysq10 Wq10 OW
    simp only [↓putE_cons, ↓putE_nil, valE, Hint.val, Act.put, List.setIfInBounds_toArray, List.set_cons_succ, List.set_cons_zero]
    gi_upto_region 13 with fail
    refine wpIn_region_re 8 (fun ηq11 => [.pv (.int .i64 ((expo 1 (encT 9 (eW1 l x false) 8) r : Nat) : Int)),
        .pv (.int .i64 2),
        .pv (.bool (decide (2 < ((expo 1 (encT 9 (eW1 l x false) 8) r : Nat) : Int)))),
        .pv (.bool (decide (2 < ((expo 1 (encT 9 (eW1 l x false) 8) r : Nat) : Int)))),
        .pv (.int .i64 ((expo 1 (encT 9 (eW1 l x false) 8) r : Nat) : Int)),
        .pv (.bool (decide (((expo 1 (encT 9 (eW1 l x false) 8) r : Nat) : Int) < 2))),
        .pv (.bool (decide (((expo 1 (encT 9 (eW1 l x false) 8) r : Nat) : Int) < 2))),
        .pv (.bool false),
        .pv (.bool true),
        .pk (.bool ((decide (((expo 1 (encT 9 (eW1 l x false) 8) r : Nat) : Int) < 2)) && true)),
        .pk (.bool ((decide (2 < ((expo 1 (encT 9 (eW1 l x false) 8) r : Nat) : Int))) || ((decide (((expo 1 (encT 9 (eW1 l x false) 8) r : Nat) : Int) < 2)) && true)))])
      (fun ηq11 L => L) (by kernel_rfl) OW (fun _ => by kernel_rfl) ?_
    clear OW; intro ηq11 ysq11 Wq11 OW
    simp only [↓putE_cons, ↓putE_nil, valE, Hint.val, Act.put, List.setIfInBounds_toArray, List.set_cons_succ, List.set_cons_zero]
    cases hB12 : ((decide (2 < ((expo 1 (encT 9 (eW1 l x false) 8) r : Nat) : Int))) || ((decide (((expo 1 (encT 9 (eW1 l x false) 8) r : Nat) : Int) < 2)) && true))
    case true =>
      gi_upto_region 14 with fail
      refine wpIn_region_re 8 (fun ηq13 => [.pv (.bool true)])
        (fun ηq13 L => L) (by kernel_rfl) OW (fun _ => by kernel_rfl) ?_
      clear OW; intro ηq13 ysq13 Wq13 OW
      simp only [↓putE_cons, ↓putE_nil, valE, Hint.val, Act.put, List.setIfInBounds_toArray, List.set_cons_succ, List.set_cons_zero]
      gi_wp2
      exact leavesS OW [.t (.bool true)] (by kernel_rfl) fun hO => ⟨(by (try simp only [CodecDetects1f_0]); (repeat (first | rw [hB5] | rw [hB12] | rw [cond_true] | rw [cond_false])); try rfl), hO.done⟩
    gi_upto_region 15 with fail
    refine wpIn_region_re 10 (fun ηq14 => [.pv (.pointer (some ⟨(ηq2 0).blk 0, 0, none⟩)),
        .pv (.int .i64 1),
        .ls (rB 72 r) 1 0,
        .pv (.int .i64 x),
        .cl 13 #[.pointer (some ⟨(ηq2 0).blk 0, 0, none⟩), .int .i64 1, .agg (rB 72 r).toArray, .int .i64 x] (fun E => .tuple #[.agg (rB 64 (dDec1_0 r x)).toArray, .agg #[.int .i64 (jK ((List.range 8).map (dK r x))), .int .i64 (djoin_0 ((List.range 8).map (dK r x)))]]) [(2, ((ηq2 0).blk 0, Obj.cells #[.pointer (some ⟨(ηq2 0).blk 1, 0, none⟩), .pointer (some ⟨(ηq2 0).blk 2, 0, none⟩)] 61 (0, 0))), (3, ((ηq2 0).blk 1, Obj.cells hsN 102 (0, 0)))] [] (fun E => []) (enters_of Try.func13 (by kernel_rfl) rfl) (fun w' H => cN (callsIn_wide.2 (dDec1_any ((ηq2 0).blk 0) ((ηq2 0).blk 1) ((ηq2 0).blk 2) r (by first | rfl | (simp only [List.length_set, List.length_append, List.length_replicate, List.length_cons, List.length_nil, List.length_map, List.length_range, List.length_take, List.length_drop, HEN, HDC, hl, hr]; done) | (simp only [List.length_set, List.length_append, List.length_replicate, List.length_cons, List.length_nil, List.length_map, List.length_range, List.length_take, List.length_drop, HEN, HDC, hl, hr]; omega)) x (by omega) (by omega) w' H))),
        .pv (.tuple #[.agg (rB 64 (dDec1_0 r x)).toArray, .agg #[.int .i64 (jK ((List.range 8).map (dK r x))), .int .i64 (djoin_0 ((List.range 8).map (dK r x)))]]),
        .pv (.agg (rB 64 (dDec1_0 r x)).toArray),
        .pv (.agg #[.int .i64 (jK ((List.range 8).map (dK r x))), .int .i64 (djoin_0 ((List.range 8).map (dK r x)))]),
        .al 8 23 (rB 64 (List.replicate 64 0)).toArray,
        .al 9 30 #[.int .i64 0, .int .i64 0],
        .ss 8 ((ηq14 8).blk 0) 0 23 (rB 64 (dDec1_0 r x)) (rB 64 (dDec1_0 r x)).toArray,
        .ss 9 ((ηq14 9).blk 0) 0 30 ([.int .i64 (jK ((List.range 8).map (dK r x))), .int .i64 (djoin_0 ((List.range 8).map (dK r x)))]) #[.int .i64 (jK ((List.range 8).map (dK r x))), .int .i64 (djoin_0 ((List.range 8).map (dK r x)))]])
      (fun ηq14 L => L ++ [((ηq14 8).blk 0, Obj.cells (rB 64 (dDec1_0 r x)).toArray 23 (0, 0)), ((ηq14 9).blk 0, Obj.cells #[.int .i64 (jK ((List.range 8).map (dK r x))), .int .i64 (djoin_0 ((List.range 8).map (dK r x)))] 30 (0, 0))]) (by kernel_rfl) OW (fun _ => by kernel_rfl) ?_
    clear OW; intro ηq14 ysq14 Wq14 OW
    simp only [↓putE_cons, ↓putE_nil, valE, Hint.val, Act.put, List.setIfInBounds_toArray, List.set_cons_succ, List.set_cons_zero]
    gi_upto_region 16 with fail
    refine wpIn_region_re 10 (fun ηq15 => [.pv (.pointer (some ⟨(ηq14 9).blk 0, 0, none⟩)),
        .ld (.int .i64 (jK ((List.range 8).map (dK r x)))) 9 0,
        .pv (.bool (decide (2 ≤ (jK ((List.range 8).map (dK r x)))))),
        .pv (.bool (decide (2 ≤ (jK ((List.range 8).map (dK r x)))))),
        .ls (rB 64 (dDec1_0 r x)) 8 0,
        .pv (.agg (rB 64 (List.replicate 64 0)).toArray),
        .tv (.bool (decide ((dDec1_0 r x) = List.replicate 64 0))) (sBin .eql 23 (.tmp 61) (.tmp 62) (.agg (rB 64 (dDec1_0 r x)).toArray) (.agg (rB 64 (List.replicate 64 0)).toArray)) (fun _ => bin_eqT (xs := rB 64 (dDec1_0 r x)) (ys := rB 64 (List.replicate 64 0)) (by kernel_rfl) (eqc_rB (show ((dDec1_0 r x)).length = 64 by first | rfl | (simp only [List.length_set, List.length_append, List.length_replicate, List.length_cons, List.length_nil, List.length_map, List.length_range, List.length_take, List.length_drop, HEN, HDC, hl, hr]; done) | (simp only [List.length_set, List.length_append, List.length_replicate, List.length_cons, List.length_nil, List.length_map, List.length_range, List.length_take, List.length_drop, HEN, HDC, hl, hr]; omega)) List.length_replicate)),
        .pk (.bool ((decide (2 ≤ (jK ((List.range 8).map (dK r x))))) && (decide ((dDec1_0 r x) = List.replicate 64 0)))),
        .pv (.bool ((decide (2 ≤ (jK ((List.range 8).map (dK r x))))) && (decide ((dDec1_0 r x) = List.replicate 64 0))))])
      (fun ηq15 L => L) (by kernel_rfl) OW (fun _ => by kernel_rfl) ?_
    clear OW; intro ηq15 ysq15 Wq15 OW
    simp only [↓putE_cons, ↓putE_nil, valE, Hint.val, Act.put, List.setIfInBounds_toArray, List.set_cons_succ, List.set_cons_zero]
    gi_wp2
    exact leavesS OW [.t (.bool ((decide (2 ≤ (jK ((List.range 8).map (dK r x))))) && (decide ((dDec1_0 r x) = List.replicate 64 0))))] (by kernel_rfl) fun hO => ⟨(by (try simp only [CodecDetects1f_0]); (repeat (first | rw [hB5] | rw [hB12] | rw [cond_true] | rw [cond_false])); try rfl), hO.done⟩
def CodecDetects2t_0 (l : List UInt8) (x : Int) (r : List UInt8) : Bool := (bif (decide (2 < ((expo 2 (encT 36 (eW2 l x true) 2) r : Nat) : Int))) || ((decide (((expo 2 (encT 36 (eW2 l x true) 2) r : Nat) : Int) < 2)) && false) then true else (decide (2 ≤ (jK ((List.range 2).map (cK r x))))) && (decide ((dDec2_0 r x) = List.replicate 64 0)))
set_option maxRecDepth 100000 in
set_option maxHeartbeats 1000000 in
theorem CodecDetects2t_any (l : List UInt8) (hl : l.length = 64) (x : Int) (h0 : -9223372036854775808 ≤ x) (h1 : x ≤ 9223372036854775807) (r : List UInt8) (hr : r.length = 72) (w : World) : Calls Try.prog 6 #[.int .i64 2, .agg (rB 64 l).toArray, .int .i64 x, .bool true, .agg (rB 72 r).toArray] w fun e w' => e = .returned (.bool (CodecDetects2t_0 l x r)) ∧ Below w.heap.size w w' := by
  have HEN := fun (x : Int) (p : Bool) => encT_len (n := 36) (eW2_len hl x p) (k := 2) (by decide)
  have HDC : ∀ x, (dDec2_0 r x).length = 64 := fun x => by have h9 := halfT_len (hvT_len (cWx_len hr x) (Nat.le_refl 2)) (Nat.le_refl 2); unfold dDec2_0; cases (decide (2 ≤ jK ((List.range 2).map (cK r x)))) <;> simp [h9]
  have H : Has [] w := has_nil
  have OW : Hid (OwnS [] w [] w) := Lib.hid (OwnS.start H)
  refine (callsIn_wide (n := 6)).1 ?_
  refine callsIn_of_wp_marks Try.func6 rfl trivial ?_ rfl
  simp only [Try.ntmps6, List.size_toArray, List.length_cons, List.length_nil, Nat.reduceAdd, Nat.reduceSub, Array.replicate_succ, Array.replicate_zero, List.push_toArray, List.append_toArray, List.nil_append, List.cons_append]
  gi_upto_region 0 with fail
  refine wpIn_region_re 2 (fun ηq1 => [.bx 0 23 (.agg (rB 64 l).toArray),
      .bx 1 27 (.agg (rB 72 r).toArray),
      .pv (.bool false)])
    (fun ηq1 L => L ++ [((ηq1 0).blk 0, Obj.cells (rB 64 l).toArray 23 (0, 0)), ((ηq1 1).blk 0, Obj.cells (rB 72 r).toArray 27 (0, 0))]) (by kernel_rfl) OW (fun _ => by kernel_rfl) ?_
  clear OW; intro ηq1 ysq1 Wq1 OW
  simp only [↓putE_cons, ↓putE_nil, valE, Hint.val, Act.put, List.setIfInBounds_toArray, List.set_cons_succ, List.set_cons_zero]
  gi_upto_region 1 with fail
  refine wpIn_region_re 7 (fun ηq2 => [.cl 11 #[] (fun E => .pointer (some ⟨E.blk 0, 0, none⟩)) [] [] (fun E => [(2, (E.blk 0, Obj.cells #[.pointer (some ⟨E.blk 1, 0, none⟩), .pointer (some ⟨E.blk 2, 0, none⟩)] 61 (0, 0))), (3, (E.blk 1, Obj.cells hsN 102 (0, 0))), (4, (E.blk 2, Obj.cells #[.pointer (some ⟨E.blk 3, 0, none⟩), .slice (some ⟨E.blk 4, 0, none⟩) 5 (5 + (E.rest 0).length)] 109 (0, 0))), (5, (E.blk 3, Obj.cells fieldCells 137 (0, 0))), (6, (E.blk 4, Obj.cells (rowV genL (E.rest 0)) 5 (0, 0)))]) (enters_of Try.func11 (by kernel_rfl) rfl) (fun w' H => callsIn_wide.2 (dcoder_any  w' H)),
      .pv (.pointer (some ⟨(ηq2 0).blk 0, 0, none⟩))])
    (fun ηq2 L => L ++ [((ηq2 0).blk 0, Obj.cells #[.pointer (some ⟨(ηq2 0).blk 1, 0, none⟩), .pointer (some ⟨(ηq2 0).blk 2, 0, none⟩)] 61 (0, 0)), ((ηq2 0).blk 1, Obj.cells hsN 102 (0, 0)), ((ηq2 0).blk 2, Obj.cells #[.pointer (some ⟨(ηq2 0).blk 3, 0, none⟩), .slice (some ⟨(ηq2 0).blk 4, 0, none⟩) 5 (5 + ((ηq2 0).rest 0).length)] 109 (0, 0)), ((ηq2 0).blk 3, Obj.cells fieldCells 137 (0, 0)), ((ηq2 0).blk 4, Obj.cells (rowV genL ((ηq2 0).rest 0)) 5 (0, 0))]) (by kernel_rfl) OW (fun _ => by kernel_rfl) ?_
  clear OW; intro ηq2 ysq2 Wq2 OW
  simp only [↓putE_cons, ↓putE_nil, valE, Hint.val, Act.put, List.setIfInBounds_toArray, List.set_cons_succ, List.set_cons_zero]
  gi_upto_region 2 with fail
  refine wpIn_region_re 7 (fun ηq3 => [.pv (.pointer (some ⟨(ηq2 0).blk 0, 0, none⟩)),
      .pv (.bool false)])
    (fun ηq3 L => L) (by kernel_rfl) OW (fun _ => by kernel_rfl) ?_
  clear OW; intro ηq3 ysq3 Wq3 OW
  simp only [↓putE_cons, ↓putE_nil, valE, Hint.val, Act.put, List.setIfInBounds_toArray, List.set_cons_succ, List.set_cons_zero]
  gi_upto_region 4 with fail
  refine wpIn_region_re 7 (fun ηq4 => [.pv (.int .i64 2),
      .cl 14 #[.int .i64 2] (fun E => .bool ((2 == 1) || (2 == 2))) [] [] (fun E => []) (enters_of Try.func14 (by kernel_rfl) rfl) (fun w' H => cB (callsIn_wide.2 (dmode_any 2 w'))),
      .pv (.bool (!((2 == 1) || (2 == 2))))])
    (fun ηq4 L => L) (by kernel_rfl) OW (fun _ => by kernel_rfl) ?_
  clear OW; intro ηq4 ysq4 Wq4 OW
  simp only [↓putE_cons, ↓putE_nil, valE, Hint.val, Act.put, List.setIfInBounds_toArray, List.set_cons_succ, List.set_cons_zero]
  cases hB5 : (!((2 == 1) || (2 == 2)))
  case true => exact absurd (hB5.symm.trans (show _ = false from rfl)) (by decide)
  case false =>
    gi_upto_region 6 with fail
    refine wpIn_region_re 8 (fun ηq6 => [.pv (.pointer (some ⟨(ηq2 0).blk 0, 0, none⟩)),
        .pv (.int .i64 2),
        .ls (rB 64 l) 0 0,
        .pv (.int .i64 x),
        .pv (.bool true),
        .cl 12 #[.pointer (some ⟨(ηq2 0).blk 0, 0, none⟩), .int .i64 2, .agg (rB 64 l).toArray, .int .i64 x, .bool true] (fun E => .agg (rB 72 (encT 36 (eW2 l x true) 2)).toArray) [(2, ((ηq2 0).blk 0, Obj.cells #[.pointer (some ⟨(ηq2 0).blk 1, 0, none⟩), .pointer (some ⟨(ηq2 0).blk 2, 0, none⟩)] 61 (0, 0))), (4, ((ηq2 0).blk 2, Obj.cells #[.pointer (some ⟨(ηq2 0).blk 3, 0, none⟩), .slice (some ⟨(ηq2 0).blk 4, 0, none⟩) 5 (5 + ((ηq2 0).rest 0).length)] 109 (0, 0))), (5, ((ηq2 0).blk 3, Obj.cells fieldCells 137 (0, 0))), (6, ((ηq2 0).blk 4, Obj.cells (rowV genL ((ηq2 0).rest 0)) 5 (0, 0)))] [] (fun E => []) (enters_of Try.func12 (by kernel_rfl) rfl) (fun w' H => cN (callsIn_wide.2 (dEnc2_any ((ηq2 0).blk 0) ((ηq2 0).blk 1) ((ηq2 0).blk 2) ((ηq2 0).blk 3) ((ηq2 0).blk 4) ((ηq2 0).rest 0) l (by first | rfl | (simp only [List.length_set, List.length_append, List.length_replicate, List.length_cons, List.length_nil, List.length_map, List.length_range, List.length_take, List.length_drop, HEN, HDC, hl, hr]; done) | (simp only [List.length_set, List.length_append, List.length_replicate, List.length_cons, List.length_nil, List.length_map, List.length_range, List.length_take, List.length_drop, HEN, HDC, hl, hr]; omega)) x (by omega) (by omega) true w' H))),
        .al 7 27 (rB 72 (List.replicate 72 0)).toArray,
        .ss 7 ((ηq6 6).blk 0) 0 27 (rB 72 (encT 36 (eW2 l x true) 2)) (rB 72 (encT 36 (eW2 l x true) 2)).toArray])
      (fun ηq6 L => L ++ [((ηq6 6).blk 0, Obj.cells (rB 72 (encT 36 (eW2 l x true) 2)).toArray 27 (0, 0))]) (by kernel_rfl) OW (fun _ => by kernel_rfl) ?_
    clear OW; intro ηq6 ysq6 Wq6 OW
    simp only [↓putE_cons, ↓putE_nil, valE, Hint.val, Act.put, List.setIfInBounds_toArray, List.set_cons_succ, List.set_cons_zero]
    gi_upto_region 7 with fail
    refine wpIn_region_re 8 (fun ηq7 => [.pv (.int .i64 2),
        .ls (rB 72 (encT 36 (eW2 l x true) 2)) 7 0,
        .ls (rB 72 r) 1 0,
        .cl 18 #[.int .i64 2, .agg (rB 72 (encT 36 (eW2 l x true) 2)).toArray, .agg (rB 72 r).toArray] (fun _ => .int .i64 ((expo 2 (encT 36 (eW2 l x true) 2) r : Nat) : Int)) [] [] (fun _ => []) (enters_of Try.func18 (by kernel_rfl) rfl) (fun w' _ => by rw [rB_raw (n := 72) (xs := encT 36 (eW2 l x true) 2) (show (encT 36 (eW2 l x true) 2).length = 72 by first | rfl | (simp only [List.length_set, List.length_append, List.length_replicate, List.length_cons, List.length_nil, List.length_map, List.length_range, List.length_take, List.length_drop, HEN, HDC, hl, hr]; done) | (simp only [List.length_set, List.length_append, List.length_replicate, List.length_cons, List.length_nil, List.length_map, List.length_range, List.length_take, List.length_drop, HEN, HDC, hl, hr]; omega)), rB_raw (n := 72) (xs := r) (show (r).length = 72 by first | rfl | (simp only [List.length_set, List.length_append, List.length_replicate, List.length_cons, List.length_nil, List.length_map, List.length_range, List.length_take, List.length_drop, HEN, HDC, hl, hr]; done) | (simp only [List.length_set, List.length_append, List.length_replicate, List.length_cons, List.length_nil, List.length_map, List.length_range, List.length_take, List.length_drop, HEN, HDC, hl, hr]; omega))]; exact cB (callsIn_wide.2 (refExp_any 2 (encT 36 (eW2 l x true) 2) r (by first | rfl | (simp only [List.length_set, List.length_append, List.length_replicate, List.length_cons, List.length_nil, List.length_map, List.length_range, List.length_take, List.length_drop, HEN, HDC, hl, hr]; done) | (simp only [List.length_set, List.length_append, List.length_replicate, List.length_cons, List.length_nil, List.length_map, List.length_range, List.length_take, List.length_drop, HEN, HDC, hl, hr]; omega)) (by first | rfl | (simp only [List.length_set, List.length_append, List.length_replicate, List.length_cons, List.length_nil, List.length_map, List.length_range, List.length_take, List.length_drop, HEN, HDC, hl, hr]; done) | (simp only [List.length_set, List.length_append, List.length_replicate, List.length_cons, List.length_nil, List.length_map, List.length_range, List.length_take, List.length_drop, HEN, HDC, hl, hr]; omega)) _))),
        .pv (.int .i64 ((expo 2 (encT 36 (eW2 l x true) 2) r : Nat) : Int))])
      (fun ηq7 L => L) (by kernel_rfl) OW (fun _ => by kernel_rfl) ?_
    clear OW; intro ηq7 ysq7 Wq7 OW
    simp only [↓putE_cons, ↓putE_nil, valE, Hint.val, Act.put, List.setIfInBounds_toArray, List.set_cons_succ, List.set_cons_zero]
    gi_upto_region 8 with fail
    refine wpIn_region_re 8 (fun ηq8 => [.pv (.int .i64 2)])
      (fun ηq8 L => L) (by kernel_rfl) OW (fun _ => by kernel_rfl) ?_
    clear OW; intro ηq8 ysq8 Wq8 OW
    simp only [↓putE_cons, ↓putE_nil, valE, Hint.val, Act.put, List.setIfInBounds_toArray, List.set_cons_succ, List.set_cons_zero]
    gi_upto_region 9 with fail
    refine wpIn_region_re 8 (fun ηq9 => [.pv (.int .i64 2),
        .pv (.bool true)])
      (fun ηq9 L => L) (by kernel_rfl) OW (fun _ => by kernel_rfl) ?_
    clear OW; intro ηq9 ysq9 Wq9 OW
    simp only [↓putE_cons, ↓putE_nil, valE, Hint.val, Act.put, List.setIfInBounds_toArray, List.set_cons_succ, List.set_cons_zero]
    gi_upto_region 10 with fail
    refine wpIn_region_re 8 (fun ηq10 => [.pv (.int .i64 3)])
      (fun ηq10 L => L) (by kernel_rfl) OW (fun _ => by kernel_rfl) ?_
    clear OW; intro ηq10 ysq10 Wq10 OW
    simp only [↓putE_cons, ↓putE_nil, valE, Hint.val, Act.put, List.setIfInBounds_toArray, List.set_cons_succ, List.set_cons_zero]
    gi_upto_region 11 with fail
    refine wpIn_region_re 8 (fun ηq11 => [.pv (.bool true)])
      (fun ηq11 L => L) (by kernel_rfl) OW (fun _ => by kernel_rfl) ?_
    clear OW; intro ηq11 ysq11 Wq11 OW
    simp only [↓putE_cons, ↓putE_nil, valE, Hint.val, Act.put, List.setIfInBounds_toArray, List.set_cons_succ, List.set_cons_zero]
    gi_upto_region 12 with fail
    refine wpIn_region_re 8 (fun ηq12 => [.pv (.int .i64 3),
        .pv (.int .i64 2),
        .pv (.int .i64 2)])
      (fun ηq12 L => L) (by kernel_rfl) OW (fun _ => by kernel_rfl) ?_
    clear OW; intro ηq12 ysq12 Wq12 OW
    simp only [↓putE_cons, ↓putE_nil, valE, Hint.val, Act.put, List.setIfInBounds_toArray, List.set_cons_succ, List.set_cons_zero]
    gi_upto_region 13 with fail
    refine wpIn_region_re 8 (fun ηq13 => [.pv (.int .i64 ((expo 2 (encT 36 (eW2 l x true) 2) r : Nat) : Int)),
        .pv (.int .i64 2),
        .pv (.bool (decide (2 < ((expo 2 (encT 36 (eW2 l x true) 2) r : Nat) : Int)))),
        .pv (.bool (decide (2 < ((expo 2 (encT 36 (eW2 l x true) 2) r : Nat) : Int)))),
        .pv (.int .i64 ((expo 2 (encT 36 (eW2 l x true) 2) r : Nat) : Int)),
        .pv (.bool (decide (((expo 2 (encT 36 (eW2 l x true) 2) r : Nat) : Int) < 2))),
        .pv (.bool (decide (((expo 2 (encT 36 (eW2 l x true) 2) r : Nat) : Int) < 2))),
        .pv (.bool true),
        .pv (.bool false),
        .pk (.bool ((decide (((expo 2 (encT 36 (eW2 l x true) 2) r : Nat) : Int) < 2)) && false)),
        .pk (.bool ((decide (2 < ((expo 2 (encT 36 (eW2 l x true) 2) r : Nat) : Int))) || ((decide (((expo 2 (encT 36 (eW2 l x true) 2) r : Nat) : Int) < 2)) && false)))])
      (fun ηq13 L => L) (by kernel_rfl) OW (fun _ => by kernel_rfl) ?_
    clear OW; intro ηq13 ysq13 Wq13 OW
    simp only [↓putE_cons, ↓putE_nil, valE, Hint.val, Act.put, List.setIfInBounds_toArray, List.set_cons_succ, List.set_cons_zero]
    cases hB14 : ((decide (2 < ((expo 2 (encT 36 (eW2 l x true) 2) r : Nat) : Int))) || ((decide (((expo 2 (encT 36 (eW2 l x true) 2) r : Nat) : Int) < 2)) && false))
    case true =>
      gi_upto_region 14 with fail
      refine wpIn_region_re 8 (fun ηq15 => [.pv (.bool true)])
        (fun ηq15 L => L) (by kernel_rfl) OW (fun _ => by kernel_rfl) ?_
      clear OW; intro ηq15 ysq15 Wq15 OW
      simp only [↓putE_cons, ↓putE_nil, valE, Hint.val, Act.put, List.setIfInBounds_toArray, List.set_cons_succ, List.set_cons_zero]
      gi_wp2
      exact leavesS OW [.t (.bool true)] (by kernel_rfl) fun hO => ⟨(by (try simp only [CodecDetects2t_0]); (repeat (first | rw [hB5] | rw [hB14] | rw [cond_true] | rw [cond_false])); try rfl), hO.done⟩
    gi_upto_region 15 with fail
    refine wpIn_region_re 10 (fun ηq16 => [.pv (.pointer (some ⟨(ηq2 0).blk 0, 0, none⟩)),
        .pv (.int .i64 2),
        .ls (rB 72 r) 1 0,
        .pv (.int .i64 x),
        .cl 13 #[.pointer (some ⟨(ηq2 0).blk 0, 0, none⟩), .int .i64 2, .agg (rB 72 r).toArray, .int .i64 x] (fun E => .tuple #[.agg (rB 64 (dDec2_0 r x)).toArray, .agg #[.int .i64 (jK ((List.range 2).map (cK r x))), .int .i64 (djoin_0 ((List.range 2).map (cK r x)))]]) [(2, ((ηq2 0).blk 0, Obj.cells #[.pointer (some ⟨(ηq2 0).blk 1, 0, none⟩), .pointer (some ⟨(ηq2 0).blk 2, 0, none⟩)] 61 (0, 0))), (4, ((ηq2 0).blk 2, Obj.cells #[.pointer (some ⟨(ηq2 0).blk 3, 0, none⟩), .slice (some ⟨(ηq2 0).blk 4, 0, none⟩) 5 (5 + ((ηq2 0).rest 0).length)] 109 (0, 0))), (5, ((ηq2 0).blk 3, Obj.cells fieldCells 137 (0, 0))), (6, ((ηq2 0).blk 4, Obj.cells (rowV genL ((ηq2 0).rest 0)) 5 (0, 0)))] [] (fun E => []) (enters_of Try.func13 (by kernel_rfl) rfl) (fun w' H => cN (callsIn_wide.2 (dDec2_any ((ηq2 0).blk 0) ((ηq2 0).blk 1) ((ηq2 0).blk 2) ((ηq2 0).blk 3) ((ηq2 0).blk 4) ((ηq2 0).rest 0) r (by first | rfl | (simp only [List.length_set, List.length_append, List.length_replicate, List.length_cons, List.length_nil, List.length_map, List.length_range, List.length_take, List.length_drop, HEN, HDC, hl, hr]; done) | (simp only [List.length_set, List.length_append, List.length_replicate, List.length_cons, List.length_nil, List.length_map, List.length_range, List.length_take, List.length_drop, HEN, HDC, hl, hr]; omega)) x (by omega) (by omega) w' H))),
        .pv (.tuple #[.agg (rB 64 (dDec2_0 r x)).toArray, .agg #[.int .i64 (jK ((List.range 2).map (cK r x))), .int .i64 (djoin_0 ((List.range 2).map (cK r x)))]]),
        .pv (.agg (rB 64 (dDec2_0 r x)).toArray),
        .pv (.agg #[.int .i64 (jK ((List.range 2).map (cK r x))), .int .i64 (djoin_0 ((List.range 2).map (cK r x)))]),
        .al 8 23 (rB 64 (List.replicate 64 0)).toArray,
        .al 9 30 #[.int .i64 0, .int .i64 0],
        .ss 8 ((ηq16 8).blk 0) 0 23 (rB 64 (dDec2_0 r x)) (rB 64 (dDec2_0 r x)).toArray,
        .ss 9 ((ηq16 9).blk 0) 0 30 ([.int .i64 (jK ((List.range 2).map (cK r x))), .int .i64 (djoin_0 ((List.range 2).map (cK r x)))]) #[.int .i64 (jK ((List.range 2).map (cK r x))), .int .i64 (djoin_0 ((List.range 2).map (cK r x)))]])
      (fun ηq16 L => L ++ [((ηq16 8).blk 0, Obj.cells (rB 64 (dDec2_0 r x)).toArray 23 (0, 0)), ((ηq16 9).blk 0, Obj.cells #[.int .i64 (jK ((List.range 2).map (cK r x))), .int .i64 (djoin_0 ((List.range 2).map (cK r x)))] 30 (0, 0))]) (by kernel_rfl) OW (fun _ => by kernel_rfl) ?_
    clear OW; intro ηq16 ysq16 Wq16 OW
    simp only [↓putE_cons, ↓putE_nil, valE, Hint.val, Act.put, List.setIfInBounds_toArray, List.set_cons_succ, List.set_cons_zero]
    gi_upto_region 16 with fail
    refine wpIn_region_re 10 (fun ηq17 => [.pv (.pointer (some ⟨(ηq16 9).blk 0, 0, none⟩)),
        .ld (.int .i64 (jK ((List.range 2).map (cK r x)))) 9 0,
        .pv (.bool (decide (2 ≤ (jK ((List.range 2).map (cK r x)))))),
        .pv (.bool (decide (2 ≤ (jK ((List.range 2).map (cK r x)))))),
        .ls (rB 64 (dDec2_0 r x)) 8 0,
        .pv (.agg (rB 64 (List.replicate 64 0)).toArray),
        .tv (.bool (decide ((dDec2_0 r x) = List.replicate 64 0))) (sBin .eql 23 (.tmp 61) (.tmp 62) (.agg (rB 64 (dDec2_0 r x)).toArray) (.agg (rB 64 (List.replicate 64 0)).toArray)) (fun _ => bin_eqT (xs := rB 64 (dDec2_0 r x)) (ys := rB 64 (List.replicate 64 0)) (by kernel_rfl) (eqc_rB (show ((dDec2_0 r x)).length = 64 by first | rfl | (simp only [List.length_set, List.length_append, List.length_replicate, List.length_cons, List.length_nil, List.length_map, List.length_range, List.length_take, List.length_drop, HEN, HDC, hl, hr]; done) | (simp only [List.length_set, List.length_append, List.length_replicate, List.length_cons, List.length_nil, List.length_map, List.length_range, List.length_take, List.length_drop, HEN, HDC, hl, hr]; omega)) List.length_replicate)),
        .pk (.bool ((decide (2 ≤ (jK ((List.range 2).map (cK r x))))) && (decide ((dDec2_0 r x) = List.replicate 64 0)))),
        .pv (.bool ((decide (2 ≤ (jK ((List.range 2).map (cK r x))))) && (decide ((dDec2_0 r x) = List.replicate 64 0))))])
      (fun ηq17 L => L) (by kernel_rfl) OW (fun _ => by kernel_rfl) ?_
    clear OW; intro ηq17 ysq17 Wq17 OW
    simp only [↓putE_cons, ↓putE_nil, valE, Hint.val, Act.put, List.setIfInBounds_toArray, List.set_cons_succ, List.set_cons_zero]
    gi_wp2
    exact leavesS OW [.t (.bool ((decide (2 ≤ (jK ((List.range 2).map (cK r x))))) && (decide ((dDec2_0 r x) = List.replicate 64 0))))] (by kernel_rfl) fun hO => ⟨(by (try simp only [CodecDetects2t_0]); (repeat (first | rw [hB5] | rw [hB14] | rw [cond_true] | rw [cond_false])); try rfl), hO.done⟩
def CodecDetects2f_0 (l : List UInt8) (x : Int) (r : List UInt8) : Bool := (bif (decide (3 < ((expo 2 (encT 36 (eW2 l x false) 2) r : Nat) : Int))) || ((decide (((expo 2 (encT 36 (eW2 l x false) 2) r : Nat) : Int) < 2)) && true) then true else (decide (2 ≤ (jK ((List.range 2).map (cK r x))))) && (decide ((dDec2_0 r x) = List.replicate 64 0)))
set_option maxRecDepth 100000 in
set_option maxHeartbeats 1000000 in
theorem CodecDetects2f_any (l : List UInt8) (hl : l.length = 64) (x : Int) (h0 : -9223372036854775808 ≤ x) (h1 : x ≤ 9223372036854775807) (r : List UInt8) (hr : r.length = 72) (w : World) : Calls Try.prog 6 #[.int .i64 2, .agg (rB 64 l).toArray, .int .i64 x, .bool false, .agg (rB 72 r).toArray] w fun e w' => e = .returned (.bool (CodecDetects2f_0 l x r)) ∧ Below w.heap.size w w' := by
  have HEN := fun (x : Int) (p : Bool) => encT_len (n := 36) (eW2_len hl x p) (k := 2) (by decide)
  have HDC : ∀ x, (dDec2_0 r x).length = 64 := fun x => by have h9 := halfT_len (hvT_len (cWx_len hr x) (Nat.le_refl 2)) (Nat.le_refl 2); unfold dDec2_0; cases (decide (2 ≤ jK ((List.range 2).map (cK r x)))) <;> simp [h9]
  have H : Has [] w := has_nil
  have OW : Hid (OwnS [] w [] w) := Lib.hid (OwnS.start H)
  refine (callsIn_wide (n := 6)).1 ?_
  refine callsIn_of_wp_marks Try.func6 rfl trivial ?_ rfl
  simp only [Try.ntmps6, List.size_toArray, List.length_cons, List.length_nil, Nat.reduceAdd, Nat.reduceSub, Array.replicate_succ, Array.replicate_zero, List.push_toArray, List.append_toArray, List.nil_append, List.cons_append]
  gi_upto_region 0 with fail
  refine wpIn_region_re 2 (fun ηq1 => [.bx 0 23 (.agg (rB 64 l).toArray),
      .bx 1 27 (.agg (rB 72 r).toArray),
      .pv (.bool false)])
    (fun ηq1 L => L ++ [((ηq1 0).blk 0, Obj.cells (rB 64 l).toArray 23 (0, 0)), ((ηq1 1).blk 0, Obj.cells (rB 72 r).toArray 27 (0, 0))]) (by kernel_rfl) OW (fun _ => by kernel_rfl) ?_
  clear OW; intro ηq1 ysq1 Wq1 OW
  simp only [↓putE_cons, ↓putE_nil, valE, Hint.val, Act.put, List.setIfInBounds_toArray, List.set_cons_succ, List.set_cons_zero]
  gi_upto_region 1 with fail
  refine wpIn_region_re 7 (fun ηq2 => [.cl 11 #[] (fun E => .pointer (some ⟨E.blk 0, 0, none⟩)) [] [] (fun E => [(2, (E.blk 0, Obj.cells #[.pointer (some ⟨E.blk 1, 0, none⟩), .pointer (some ⟨E.blk 2, 0, none⟩)] 61 (0, 0))), (3, (E.blk 1, Obj.cells hsN 102 (0, 0))), (4, (E.blk 2, Obj.cells #[.pointer (some ⟨E.blk 3, 0, none⟩), .slice (some ⟨E.blk 4, 0, none⟩) 5 (5 + (E.rest 0).length)] 109 (0, 0))), (5, (E.blk 3, Obj.cells fieldCells 137 (0, 0))), (6, (E.blk 4, Obj.cells (rowV genL (E.rest 0)) 5 (0, 0)))]) (enters_of Try.func11 (by kernel_rfl) rfl) (fun w' H => callsIn_wide.2 (dcoder_any  w' H)),
      .pv (.pointer (some ⟨(ηq2 0).blk 0, 0, none⟩))])
    (fun ηq2 L => L ++ [((ηq2 0).blk 0, Obj.cells #[.pointer (some ⟨(ηq2 0).blk 1, 0, none⟩), .pointer (some ⟨(ηq2 0).blk 2, 0, none⟩)] 61 (0, 0)), ((ηq2 0).blk 1, Obj.cells hsN 102 (0, 0)), ((ηq2 0).blk 2, Obj.cells #[.pointer (some ⟨(ηq2 0).blk 3, 0, none⟩), .slice (some ⟨(ηq2 0).blk 4, 0, none⟩) 5 (5 + ((ηq2 0).rest 0).length)] 109 (0, 0)), ((ηq2 0).blk 3, Obj.cells fieldCells 137 (0, 0)), ((ηq2 0).blk 4, Obj.cells (rowV genL ((ηq2 0).rest 0)) 5 (0, 0))]) (by kernel_rfl) OW (fun _ => by kernel_rfl) ?_
  clear OW; intro ηq2 ysq2 Wq2 OW
  simp only [↓putE_cons, ↓putE_nil, valE, Hint.val, Act.put, List.setIfInBounds_toArray, List.set_cons_succ, List.set_cons_zero]
  gi_upto_region 2 with fail
  refine wpIn_region_re 7 (fun ηq3 => [.pv (.pointer (some ⟨(ηq2 0).blk 0, 0, none⟩)),
      .pv (.bool false)])
    (fun ηq3 L => L) (by kernel_rfl) OW (fun _ => by kernel_rfl) ?_
  clear OW; intro ηq3 ysq3 Wq3 OW
  simp only [↓putE_cons, ↓putE_nil, valE, Hint.val, Act.put, List.setIfInBounds_toArray, List.set_cons_succ, List.set_cons_zero]
  gi_upto_region 4 with fail
  refine wpIn_region_re 7 (fun ηq4 => [.pv (.int .i64 2),
      .cl 14 #[.int .i64 2] (fun E => .bool ((2 == 1) || (2 == 2))) [] [] (fun E => []) (enters_of Try.func14 (by kernel_rfl) rfl) (fun w' H => cB (callsIn_wide.2 (dmode_any 2 w'))),
      .pv (.bool (!((2 == 1) || (2 == 2))))])
    (fun ηq4 L => L) (by kernel_rfl) OW (fun _ => by kernel_rfl) ?_
  clear OW; intro ηq4 ysq4 Wq4 OW
  simp only [↓putE_cons, ↓putE_nil, valE, Hint.val, Act.put, List.setIfInBounds_toArray, List.set_cons_succ, List.set_cons_zero]
  cases hB5 : (!((2 == 1) || (2 == 2)))
  case true => exact absurd (hB5.symm.trans (show _ = false from rfl)) (by decide)
  case false =>
    gi_upto_region 6 with fail
    refine wpIn_region_re 8 (fun ηq6 => [.pv (.pointer (some ⟨(ηq2 0).blk 0, 0, none⟩)),
        .pv (.int .i64 2),
        .ls (rB 64 l) 0 0,
        .pv (.int .i64 x),
        .pv (.bool false),
        .cl 12 #[.pointer (some ⟨(ηq2 0).blk 0, 0, none⟩), .int .i64 2, .agg (rB 64 l).toArray, .int .i64 x, .bool false] (fun E => .agg (rB 72 (encT 36 (eW2 l x false) 2)).toArray) [(2, ((ηq2 0).blk 0, Obj.cells #[.pointer (some ⟨(ηq2 0).blk 1, 0, none⟩), .pointer (some ⟨(ηq2 0).blk 2, 0, none⟩)] 61 (0, 0))), (4, ((ηq2 0).blk 2, Obj.cells #[.pointer (some ⟨(ηq2 0).blk 3, 0, none⟩), .slice (some ⟨(ηq2 0).blk 4, 0, none⟩) 5 (5 + ((ηq2 0).rest 0).length)] 109 (0, 0))), (5, ((ηq2 0).blk 3, Obj.cells fieldCells 137 (0, 0))), (6, ((ηq2 0).blk 4, Obj.cells (rowV genL ((ηq2 0).rest 0)) 5 (0, 0)))] [] (fun E => []) (enters_of Try.func12 (by kernel_rfl) rfl) (fun w' H => cN (callsIn_wide.2 (dEnc2_any ((ηq2 0).blk 0) ((ηq2 0).blk 1) ((ηq2 0).blk 2) ((ηq2 0).blk 3) ((ηq2 0).blk 4) ((ηq2 0).rest 0) l (by first | rfl | (simp only [List.length_set, List.length_append, List.length_replicate, List.length_cons, List.length_nil, List.length_map, List.length_range, List.length_take, List.length_drop, HEN, HDC, hl, hr]; done) | (simp only [List.length_set, List.length_append, List.length_replicate, List.length_cons, List.length_nil, List.length_map, List.length_range, List.length_take, List.length_drop, HEN, HDC, hl, hr]; omega)) x (by omega) (by omega) false w' H))),
        .al 7 27 (rB 72 (List.replicate 72 0)).toArray,
        .ss 7 ((ηq6 6).blk 0) 0 27 (rB 72 (encT 36 (eW2 l x false) 2)) (rB 72 (encT 36 (eW2 l x false) 2)).toArray])
      (fun ηq6 L => L ++ [((ηq6 6).blk 0, Obj.cells (rB 72 (encT 36 (eW2 l x false) 2)).toArray 27 (0, 0))]) (by kernel_rfl) OW (fun _ => by kernel_rfl) ?_
    clear OW; intro ηq6 ysq6 Wq6 OW
    simp only [↓putE_cons, ↓putE_nil, valE, Hint.val, Act.put, List.setIfInBounds_toArray, List.set_cons_succ, List.set_cons_zero]
    gi_upto_region 7 with fail
    refine wpIn_region_re 8 (fun ηq7 => [.pv (.int .i64 2),
        .ls (rB 72 (encT 36 (eW2 l x false) 2)) 7 0,
        .ls (rB 72 r) 1 0,
        .cl 18 #[.int .i64 2, .agg (rB 72 (encT 36 (eW2 l x false) 2)).toArray, .agg (rB 72 r).toArray] (fun _ => .int .i64 ((expo 2 (encT 36 (eW2 l x false) 2) r : Nat) : Int)) [] [] (fun _ => []) (enters_of Try.func18 (by kernel_rfl) rfl) (fun w' _ => by rw [rB_raw (n := 72) (xs := encT 36 (eW2 l x false) 2) (show (encT 36 (eW2 l x false) 2).length = 72 by first | rfl | (simp only [List.length_set, List.length_append, List.length_replicate, List.length_cons, List.length_nil, List.length_map, List.length_range, List.length_take, List.length_drop, HEN, HDC, hl, hr]; done) | (simp only [List.length_set, List.length_append, List.length_replicate, List.length_cons, List.length_nil, List.length_map, List.length_range, List.length_take, List.length_drop, HEN, HDC, hl, hr]; omega)), rB_raw (n := 72) (xs := r) (show (r).length = 72 by first | rfl | (simp only [List.length_set, List.length_append, List.length_replicate, List.length_cons, List.length_nil, List.length_map, List.length_range, List.length_take, List.length_drop, HEN, HDC, hl, hr]; done) | (simp only [List.length_set, List.length_append, List.length_replicate, List.length_cons, List.length_nil, List.length_map, List.length_range, List.length_take, List.length_drop, HEN, HDC, hl, hr]; omega))]; exact cB (callsIn_wide.2 (refExp_any 2 (encT 36 (eW2 l x false) 2) r (by first | rfl | (simp only [List.length_set, List.length_append, List.length_replicate, List.length_cons, List.length_nil, List.length_map, List.length_range, List.length_take, List.length_drop, HEN, HDC, hl, hr]; done) | (simp only [List.length_set, List.length_append, List.length_replicate, List.length_cons, List.length_nil, List.length_map, List.length_range, List.length_take, List.length_drop, HEN, HDC, hl, hr]; omega)) (by first | rfl | (simp only [List.length_set, List.length_append, List.length_replicate, List.length_cons, List.length_nil, List.length_map, List.length_range, List.length_take, List.length_drop, HEN, HDC, hl, hr]; done) | (simp only [List.length_set, List.length_append, List.length_replicate, List.length_cons, List.length_nil, List.length_map, List.length_range, List.length_take, List.length_drop, HEN, HDC, hl, hr]; omega)) _))),
        .pv (.int .i64 ((expo 2 (encT 36 (eW2 l x false) 2) r : Nat) : Int))])
      (fun ηq7 L => L) (by kernel_rfl) OW (fun _ => by kernel_rfl) ?_
    clear OW; intro ηq7 ysq7 Wq7 OW
    simp only [↓putE_cons, ↓putE_nil, valE, Hint.val, Act.put, List.setIfInBounds_toArray, List.set_cons_succ, List.set_cons_zero]
    gi_upto_region 8 with fail
    refine wpIn_region_re 8 (fun ηq8 => [.pv (.int .i64 2)])
      (fun ηq8 L => L) (by kernel_rfl) OW (fun _ => by kernel_rfl) ?_
    clear OW; intro ηq8 ysq8 Wq8 OW
    simp only [↓putE_cons, ↓putE_nil, valE, Hint.val, Act.put, List.setIfInBounds_toArray, List.set_cons_succ, List.set_cons_zero]
    gi_upto_region 9 with fail
    refine wpIn_region_re 8 (fun ηq9 => [.pv (.int .i64 2),
        .pv (.bool true)])
      (fun ηq9 L => L) (by kernel_rfl) OW (fun _ => by kernel_rfl) ?_
    clear OW; intro ηq9 ysq9 Wq9 OW
    simp only [↓putE_cons, ↓putE_nil, valE, Hint.val, Act.put, List.setIfInBounds_toArray, List.set_cons_succ, List.set_cons_zero]
    gi_upto_region 10 with fail
    refine wpIn_region_re 8 (fun ηq10 => [.pv (.int .i64 3)])
      (fun ηq10 L => L) (by kernel_rfl) OW (fun _ => by kernel_rfl) ?_
    clear OW; intro ηq10 ysq10 Wq10 OW
    simp only [↓putE_cons, ↓putE_nil, valE, Hint.val, Act.put, List.setIfInBounds_toArray, List.set_cons_succ, List.set_cons_zero]
    gi_upto_region 11 with fail
    refine wpIn_region_re 8 (fun ηq11 => [.pv (.bool false)])
      (fun ηq11 L => L) (by kernel_rfl) OW (fun _ => by kernel_rfl) ?_
    clear OW; intro ηq11 ysq11 Wq11 OW
    simp only [↓putE_cons, ↓putE_nil, valE, Hint.val, Act.put, List.setIfInBounds_toArray, List.set_cons_succ, List.set_cons_zero]
    gi_upto_region 13 with fail
    refine wpIn_region_re 8 (fun ηq12 => [.pv (.int .i64 ((expo 2 (encT 36 (eW2 l x false) 2) r : Nat) : Int)),
        .pv (.int .i64 3),
        .pv (.bool (decide (3 < ((expo 2 (encT 36 (eW2 l x false) 2) r : Nat) : Int)))),
        .pv (.bool (decide (3 < ((expo 2 (encT 36 (eW2 l x false) 2) r : Nat) : Int)))),
        .pv (.int .i64 ((expo 2 (encT 36 (eW2 l x false) 2) r : Nat) : Int)),
        .pv (.bool (decide (((expo 2 (encT 36 (eW2 l x false) 2) r : Nat) : Int) < 2))),
        .pv (.bool (decide (((expo 2 (encT 36 (eW2 l x false) 2) r : Nat) : Int) < 2))),
        .pv (.bool false),
        .pv (.bool true),
        .pk (.bool ((decide (((expo 2 (encT 36 (eW2 l x false) 2) r : Nat) : Int) < 2)) && true)),
        .pk (.bool ((decide (3 < ((expo 2 (encT 36 (eW2 l x false) 2) r : Nat) : Int))) || ((decide (((expo 2 (encT 36 (eW2 l x false) 2) r : Nat) : Int) < 2)) && true)))])
      (fun ηq12 L => L) (by kernel_rfl) OW (fun _ => by kernel_rfl) ?_
    clear OW; intro ηq12 ysq12 Wq12 OW
    simp only [↓putE_cons, ↓putE_nil, valE, Hint.val, Act.put, List.setIfInBounds_toArray, List.set_cons_succ, List.set_cons_zero]
    cases hB13 : ((decide (3 < ((expo 2 (encT 36 (eW2 l x false) 2) r : Nat) : Int))) || ((decide (((expo 2 (encT 36 (eW2 l x false) 2) r : Nat) : Int) < 2)) && true))
    case true =>
      gi_upto_region 14 with fail
      refine wpIn_region_re 8 (fun ηq14 => [.pv (.bool true)])
        (fun ηq14 L => L) (by kernel_rfl) OW (fun _ => by kernel_rfl) ?_
      clear OW; intro ηq14 ysq14 Wq14 OW
      simp only [↓putE_cons, ↓putE_nil, valE, Hint.val, Act.put, List.setIfInBounds_toArray, List.set_cons_succ, List.set_cons_zero]
      gi_wp2
      exact leavesS OW [.t (.bool true)] (by kernel_rfl) fun hO => ⟨(by (try simp only [CodecDetects2f_0]); (repeat (first | rw [hB5] | rw [hB13] | rw [cond_true] | rw [cond_false])); try rfl), hO.done⟩
    gi_upto_region 15 with fail
    refine wpIn_region_re 10 (fun ηq15 => [.pv (.pointer (some ⟨(ηq2 0).blk 0, 0, none⟩)),
        .pv (.int .i64 2),
        .ls (rB 72 r) 1 0,
        .pv (.int .i64 x),
        .cl 13 #[.pointer (some ⟨(ηq2 0).blk 0, 0, none⟩), .int .i64 2, .agg (rB 72 r).toArray, .int .i64 x] (fun E => .tuple #[.agg (rB 64 (dDec2_0 r x)).toArray, .agg #[.int .i64 (jK ((List.range 2).map (cK r x))), .int .i64 (djoin_0 ((List.range 2).map (cK r x)))]]) [(2, ((ηq2 0).blk 0, Obj.cells #[.pointer (some ⟨(ηq2 0).blk 1, 0, none⟩), .pointer (some ⟨(ηq2 0).blk 2, 0, none⟩)] 61 (0, 0))), (4, ((ηq2 0).blk 2, Obj.cells #[.pointer (some ⟨(ηq2 0).blk 3, 0, none⟩), .slice (some ⟨(ηq2 0).blk 4, 0, none⟩) 5 (5 + ((ηq2 0).rest 0).length)] 109 (0, 0))), (5, ((ηq2 0).blk 3, Obj.cells fieldCells 137 (0, 0))), (6, ((ηq2 0).blk 4, Obj.cells (rowV genL ((ηq2 0).rest 0)) 5 (0, 0)))] [] (fun E => []) (enters_of Try.func13 (by kernel_rfl) rfl) (fun w' H => cN (callsIn_wide.2 (dDec2_any ((ηq2 0).blk 0) ((ηq2 0).blk 1) ((ηq2 0).blk 2) ((ηq2 0).blk 3) ((ηq2 0).blk 4) ((ηq2 0).rest 0) r (by first | rfl | (simp only [List.length_set, List.length_append, List.length_replicate, List.length_cons, List.length_nil, List.length_map, List.length_range, List.length_take, List.length_drop, HEN, HDC, hl, hr]; done) | (simp only [List.length_set, List.length_append, List.length_replicate, List.length_cons, List.length_nil, List.length_map, List.length_range, List.length_take, List.length_drop, HEN, HDC, hl, hr]; omega)) x (by omega) (by omega) w' H))),
        .pv (.tuple #[.agg (rB 64 (dDec2_0 r x)).toArray, .agg #[.int .i64 (jK ((List.range 2).map (cK r x))), .int .i64 (djoin_0 ((List.range 2).map (cK r x)))]]),
        .pv (.agg (rB 64 (dDec2_0 r x)).toArray),
        .pv (.agg #[.int .i64 (jK ((List.range 2).map (cK r x))), .int .i64 (djoin_0 ((List.range 2).map (cK r x)))]),
        .al 8 23 (rB 64 (List.replicate 64 0)).toArray,
        .al 9 30 #[.int .i64 0, .int .i64 0],
        .ss 8 ((ηq15 8).blk 0) 0 23 (rB 64 (dDec2_0 r x)) (rB 64 (dDec2_0 r x)).toArray,
        .ss 9 ((ηq15 9).blk 0) 0 30 ([.int .i64 (jK ((List.range 2).map (cK r x))), .int .i64 (djoin_0 ((List.range 2).map (cK r x)))]) #[.int .i64 (jK ((List.range 2).map (cK r x))), .int .i64 (djoin_0 ((List.range 2).map (cK r x)))]])
      (fun ηq15 L => L ++ [((ηq15 8).blk 0, Obj.cells (rB 64 (dDec2_0 r x)).toArray 23 (0, 0)), ((ηq15 9).blk 0, Obj.cells #[.int .i64 (jK ((List.range 2).map (cK r x))), .int .i64 (djoin_0 ((List.range 2).map (cK r x)))] 30 (0, 0))]) (by kernel_rfl) OW (fun _ => by kernel_rfl) ?_
    clear OW; intro ηq15 ysq15 Wq15 OW
    simp only [↓putE_cons, ↓putE_nil, valE, Hint.val, Act.put, List.setIfInBounds_toArray, List.set_cons_succ, List.set_cons_zero]
    gi_upto_region 16 with fail
    refine wpIn_region_re 10 (fun ηq16 => [.pv (.pointer (some ⟨(ηq15 9).blk 0, 0, none⟩)),
        .ld (.int .i64 (jK ((List.range 2).map (cK r x)))) 9 0,
        .pv (.bool (decide (2 ≤ (jK ((List.range 2).map (cK r x)))))),
        .pv (.bool (decide (2 ≤ (jK ((List.range 2).map (cK r x)))))),
        .ls (rB 64 (dDec2_0 r x)) 8 0,
        .pv (.agg (rB 64 (List.replicate 64 0)).toArray),
        .tv (.bool (decide ((dDec2_0 r x) = List.replicate 64 0))) (sBin .eql 23 (.tmp 61) (.tmp 62) (.agg (rB 64 (dDec2_0 r x)).toArray) (.agg (rB 64 (List.replicate 64 0)).toArray)) (fun _ => bin_eqT (xs := rB 64 (dDec2_0 r x)) (ys := rB 64 (List.replicate 64 0)) (by kernel_rfl) (eqc_rB (show ((dDec2_0 r x)).length = 64 by first | rfl | (simp only [List.length_set, List.length_append, List.length_replicate, List.length_cons, List.length_nil, List.length_map, List.length_range, List.length_take, List.length_drop, HEN, HDC, hl, hr]; done) | (simp only [List.length_set, List.length_append, List.length_replicate, List.length_cons, List.length_nil, List.length_map, List.length_range, List.length_take, List.length_drop, HEN, HDC, hl, hr]; omega)) List.length_replicate)),
        .pk (.bool ((decide (2 ≤ (jK ((List.range 2).map (cK r x))))) && (decide ((dDec2_0 r x) = List.replicate 64 0)))),
        .pv (.bool ((decide (2 ≤ (jK ((List.range 2).map (cK r x))))) && (decide ((dDec2_0 r x) = List.replicate 64 0))))])
      (fun ηq16 L => L) (by kernel_rfl) OW (fun _ => by kernel_rfl) ?_
    clear OW; intro ηq16 ysq16 Wq16 OW
    simp only [↓putE_cons, ↓putE_nil, valE, Hint.val, Act.put, List.setIfInBounds_toArray, List.set_cons_succ, List.set_cons_zero]
    gi_wp2
    exact leavesS OW [.t (.bool ((decide (2 ≤ (jK ((List.range 2).map (cK r x))))) && (decide ((dDec2_0 r x) = List.replicate 64 0))))] (by kernel_rfl) fun hO => ⟨(by (try simp only [CodecDetects2f_0]); (repeat (first | rw [hB5] | rw [hB13] | rw [cond_true] | rw [cond_false])); try rfl), hO.done⟩
set_option maxRecDepth 100000 in
set_option maxHeartbeats 1000000 in
theorem CodecDetects0_any (m : Int) (hm1 : m ≠ 1) (hm2 : m ≠ 2) (l : List UInt8) (hl : l.length = 64) (x : Int) (h0 : -9223372036854775808 ≤ x) (h1 : x ≤ 9223372036854775807) (p : Bool) (r : List UInt8) (hr : r.length = 72) (w : World) : Calls Try.prog 6 #[.int .i64 m, .agg (rB 64 l).toArray, .int .i64 x, .bool p, .agg (rB 72 r).toArray] w fun e w' => e = .returned (.bool true) ∧ Below w.heap.size w w' := by
  have H : Has [] w := has_nil
  have OW : Hid (OwnS [] w [] w) := Lib.hid (OwnS.start H)
  refine (callsIn_wide (n := 6)).1 ?_
  refine callsIn_of_wp_marks Try.func6 rfl trivial ?_ rfl
  simp only [Try.ntmps6, List.size_toArray, List.length_cons, List.length_nil, Nat.reduceAdd, Nat.reduceSub, Array.replicate_succ, Array.replicate_zero, List.push_toArray, List.append_toArray, List.nil_append, List.cons_append]
  gi_upto_region 0 with fail
  refine wpIn_region_re 2 (fun ηq1 => [.bx 0 23 (.agg (rB 64 l).toArray),
      .bx 1 27 (.agg (rB 72 r).toArray),
      .pv (.bool false)])
    (fun ηq1 L => L ++ [((ηq1 0).blk 0, Obj.cells (rB 64 l).toArray 23 (0, 0)), ((ηq1 1).blk 0, Obj.cells (rB 72 r).toArray 27 (0, 0))]) (by kernel_rfl) OW (fun _ => by kernel_rfl) ?_
  clear OW; intro ηq1 ysq1 Wq1 OW
  simp only [↓putE_cons, ↓putE_nil, valE, Hint.val, Act.put, List.setIfInBounds_toArray, List.set_cons_succ, List.set_cons_zero]
  gi_upto_region 1 with fail
  refine wpIn_region_re 7 (fun ηq2 => [.cl 11 #[] (fun E => .pointer (some ⟨E.blk 0, 0, none⟩)) [] [] (fun E => [(2, (E.blk 0, Obj.cells #[.pointer (some ⟨E.blk 1, 0, none⟩), .pointer (some ⟨E.blk 2, 0, none⟩)] 61 (0, 0))), (3, (E.blk 1, Obj.cells hsN 102 (0, 0))), (4, (E.blk 2, Obj.cells #[.pointer (some ⟨E.blk 3, 0, none⟩), .slice (some ⟨E.blk 4, 0, none⟩) 5 (5 + (E.rest 0).length)] 109 (0, 0))), (5, (E.blk 3, Obj.cells fieldCells 137 (0, 0))), (6, (E.blk 4, Obj.cells (rowV genL (E.rest 0)) 5 (0, 0)))]) (enters_of Try.func11 (by kernel_rfl) rfl) (fun w' H => callsIn_wide.2 (dcoder_any  w' H)),
      .pv (.pointer (some ⟨(ηq2 0).blk 0, 0, none⟩))])
    (fun ηq2 L => L ++ [((ηq2 0).blk 0, Obj.cells #[.pointer (some ⟨(ηq2 0).blk 1, 0, none⟩), .pointer (some ⟨(ηq2 0).blk 2, 0, none⟩)] 61 (0, 0)), ((ηq2 0).blk 1, Obj.cells hsN 102 (0, 0)), ((ηq2 0).blk 2, Obj.cells #[.pointer (some ⟨(ηq2 0).blk 3, 0, none⟩), .slice (some ⟨(ηq2 0).blk 4, 0, none⟩) 5 (5 + ((ηq2 0).rest 0).length)] 109 (0, 0)), ((ηq2 0).blk 3, Obj.cells fieldCells 137 (0, 0)), ((ηq2 0).blk 4, Obj.cells (rowV genL ((ηq2 0).rest 0)) 5 (0, 0))]) (by kernel_rfl) OW (fun _ => by kernel_rfl) ?_
  clear OW; intro ηq2 ysq2 Wq2 OW
  simp only [↓putE_cons, ↓putE_nil, valE, Hint.val, Act.put, List.setIfInBounds_toArray, List.set_cons_succ, List.set_cons_zero]
  gi_upto_region 2 with fail
  refine wpIn_region_re 7 (fun ηq3 => [.pv (.pointer (some ⟨(ηq2 0).blk 0, 0, none⟩)),
      .pv (.bool false)])
    (fun ηq3 L => L) (by kernel_rfl) OW (fun _ => by kernel_rfl) ?_
  clear OW; intro ηq3 ysq3 Wq3 OW
  simp only [↓putE_cons, ↓putE_nil, valE, Hint.val, Act.put, List.setIfInBounds_toArray, List.set_cons_succ, List.set_cons_zero]
  gi_upto_region 4 with fail
  refine wpIn_region_re 7 (fun ηq4 => [.pv (.int .i64 m),
      .cl 14 #[.int .i64 m] (fun E => .bool ((m == 1) || (m == 2))) [] [] (fun E => []) (enters_of Try.func14 (by kernel_rfl) rfl) (fun w' H => cB (callsIn_wide.2 (dmode_any m w'))),
      .pv (.bool (!((m == 1) || (m == 2))))])
    (fun ηq4 L => L) (by kernel_rfl) OW (fun _ => by kernel_rfl) ?_
  clear OW; intro ηq4 ysq4 Wq4 OW
  simp only [↓putE_cons, ↓putE_nil, valE, Hint.val, Act.put, List.setIfInBounds_toArray, List.set_cons_succ, List.set_cons_zero]
  cases hB5 : (!((m == 1) || (m == 2)))
  case true =>
    gi_upto_region 5 with fail
    refine wpIn_region_re 7 (fun ηq6 => [.pv (.bool true)])
      (fun ηq6 L => L) (by kernel_rfl) OW (fun _ => by kernel_rfl) ?_
    clear OW; intro ηq6 ysq6 Wq6 OW
    simp only [↓putE_cons, ↓putE_nil, valE, Hint.val, Act.put, List.setIfInBounds_toArray, List.set_cons_succ, List.set_cons_zero]
    gi_wp2
    exact leavesS OW [.t (.bool true)] (by kernel_rfl) fun hO => ⟨(by rfl), hO.done⟩
  case false => exact absurd (hB5.symm.trans (show _ = true from by rw [beq_false_of_ne hm1, beq_false_of_ne hm2]; rfl)) (by decide)
theorem CodecDetects1_true {l : List UInt8} (x : Int) {r : List UInt8} (hr : r.length = 72) : CodecDetects1t_0 l x r = true ∧ CodecDetects1f_0 l x r = true := by
  unfold CodecDetects1t_0 CodecDetects1f_0
  constructor
  · by_cases h : expo 1 (encT 9 (eW1 l x true) 8) r ≤ 1
    · have h1 := poison1 (l := l) (x := x) hr h
      rw [bad1 h1, decide_eq_true h1]; simp
    · rw [decide_eq_true (by omega), Bool.true_or, cond_true]
  · by_cases h : expo 1 (encT 9 (eW1 l x false) 8) r = 2
    · have h1 := lost1 (l := l) (x := x) hr h
      rw [bad1 h1, decide_eq_true h1]; simp
    · by_cases h2 : expo 1 (encT 9 (eW1 l x false) 8) r < 2
      · rw [decide_eq_true (p := ((expo 1 (encT 9 (eW1 l x false) 8) r : Nat) : Int) < 2) (by omega), Bool.and_true, Bool.or_true, cond_true]
      · rw [decide_eq_true (by omega), Bool.true_or, cond_true]
theorem CodecDetects2_true {l : List UInt8} (hl : l.length = 64) (x : Int) {r : List UInt8} (hr : r.length = 72) : CodecDetects2t_0 l x r = true ∧ CodecDetects2f_0 l x r = true := by
  unfold CodecDetects2t_0 CodecDetects2f_0
  constructor
  · by_cases h : expo 2 (encT 36 (eW2 l x true) 2) r ≤ 2
    · have h1 := poison2 hl (x := x) hr h
      rw [bad2 h1, decide_eq_true h1]; simp
    · rw [decide_eq_true (by omega), Bool.true_or, cond_true]
  · by_cases h : 2 ≤ expo 2 (encT 36 (eW2 l x false) 2) r ∧ expo 2 (encT 36 (eW2 l x false) 2) r ≤ 3
    · have h1 := lost2 hl (x := x) hr h.1 h.2
      have h2 : 2 ≤ jK ((List.range 2).map (cK r x)) := by omega
      rw [bad2 h2, decide_eq_true h2]; simp
    · by_cases h2 : expo 2 (encT 36 (eW2 l x false) 2) r < 2
      · rw [decide_eq_true (p := ((expo 2 (encT 36 (eW2 l x false) 2) r : Nat) : Int) < 2) (by omega), Bool.and_true, Bool.or_true, cond_true]
      · rw [decide_eq_true (by omega), Bool.true_or, cond_true]
theorem CodecDetects_any (m : Int) (l : List UInt8) (x : Int) (p : Bool) (r : List UInt8) (hl : l.length = 64) (h0 : -9223372036854775808 ≤ x) (h1 : x ≤ 9223372036854775807) (hr : r.length = 72) (w : World) : Calls Try.prog 6 #[.int .i64 m, .agg (rawV l), .int .i64 x, .bool p, .agg (rawV r)] w fun e w' => e = .returned (.bool true) ∧ Below w.heap.size w w' := by
  rw [← rB_raw hl, ← rB_raw hr]
  by_cases e1 : m = 1
  · subst e1
    cases p with
    | true => have h := CodecDetects1t_any l hl x h0 h1 r hr w; rw [(CodecDetects1_true x hr).1] at h; exact h
    | false => have h := CodecDetects1f_any l hl x h0 h1 r hr w; rw [(CodecDetects1_true x hr).2] at h; exact h
  · by_cases e2 : m = 2
    · subst e2
      cases p with
      | true => have h := CodecDetects2t_any l hl x h0 h1 r hr w; rw [(CodecDetects2_true hl x hr).1] at h; exact h
      | false => have h := CodecDetects2f_any l hl x h0 h1 r hr w; rw [(CodecDetects2_true hl x hr).2] at h; exact h
    · exact CodecDetects0_any m e1 e2 l hl x h0 h1 p r hr w
end Go.Proofs.Ytkeheickaogpiaa
