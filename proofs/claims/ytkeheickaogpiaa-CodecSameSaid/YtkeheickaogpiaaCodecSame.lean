/- CodecSame, walked. -/
import Derived.Test.YtkeheickaogpiaaCdJ
import Derived.Test.YtkeheickaogpiaaCmM
import Derived.WalkKit
import Derived.Sort.CutIn
import Derived.IntWalk
namespace Go.Proofs.Ytkeheickaogpiaa
open Go Go.RowKit Go.Shelf
attribute [local go_sem] Oper.semAt_some
set_option linter.unusedVariables false
set_option linter.unusedSimpArgs false


def CodecSame1_0 (l : List UInt8) (m : List UInt8) (x : Int) (p : Bool) (q : Bool) : Bool := (bif (decide (l = m)) && (p == q) then decide (encT 9 (eW1 l x p) 8 = encT 9 (eW1 m x q) 8) else (bif p != q then decide (3 ≤ ((expo 1 (encT 9 (eW1 l x p) 8) (encT 9 (eW1 m x q) 8) : Nat) : Int)) else decide (4 ≤ ((expo 1 (encT 9 (eW1 l x p) 8) (encT 9 (eW1 m x q) 8) : Nat) : Int))))
set_option maxRecDepth 100000 in
set_option maxHeartbeats 1000000 in
theorem CodecSame1_any (l : List UInt8) (hl : l.length = 64) (m : List UInt8) (hm : m.length = 64) (x : Int) (h0 : -9223372036854775808 ≤ x) (h1 : x ≤ 9223372036854775807) (p q : Bool) (w : World) : Calls Try.prog 8 #[.int .i64 1, .agg (rB 64 l).toArray, .agg (rB 64 m).toArray, .int .i64 x, .bool p, .bool q] w fun e w' => e = .returned (.bool (CodecSame1_0 l m x p q)) ∧ Below w.heap.size w w' := by
  have HEN := fun (l : List UInt8) (x : Int) (p : Bool) => encT_len (n := 9) (eW1_len l x p) (k := 8) (by decide)
  have H : Has [] w := has_nil
  have OW : Hid (OwnS [] w [] w) := Lib.hid (OwnS.start H)
  refine (callsIn_wide (n := 6)).1 ?_
  refine callsIn_of_wp_marks Try.func8 rfl trivial ?_ rfl
  simp only [Try.ntmps8, List.size_toArray, List.length_cons, List.length_nil, Nat.reduceAdd, Nat.reduceSub, Array.replicate_succ, Array.replicate_zero, List.push_toArray, List.append_toArray, List.nil_append, List.cons_append]
  gi_upto_region 0 with fail
  refine wpIn_region_re 2 (fun ηq1 => [.bx 0 23 (.agg (rB 64 l).toArray),
      .bx 1 23 (.agg (rB 64 m).toArray),
      .pv (.bool false)])
    (fun ηq1 L => L ++ [((ηq1 0).blk 0, Obj.cells (rB 64 l).toArray 23 (0, 0)), ((ηq1 1).blk 0, Obj.cells (rB 64 m).toArray 23 (0, 0))]) (by kernel_rfl) OW (fun _ => by kernel_rfl) ?_
  clear OW; intro ηq1 ysq1 Wq1 OW
  simp only [↓putE_cons, ↓putE_nil, valE, Hint.val, Act.put, List.setIfInBounds_toArray, List.set_cons_succ, List.set_cons_zero]
  gi_upto_region 1 with fail
  refine wpIn_region_re 7 (fun ηq2 => [.cl 11 #[] (fun E => .pointer (some ⟨E.blk 0, 0, none⟩)) [] [] (fun E => [(2, (E.blk 0, Obj.cells #[.pointer (some ⟨E.blk 1, 0, none⟩), .pointer (some ⟨E.blk 2, 0, none⟩)] 61 (0, 0))), (3, (E.blk 1, Obj.cells hsN 102 (0, 0))), (4, (E.blk 2, Obj.cells #[.pointer (some ⟨E.blk 3, 0, none⟩), .slice (some ⟨E.blk 4, 0, none⟩) 5 (5 + (E.rest 0).length)] 109 (0, 0))), (5, (E.blk 3, Obj.cells fieldCells 137 (0, 0))), (6, (E.blk 4, Obj.cells (rowV genL (E.rest 0)) 5 (0, 0)))]) (enters_of Try.func11 (by kernel_rfl) rfl) (fun w' H => callsIn_wide.2 (dcoder_any  w' H)),
      .pv (.pointer (some ⟨(ηq2 0).blk 0, 0, none⟩))])
    (fun ηq2 L => L ++ [((ηq2 0).blk 0, Obj.cells #[.pointer (some ⟨(ηq2 0).blk 1, 0, none⟩), .pointer (some ⟨(ηq2 0).blk 2, 0, none⟩)] 61 (0, 0)), ((ηq2 0).blk 1, Obj.cells hsN 102 (0, 0)), ((ηq2 0).blk 2, Obj.cells #[.pointer (some ⟨(ηq2 0).blk 3, 0, none⟩), .slice (some ⟨(ηq2 0).blk 4, 0, none⟩) 5 (5 + ((ηq2 0).rest 0).length)] 109 (0, 0)), ((ηq2 0).blk 3, Obj.cells fieldCells 137 (0, 0)), ((ηq2 0).blk 4, Obj.cells (rowV genL ((ηq2 0).rest 0)) 5 (0, 0))]) (by kernel_rfl) OW (fun _ => by kernel_rfl) ?_
  clear OW; intro ηq2 ysq2 Wq2 OW
  simp only [↓putE_cons, ↓putE_nil, valE, Hint.val, Act.put, List.setIfInBounds_toArray, List.set_cons_succ, List.set_cons_zero]
  gi_upto_region 2 with fail
  refine wpIn_region_re 7 (fun ηq3 => [.pv (.pointer (some ⟨(ηq2 0).blk 0, 0, none⟩)),
      .pv (.bool false)])
    (fun ηq3 L => L) (by kernel_rfl) OW (fun _ => by kernel_rfl) ?_
  clear OW; intro ηq3 ysq3 Wq3 OW
  simp only [↓putE_cons, ↓putE_nil, valE, Hint.val, Act.put, List.setIfInBounds_toArray, List.set_cons_succ, List.set_cons_zero]
  gi_upto_region 4 with fail
  refine wpIn_region_re 7 (fun ηq4 => [.pv (.int .i64 1),
      .cl 14 #[.int .i64 1] (fun E => .bool ((1 == 1) || (1 == 2))) [] [] (fun E => []) (enters_of Try.func14 (by kernel_rfl) rfl) (fun w' H => cB (callsIn_wide.2 (dmode_any 1 w'))),
      .pv (.bool (!((1 == 1) || (1 == 2))))])
    (fun ηq4 L => L) (by kernel_rfl) OW (fun _ => by kernel_rfl) ?_
  clear OW; intro ηq4 ysq4 Wq4 OW
  simp only [↓putE_cons, ↓putE_nil, valE, Hint.val, Act.put, List.setIfInBounds_toArray, List.set_cons_succ, List.set_cons_zero]
  cases hB5 : (!((1 == 1) || (1 == 2)))
  case true => exact absurd (hB5.symm.trans (show _ = false from rfl)) (by decide)
  case false =>
    gi_upto_region 6 with fail
    refine wpIn_region_re 9 (fun ηq6 => [.pv (.pointer (some ⟨(ηq2 0).blk 0, 0, none⟩)),
        .pv (.int .i64 1),
        .ls (rB 64 l) 0 0,
        .pv (.int .i64 x),
        .pv (.bool p),
        .cl 12 #[.pointer (some ⟨(ηq2 0).blk 0, 0, none⟩), .int .i64 1, .agg (rB 64 l).toArray, .int .i64 x, .bool p] (fun E => .agg (rB 72 (encT 9 (eW1 l x p) 8)).toArray) [(2, ((ηq2 0).blk 0, Obj.cells #[.pointer (some ⟨(ηq2 0).blk 1, 0, none⟩), .pointer (some ⟨(ηq2 0).blk 2, 0, none⟩)] 61 (0, 0))), (3, ((ηq2 0).blk 1, Obj.cells hsN 102 (0, 0)))] [] (fun E => []) (enters_of Try.func12 (by kernel_rfl) rfl) (fun w' H => cN (callsIn_wide.2 (dEnc1_any ((ηq2 0).blk 0) ((ηq2 0).blk 1) ((ηq2 0).blk 2) l (by first | rfl | (simp only [List.length_set, List.length_append, List.length_replicate, List.length_cons, List.length_nil, List.length_map, List.length_range, List.length_take, List.length_drop, HEN, hl, hm]; done) | (simp only [List.length_set, List.length_append, List.length_replicate, List.length_cons, List.length_nil, List.length_map, List.length_range, List.length_take, List.length_drop, HEN, hl, hm]; omega)) x (by omega) (by omega) p w' H))),
        .pv (.pointer (some ⟨(ηq2 0).blk 0, 0, none⟩)),
        .pv (.int .i64 1),
        .ls (rB 64 m) 1 0,
        .pv (.int .i64 x),
        .pv (.bool q),
        .cl 12 #[.pointer (some ⟨(ηq2 0).blk 0, 0, none⟩), .int .i64 1, .agg (rB 64 m).toArray, .int .i64 x, .bool q] (fun E => .agg (rB 72 (encT 9 (eW1 m x q) 8)).toArray) [(2, ((ηq2 0).blk 0, Obj.cells #[.pointer (some ⟨(ηq2 0).blk 1, 0, none⟩), .pointer (some ⟨(ηq2 0).blk 2, 0, none⟩)] 61 (0, 0))), (3, ((ηq2 0).blk 1, Obj.cells hsN 102 (0, 0)))] [] (fun E => []) (enters_of Try.func12 (by kernel_rfl) rfl) (fun w' H => cN (callsIn_wide.2 (dEnc1_any ((ηq2 0).blk 0) ((ηq2 0).blk 1) ((ηq2 0).blk 2) m (by first | rfl | (simp only [List.length_set, List.length_append, List.length_replicate, List.length_cons, List.length_nil, List.length_map, List.length_range, List.length_take, List.length_drop, HEN, hl, hm]; done) | (simp only [List.length_set, List.length_append, List.length_replicate, List.length_cons, List.length_nil, List.length_map, List.length_range, List.length_take, List.length_drop, HEN, hl, hm]; omega)) x (by omega) (by omega) q w' H))),
        .al 7 27 (rB 72 (List.replicate 72 0)).toArray,
        .al 8 27 (rB 72 (List.replicate 72 0)).toArray,
        .ss 7 ((ηq6 12).blk 0) 0 27 (rB 72 (encT 9 (eW1 l x p) 8)) (rB 72 (encT 9 (eW1 l x p) 8)).toArray,
        .ss 8 ((ηq6 13).blk 0) 0 27 (rB 72 (encT 9 (eW1 m x q) 8)) (rB 72 (encT 9 (eW1 m x q) 8)).toArray])
      (fun ηq6 L => L ++ [((ηq6 12).blk 0, Obj.cells (rB 72 (encT 9 (eW1 l x p) 8)).toArray 27 (0, 0)), ((ηq6 13).blk 0, Obj.cells (rB 72 (encT 9 (eW1 m x q) 8)).toArray 27 (0, 0))]) (by kernel_rfl) OW (fun _ => by kernel_rfl) ?_
    clear OW; intro ηq6 ysq6 Wq6 OW
    simp only [↓putE_cons, ↓putE_nil, valE, Hint.val, Act.put, List.setIfInBounds_toArray, List.set_cons_succ, List.set_cons_zero]
    gi_upto_region 7 with fail
    refine wpIn_region_re 9 (fun ηq7 => [.ls (rB 64 l) 0 0,
        .ls (rB 64 m) 1 0,
        .tv (.bool (decide (l = m))) (sBin .eql 23 (.tmp 35) (.tmp 36) (.agg (rB 64 l).toArray) (.agg (rB 64 m).toArray)) (fun _ => bin_eqT (xs := rB 64 l) (ys := rB 64 m) (by kernel_rfl) (eqc_rB (show (l).length = 64 by first | rfl | (simp only [List.length_set, List.length_append, List.length_replicate, List.length_cons, List.length_nil, List.length_map, List.length_range, List.length_take, List.length_drop, HEN, hl, hm]; done) | (simp only [List.length_set, List.length_append, List.length_replicate, List.length_cons, List.length_nil, List.length_map, List.length_range, List.length_take, List.length_drop, HEN, hl, hm]; omega)) (show (m).length = 64 by first | rfl | (simp only [List.length_set, List.length_append, List.length_replicate, List.length_cons, List.length_nil, List.length_map, List.length_range, List.length_take, List.length_drop, HEN, hl, hm]; done) | (simp only [List.length_set, List.length_append, List.length_replicate, List.length_cons, List.length_nil, List.length_map, List.length_range, List.length_take, List.length_drop, HEN, hl, hm]; omega)))),
        .pv (.bool (decide (l = m))),
        .pv (.bool p),
        .pv (.bool q),
        .tv (.bool (p == q)) (sBin .eql 4 (.tmp 39) (.tmp 40) (.bool p) (.bool q)) (fun _ => bin_eqlB Try.underlying4 _ _ _ _ _),
        .pk (.bool ((decide (l = m)) && (p == q)))])
      (fun ηq7 L => L) (by kernel_rfl) OW (fun _ => by kernel_rfl) ?_
    clear OW; intro ηq7 ysq7 Wq7 OW
    simp only [↓putE_cons, ↓putE_nil, valE, Hint.val, Act.put, List.setIfInBounds_toArray, List.set_cons_succ, List.set_cons_zero]
    cases hB8 : ((decide (l = m)) && (p == q))
    case true =>
      gi_upto_region 8 with fail
      refine wpIn_region_re 9 (fun ηq9 => [.ls (rB 72 (encT 9 (eW1 l x p) 8)) 7 0,
          .ls (rB 72 (encT 9 (eW1 m x q) 8)) 8 0,
          .tv (.bool (decide (encT 9 (eW1 l x p) 8 = encT 9 (eW1 m x q) 8))) (sBin .eql 27 (.tmp 43) (.tmp 44) (.agg (rB 72 (encT 9 (eW1 l x p) 8)).toArray) (.agg (rB 72 (encT 9 (eW1 m x q) 8)).toArray)) (fun _ => bin_eqT (xs := rB 72 (encT 9 (eW1 l x p) 8)) (ys := rB 72 (encT 9 (eW1 m x q) 8)) (by kernel_rfl) (eqc_rB (show (encT 9 (eW1 l x p) 8).length = 72 by first | rfl | (simp only [List.length_set, List.length_append, List.length_replicate, List.length_cons, List.length_nil, List.length_map, List.length_range, List.length_take, List.length_drop, HEN, hl, hm]; done) | (simp only [List.length_set, List.length_append, List.length_replicate, List.length_cons, List.length_nil, List.length_map, List.length_range, List.length_take, List.length_drop, HEN, hl, hm]; omega)) (show (encT 9 (eW1 m x q) 8).length = 72 by first | rfl | (simp only [List.length_set, List.length_append, List.length_replicate, List.length_cons, List.length_nil, List.length_map, List.length_range, List.length_take, List.length_drop, HEN, hl, hm]; done) | (simp only [List.length_set, List.length_append, List.length_replicate, List.length_cons, List.length_nil, List.length_map, List.length_range, List.length_take, List.length_drop, HEN, hl, hm]; omega)))),
          .pv (.bool (decide (encT 9 (eW1 l x p) 8 = encT 9 (eW1 m x q) 8)))])
        (fun ηq9 L => L) (by kernel_rfl) OW (fun _ => by kernel_rfl) ?_
      clear OW; intro ηq9 ysq9 Wq9 OW
      simp only [↓putE_cons, ↓putE_nil, valE, Hint.val, Act.put, List.setIfInBounds_toArray, List.set_cons_succ, List.set_cons_zero]
      gi_wp2
      exact leavesS OW [.t (.bool (decide (encT 9 (eW1 l x p) 8 = encT 9 (eW1 m x q) 8)))] (by kernel_rfl) fun hO => ⟨(by (try simp only [CodecSame1_0]); (repeat (first | rw [hB5] | rw [hB8] | rw [cond_true] | rw [cond_false])); try rfl), hO.done⟩
    gi_upto_region 9 with fail
    refine wpIn_region_re 9 (fun ηq10 => [.pv (.int .i64 1),
        .pv (.int .i64 4),
        .pv (.int .i64 4)])
      (fun ηq10 L => L) (by kernel_rfl) OW (fun _ => by kernel_rfl) ?_
    clear OW; intro ηq10 ysq10 Wq10 OW
    simp only [↓putE_cons, ↓putE_nil, valE, Hint.val, Act.put, List.setIfInBounds_toArray, List.set_cons_succ, List.set_cons_zero]
    gi_upto_region 10 with fail
    refine wpIn_region_re 9 (fun ηq11 => [.pv (.bool p),
        .pv (.bool q),
        .tv (.bool (p != q)) (sBin .neq 4 (.tmp 48) (.tmp 49) (.bool p) (.bool q)) (fun _ => bin_neqB Try.underlying4 _ _ _ _ _)])
      (fun ηq11 L => L) (by kernel_rfl) OW (fun _ => by kernel_rfl) ?_
    clear OW; intro ηq11 ysq11 Wq11 OW
    simp only [↓putE_cons, ↓putE_nil, valE, Hint.val, Act.put, List.setIfInBounds_toArray, List.set_cons_succ, List.set_cons_zero]
    cases hB12 : (p != q)
    case true =>
      have dhB12 := bne_iff_ne.1 hB12
      gi_upto_region 11 with fail
      refine wpIn_region_re 9 (fun ηq13 => [.pv (.int .i64 4),
          .pv (.int .i64 3),
          .pv (.int .i64 3)])
        (fun ηq13 L => L) (by kernel_rfl) OW (fun _ => by kernel_rfl) ?_
      clear OW; intro ηq13 ysq13 Wq13 OW
      simp only [↓putE_cons, ↓putE_nil, valE, Hint.val, Act.put, List.setIfInBounds_toArray, List.set_cons_succ, List.set_cons_zero]
      gi_upto_region 12 with fail
      refine wpIn_region_re 9 (fun ηq14 => [.pv (.int .i64 1),
          .ls (rB 72 (encT 9 (eW1 l x p) 8)) 7 0,
          .ls (rB 72 (encT 9 (eW1 m x q) 8)) 8 0,
          .cl 18 #[.int .i64 1, .agg (rB 72 (encT 9 (eW1 l x p) 8)).toArray, .agg (rB 72 (encT 9 (eW1 m x q) 8)).toArray] (fun _ => .int .i64 ((expo 1 (encT 9 (eW1 l x p) 8) (encT 9 (eW1 m x q) 8) : Nat) : Int)) [] [] (fun _ => []) (enters_of Try.func18 (by kernel_rfl) rfl) (fun w' _ => by rw [rB_raw (n := 72) (xs := encT 9 (eW1 l x p) 8) (show (encT 9 (eW1 l x p) 8).length = 72 by first | rfl | (simp only [List.length_set, List.length_append, List.length_replicate, List.length_cons, List.length_nil, List.length_map, List.length_range, List.length_take, List.length_drop, HEN, hl, hm]; done) | (simp only [List.length_set, List.length_append, List.length_replicate, List.length_cons, List.length_nil, List.length_map, List.length_range, List.length_take, List.length_drop, HEN, hl, hm]; omega)), rB_raw (n := 72) (xs := encT 9 (eW1 m x q) 8) (show (encT 9 (eW1 m x q) 8).length = 72 by first | rfl | (simp only [List.length_set, List.length_append, List.length_replicate, List.length_cons, List.length_nil, List.length_map, List.length_range, List.length_take, List.length_drop, HEN, hl, hm]; done) | (simp only [List.length_set, List.length_append, List.length_replicate, List.length_cons, List.length_nil, List.length_map, List.length_range, List.length_take, List.length_drop, HEN, hl, hm]; omega))]; exact cB (callsIn_wide.2 (refExp_any 1 (encT 9 (eW1 l x p) 8) (encT 9 (eW1 m x q) 8) (by first | rfl | (simp only [List.length_set, List.length_append, List.length_replicate, List.length_cons, List.length_nil, List.length_map, List.length_range, List.length_take, List.length_drop, HEN, hl, hm]; done) | (simp only [List.length_set, List.length_append, List.length_replicate, List.length_cons, List.length_nil, List.length_map, List.length_range, List.length_take, List.length_drop, HEN, hl, hm]; omega)) (by first | rfl | (simp only [List.length_set, List.length_append, List.length_replicate, List.length_cons, List.length_nil, List.length_map, List.length_range, List.length_take, List.length_drop, HEN, hl, hm]; done) | (simp only [List.length_set, List.length_append, List.length_replicate, List.length_cons, List.length_nil, List.length_map, List.length_range, List.length_take, List.length_drop, HEN, hl, hm]; omega)) _))),
          .pv (.int .i64 3),
          .pv (.bool (decide (3 ≤ ((expo 1 (encT 9 (eW1 l x p) 8) (encT 9 (eW1 m x q) 8) : Nat) : Int)))),
          .pv (.bool (decide (3 ≤ ((expo 1 (encT 9 (eW1 l x p) 8) (encT 9 (eW1 m x q) 8) : Nat) : Int))))])
        (fun ηq14 L => L) (by kernel_rfl) OW (fun _ => by kernel_rfl) ?_
      clear OW; intro ηq14 ysq14 Wq14 OW
      simp only [↓putE_cons, ↓putE_nil, valE, Hint.val, Act.put, List.setIfInBounds_toArray, List.set_cons_succ, List.set_cons_zero]
      gi_wp2
      exact leavesS OW [.t (.bool (decide (3 ≤ ((expo 1 (encT 9 (eW1 l x p) 8) (encT 9 (eW1 m x q) 8) : Nat) : Int))))] (by kernel_rfl) fun hO => ⟨(by (try simp only [CodecSame1_0]); (repeat (first | rw [hB5] | rw [hB8] | rw [hB12] | rw [cond_true] | rw [cond_false])); try rfl), hO.done⟩
    have dhB12 := Lib.hid (eq_of_bne_false hB12)
    gi_upto_region 12 with fail
    refine wpIn_region_re 9 (fun ηq15 => [.pv (.int .i64 1),
        .ls (rB 72 (encT 9 (eW1 l x p) 8)) 7 0,
        .ls (rB 72 (encT 9 (eW1 m x q) 8)) 8 0,
        .cl 18 #[.int .i64 1, .agg (rB 72 (encT 9 (eW1 l x p) 8)).toArray, .agg (rB 72 (encT 9 (eW1 m x q) 8)).toArray] (fun _ => .int .i64 ((expo 1 (encT 9 (eW1 l x p) 8) (encT 9 (eW1 m x q) 8) : Nat) : Int)) [] [] (fun _ => []) (enters_of Try.func18 (by kernel_rfl) rfl) (fun w' _ => by rw [rB_raw (n := 72) (xs := encT 9 (eW1 l x p) 8) (show (encT 9 (eW1 l x p) 8).length = 72 by first | rfl | (simp only [List.length_set, List.length_append, List.length_replicate, List.length_cons, List.length_nil, List.length_map, List.length_range, List.length_take, List.length_drop, HEN, hl, hm]; done) | (simp only [List.length_set, List.length_append, List.length_replicate, List.length_cons, List.length_nil, List.length_map, List.length_range, List.length_take, List.length_drop, HEN, hl, hm]; omega)), rB_raw (n := 72) (xs := encT 9 (eW1 m x q) 8) (show (encT 9 (eW1 m x q) 8).length = 72 by first | rfl | (simp only [List.length_set, List.length_append, List.length_replicate, List.length_cons, List.length_nil, List.length_map, List.length_range, List.length_take, List.length_drop, HEN, hl, hm]; done) | (simp only [List.length_set, List.length_append, List.length_replicate, List.length_cons, List.length_nil, List.length_map, List.length_range, List.length_take, List.length_drop, HEN, hl, hm]; omega))]; exact cB (callsIn_wide.2 (refExp_any 1 (encT 9 (eW1 l x p) 8) (encT 9 (eW1 m x q) 8) (by first | rfl | (simp only [List.length_set, List.length_append, List.length_replicate, List.length_cons, List.length_nil, List.length_map, List.length_range, List.length_take, List.length_drop, HEN, hl, hm]; done) | (simp only [List.length_set, List.length_append, List.length_replicate, List.length_cons, List.length_nil, List.length_map, List.length_range, List.length_take, List.length_drop, HEN, hl, hm]; omega)) (by first | rfl | (simp only [List.length_set, List.length_append, List.length_replicate, List.length_cons, List.length_nil, List.length_map, List.length_range, List.length_take, List.length_drop, HEN, hl, hm]; done) | (simp only [List.length_set, List.length_append, List.length_replicate, List.length_cons, List.length_nil, List.length_map, List.length_range, List.length_take, List.length_drop, HEN, hl, hm]; omega)) _))),
        .pv (.int .i64 4),
        .pv (.bool (decide (4 ≤ ((expo 1 (encT 9 (eW1 l x p) 8) (encT 9 (eW1 m x q) 8) : Nat) : Int)))),
        .pv (.bool (decide (4 ≤ ((expo 1 (encT 9 (eW1 l x p) 8) (encT 9 (eW1 m x q) 8) : Nat) : Int))))])
      (fun ηq15 L => L) (by kernel_rfl) OW (fun _ => by kernel_rfl) ?_
    clear OW; intro ηq15 ysq15 Wq15 OW
    simp only [↓putE_cons, ↓putE_nil, valE, Hint.val, Act.put, List.setIfInBounds_toArray, List.set_cons_succ, List.set_cons_zero]
    gi_wp2
    exact leavesS OW [.t (.bool (decide (4 ≤ ((expo 1 (encT 9 (eW1 l x p) 8) (encT 9 (eW1 m x q) 8) : Nat) : Int))))] (by kernel_rfl) fun hO => ⟨(by (try simp only [CodecSame1_0]); (repeat (first | rw [hB5] | rw [hB8] | rw [hB12] | rw [cond_true] | rw [cond_false])); try rfl), hO.done⟩
def CodecSame2_0 (l : List UInt8) (m : List UInt8) (x : Int) (p : Bool) (q : Bool) : Bool := (bif (decide (l = m)) && (p == q) then decide (encT 36 (eW2 l x p) 2 = encT 36 (eW2 m x q) 2) else (bif p != q then decide (4 ≤ ((expo 2 (encT 36 (eW2 l x p) 2) (encT 36 (eW2 m x q) 2) : Nat) : Int)) else decide (5 ≤ ((expo 2 (encT 36 (eW2 l x p) 2) (encT 36 (eW2 m x q) 2) : Nat) : Int))))
set_option maxRecDepth 100000 in
set_option maxHeartbeats 1000000 in
theorem CodecSame2_any (l : List UInt8) (hl : l.length = 64) (m : List UInt8) (hm : m.length = 64) (x : Int) (h0 : -9223372036854775808 ≤ x) (h1 : x ≤ 9223372036854775807) (p q : Bool) (w : World) : Calls Try.prog 8 #[.int .i64 2, .agg (rB 64 l).toArray, .agg (rB 64 m).toArray, .int .i64 x, .bool p, .bool q] w fun e w' => e = .returned (.bool (CodecSame2_0 l m x p q)) ∧ Below w.heap.size w w' := by
  have HEN := fun (x : Int) (p : Bool) => encT_len (n := 36) (eW2_len hl x p) (k := 2) (by decide)
  have HEM := fun (x : Int) (p : Bool) => encT_len (n := 36) (eW2_len hm x p) (k := 2) (by decide)
  have H : Has [] w := has_nil
  have OW : Hid (OwnS [] w [] w) := Lib.hid (OwnS.start H)
  refine (callsIn_wide (n := 6)).1 ?_
  refine callsIn_of_wp_marks Try.func8 rfl trivial ?_ rfl
  simp only [Try.ntmps8, List.size_toArray, List.length_cons, List.length_nil, Nat.reduceAdd, Nat.reduceSub, Array.replicate_succ, Array.replicate_zero, List.push_toArray, List.append_toArray, List.nil_append, List.cons_append]
  gi_upto_region 0 with fail
  refine wpIn_region_re 2 (fun ηq1 => [.bx 0 23 (.agg (rB 64 l).toArray),
      .bx 1 23 (.agg (rB 64 m).toArray),
      .pv (.bool false)])
    (fun ηq1 L => L ++ [((ηq1 0).blk 0, Obj.cells (rB 64 l).toArray 23 (0, 0)), ((ηq1 1).blk 0, Obj.cells (rB 64 m).toArray 23 (0, 0))]) (by kernel_rfl) OW (fun _ => by kernel_rfl) ?_
  clear OW; intro ηq1 ysq1 Wq1 OW
  simp only [↓putE_cons, ↓putE_nil, valE, Hint.val, Act.put, List.setIfInBounds_toArray, List.set_cons_succ, List.set_cons_zero]
  gi_upto_region 1 with fail
  refine wpIn_region_re 7 (fun ηq2 => [.cl 11 #[] (fun E => .pointer (some ⟨E.blk 0, 0, none⟩)) [] [] (fun E => [(2, (E.blk 0, Obj.cells #[.pointer (some ⟨E.blk 1, 0, none⟩), .pointer (some ⟨E.blk 2, 0, none⟩)] 61 (0, 0))), (3, (E.blk 1, Obj.cells hsN 102 (0, 0))), (4, (E.blk 2, Obj.cells #[.pointer (some ⟨E.blk 3, 0, none⟩), .slice (some ⟨E.blk 4, 0, none⟩) 5 (5 + (E.rest 0).length)] 109 (0, 0))), (5, (E.blk 3, Obj.cells fieldCells 137 (0, 0))), (6, (E.blk 4, Obj.cells (rowV genL (E.rest 0)) 5 (0, 0)))]) (enters_of Try.func11 (by kernel_rfl) rfl) (fun w' H => callsIn_wide.2 (dcoder_any  w' H)),
      .pv (.pointer (some ⟨(ηq2 0).blk 0, 0, none⟩))])
    (fun ηq2 L => L ++ [((ηq2 0).blk 0, Obj.cells #[.pointer (some ⟨(ηq2 0).blk 1, 0, none⟩), .pointer (some ⟨(ηq2 0).blk 2, 0, none⟩)] 61 (0, 0)), ((ηq2 0).blk 1, Obj.cells hsN 102 (0, 0)), ((ηq2 0).blk 2, Obj.cells #[.pointer (some ⟨(ηq2 0).blk 3, 0, none⟩), .slice (some ⟨(ηq2 0).blk 4, 0, none⟩) 5 (5 + ((ηq2 0).rest 0).length)] 109 (0, 0)), ((ηq2 0).blk 3, Obj.cells fieldCells 137 (0, 0)), ((ηq2 0).blk 4, Obj.cells (rowV genL ((ηq2 0).rest 0)) 5 (0, 0))]) (by kernel_rfl) OW (fun _ => by kernel_rfl) ?_
  clear OW; intro ηq2 ysq2 Wq2 OW
  simp only [↓putE_cons, ↓putE_nil, valE, Hint.val, Act.put, List.setIfInBounds_toArray, List.set_cons_succ, List.set_cons_zero]
  gi_upto_region 2 with fail
  refine wpIn_region_re 7 (fun ηq3 => [.pv (.pointer (some ⟨(ηq2 0).blk 0, 0, none⟩)),
      .pv (.bool false)])
    (fun ηq3 L => L) (by kernel_rfl) OW (fun _ => by kernel_rfl) ?_
  clear OW; intro ηq3 ysq3 Wq3 OW
  simp only [↓putE_cons, ↓putE_nil, valE, Hint.val, Act.put, List.setIfInBounds_toArray, List.set_cons_succ, List.set_cons_zero]
  gi_upto_region 4 with fail
  refine wpIn_region_re 7 (fun ηq4 => [.pv (.int .i64 2),
      .cl 14 #[.int .i64 2] (fun E => .bool ((2 == 1) || (2 == 2))) [] [] (fun E => []) (enters_of Try.func14 (by kernel_rfl) rfl) (fun w' H => cB (callsIn_wide.2 (dmode_any 2 w'))),
      .pv (.bool (!((2 == 1) || (2 == 2))))])
    (fun ηq4 L => L) (by kernel_rfl) OW (fun _ => by kernel_rfl) ?_
  clear OW; intro ηq4 ysq4 Wq4 OW
  simp only [↓putE_cons, ↓putE_nil, valE, Hint.val, Act.put, List.setIfInBounds_toArray, List.set_cons_succ, List.set_cons_zero]
  cases hB5 : (!((2 == 1) || (2 == 2)))
  case true => exact absurd (hB5.symm.trans (show _ = false from rfl)) (by decide)
  case false =>
    gi_upto_region 6 with fail
    refine wpIn_region_re 9 (fun ηq6 => [.pv (.pointer (some ⟨(ηq2 0).blk 0, 0, none⟩)),
        .pv (.int .i64 2),
        .ls (rB 64 l) 0 0,
        .pv (.int .i64 x),
        .pv (.bool p),
        .cl 12 #[.pointer (some ⟨(ηq2 0).blk 0, 0, none⟩), .int .i64 2, .agg (rB 64 l).toArray, .int .i64 x, .bool p] (fun E => .agg (rB 72 (encT 36 (eW2 l x p) 2)).toArray) [(2, ((ηq2 0).blk 0, Obj.cells #[.pointer (some ⟨(ηq2 0).blk 1, 0, none⟩), .pointer (some ⟨(ηq2 0).blk 2, 0, none⟩)] 61 (0, 0))), (4, ((ηq2 0).blk 2, Obj.cells #[.pointer (some ⟨(ηq2 0).blk 3, 0, none⟩), .slice (some ⟨(ηq2 0).blk 4, 0, none⟩) 5 (5 + ((ηq2 0).rest 0).length)] 109 (0, 0))), (5, ((ηq2 0).blk 3, Obj.cells fieldCells 137 (0, 0))), (6, ((ηq2 0).blk 4, Obj.cells (rowV genL ((ηq2 0).rest 0)) 5 (0, 0)))] [] (fun E => []) (enters_of Try.func12 (by kernel_rfl) rfl) (fun w' H => cN (callsIn_wide.2 (dEnc2_any ((ηq2 0).blk 0) ((ηq2 0).blk 1) ((ηq2 0).blk 2) ((ηq2 0).blk 3) ((ηq2 0).blk 4) ((ηq2 0).rest 0) l (by first | rfl | (simp only [List.length_set, List.length_append, List.length_replicate, List.length_cons, List.length_nil, List.length_map, List.length_range, List.length_take, List.length_drop, HEN, HEM, hl, hm]; done) | (simp only [List.length_set, List.length_append, List.length_replicate, List.length_cons, List.length_nil, List.length_map, List.length_range, List.length_take, List.length_drop, HEN, HEM, hl, hm]; omega)) x (by omega) (by omega) p w' H))),
        .pv (.pointer (some ⟨(ηq2 0).blk 0, 0, none⟩)),
        .pv (.int .i64 2),
        .ls (rB 64 m) 1 0,
        .pv (.int .i64 x),
        .pv (.bool q),
        .cl 12 #[.pointer (some ⟨(ηq2 0).blk 0, 0, none⟩), .int .i64 2, .agg (rB 64 m).toArray, .int .i64 x, .bool q] (fun E => .agg (rB 72 (encT 36 (eW2 m x q) 2)).toArray) [(2, ((ηq2 0).blk 0, Obj.cells #[.pointer (some ⟨(ηq2 0).blk 1, 0, none⟩), .pointer (some ⟨(ηq2 0).blk 2, 0, none⟩)] 61 (0, 0))), (4, ((ηq2 0).blk 2, Obj.cells #[.pointer (some ⟨(ηq2 0).blk 3, 0, none⟩), .slice (some ⟨(ηq2 0).blk 4, 0, none⟩) 5 (5 + ((ηq2 0).rest 0).length)] 109 (0, 0))), (5, ((ηq2 0).blk 3, Obj.cells fieldCells 137 (0, 0))), (6, ((ηq2 0).blk 4, Obj.cells (rowV genL ((ηq2 0).rest 0)) 5 (0, 0)))] [] (fun E => []) (enters_of Try.func12 (by kernel_rfl) rfl) (fun w' H => cN (callsIn_wide.2 (dEnc2_any ((ηq2 0).blk 0) ((ηq2 0).blk 1) ((ηq2 0).blk 2) ((ηq2 0).blk 3) ((ηq2 0).blk 4) ((ηq2 0).rest 0) m (by first | rfl | (simp only [List.length_set, List.length_append, List.length_replicate, List.length_cons, List.length_nil, List.length_map, List.length_range, List.length_take, List.length_drop, HEN, HEM, hl, hm]; done) | (simp only [List.length_set, List.length_append, List.length_replicate, List.length_cons, List.length_nil, List.length_map, List.length_range, List.length_take, List.length_drop, HEN, HEM, hl, hm]; omega)) x (by omega) (by omega) q w' H))),
        .al 7 27 (rB 72 (List.replicate 72 0)).toArray,
        .al 8 27 (rB 72 (List.replicate 72 0)).toArray,
        .ss 7 ((ηq6 12).blk 0) 0 27 (rB 72 (encT 36 (eW2 l x p) 2)) (rB 72 (encT 36 (eW2 l x p) 2)).toArray,
        .ss 8 ((ηq6 13).blk 0) 0 27 (rB 72 (encT 36 (eW2 m x q) 2)) (rB 72 (encT 36 (eW2 m x q) 2)).toArray])
      (fun ηq6 L => L ++ [((ηq6 12).blk 0, Obj.cells (rB 72 (encT 36 (eW2 l x p) 2)).toArray 27 (0, 0)), ((ηq6 13).blk 0, Obj.cells (rB 72 (encT 36 (eW2 m x q) 2)).toArray 27 (0, 0))]) (by kernel_rfl) OW (fun _ => by kernel_rfl) ?_
    clear OW; intro ηq6 ysq6 Wq6 OW
    simp only [↓putE_cons, ↓putE_nil, valE, Hint.val, Act.put, List.setIfInBounds_toArray, List.set_cons_succ, List.set_cons_zero]
    gi_upto_region 7 with fail
    refine wpIn_region_re 9 (fun ηq7 => [.ls (rB 64 l) 0 0,
        .ls (rB 64 m) 1 0,
        .tv (.bool (decide (l = m))) (sBin .eql 23 (.tmp 35) (.tmp 36) (.agg (rB 64 l).toArray) (.agg (rB 64 m).toArray)) (fun _ => bin_eqT (xs := rB 64 l) (ys := rB 64 m) (by kernel_rfl) (eqc_rB (show (l).length = 64 by first | rfl | (simp only [List.length_set, List.length_append, List.length_replicate, List.length_cons, List.length_nil, List.length_map, List.length_range, List.length_take, List.length_drop, HEN, HEM, hl, hm]; done) | (simp only [List.length_set, List.length_append, List.length_replicate, List.length_cons, List.length_nil, List.length_map, List.length_range, List.length_take, List.length_drop, HEN, HEM, hl, hm]; omega)) (show (m).length = 64 by first | rfl | (simp only [List.length_set, List.length_append, List.length_replicate, List.length_cons, List.length_nil, List.length_map, List.length_range, List.length_take, List.length_drop, HEN, HEM, hl, hm]; done) | (simp only [List.length_set, List.length_append, List.length_replicate, List.length_cons, List.length_nil, List.length_map, List.length_range, List.length_take, List.length_drop, HEN, HEM, hl, hm]; omega)))),
        .pv (.bool (decide (l = m))),
        .pv (.bool p),
        .pv (.bool q),
        .tv (.bool (p == q)) (sBin .eql 4 (.tmp 39) (.tmp 40) (.bool p) (.bool q)) (fun _ => bin_eqlB Try.underlying4 _ _ _ _ _),
        .pk (.bool ((decide (l = m)) && (p == q)))])
      (fun ηq7 L => L) (by kernel_rfl) OW (fun _ => by kernel_rfl) ?_
    clear OW; intro ηq7 ysq7 Wq7 OW
    simp only [↓putE_cons, ↓putE_nil, valE, Hint.val, Act.put, List.setIfInBounds_toArray, List.set_cons_succ, List.set_cons_zero]
    cases hB8 : ((decide (l = m)) && (p == q))
    case true =>
      gi_upto_region 8 with fail
      refine wpIn_region_re 9 (fun ηq9 => [.ls (rB 72 (encT 36 (eW2 l x p) 2)) 7 0,
          .ls (rB 72 (encT 36 (eW2 m x q) 2)) 8 0,
          .tv (.bool (decide (encT 36 (eW2 l x p) 2 = encT 36 (eW2 m x q) 2))) (sBin .eql 27 (.tmp 43) (.tmp 44) (.agg (rB 72 (encT 36 (eW2 l x p) 2)).toArray) (.agg (rB 72 (encT 36 (eW2 m x q) 2)).toArray)) (fun _ => bin_eqT (xs := rB 72 (encT 36 (eW2 l x p) 2)) (ys := rB 72 (encT 36 (eW2 m x q) 2)) (by kernel_rfl) (eqc_rB (show (encT 36 (eW2 l x p) 2).length = 72 by first | rfl | (simp only [List.length_set, List.length_append, List.length_replicate, List.length_cons, List.length_nil, List.length_map, List.length_range, List.length_take, List.length_drop, HEN, HEM, hl, hm]; done) | (simp only [List.length_set, List.length_append, List.length_replicate, List.length_cons, List.length_nil, List.length_map, List.length_range, List.length_take, List.length_drop, HEN, HEM, hl, hm]; omega)) (show (encT 36 (eW2 m x q) 2).length = 72 by first | rfl | (simp only [List.length_set, List.length_append, List.length_replicate, List.length_cons, List.length_nil, List.length_map, List.length_range, List.length_take, List.length_drop, HEN, HEM, hl, hm]; done) | (simp only [List.length_set, List.length_append, List.length_replicate, List.length_cons, List.length_nil, List.length_map, List.length_range, List.length_take, List.length_drop, HEN, HEM, hl, hm]; omega)))),
          .pv (.bool (decide (encT 36 (eW2 l x p) 2 = encT 36 (eW2 m x q) 2)))])
        (fun ηq9 L => L) (by kernel_rfl) OW (fun _ => by kernel_rfl) ?_
      clear OW; intro ηq9 ysq9 Wq9 OW
      simp only [↓putE_cons, ↓putE_nil, valE, Hint.val, Act.put, List.setIfInBounds_toArray, List.set_cons_succ, List.set_cons_zero]
      gi_wp2
      exact leavesS OW [.t (.bool (decide (encT 36 (eW2 l x p) 2 = encT 36 (eW2 m x q) 2)))] (by kernel_rfl) fun hO => ⟨(by (try simp only [CodecSame2_0]); (repeat (first | rw [hB5] | rw [hB8] | rw [cond_true] | rw [cond_false])); try rfl), hO.done⟩
    gi_upto_region 9 with fail
    refine wpIn_region_re 9 (fun ηq10 => [.pv (.int .i64 2),
        .pv (.int .i64 5),
        .pv (.int .i64 5)])
      (fun ηq10 L => L) (by kernel_rfl) OW (fun _ => by kernel_rfl) ?_
    clear OW; intro ηq10 ysq10 Wq10 OW
    simp only [↓putE_cons, ↓putE_nil, valE, Hint.val, Act.put, List.setIfInBounds_toArray, List.set_cons_succ, List.set_cons_zero]
    gi_upto_region 10 with fail
    refine wpIn_region_re 9 (fun ηq11 => [.pv (.bool p),
        .pv (.bool q),
        .tv (.bool (p != q)) (sBin .neq 4 (.tmp 48) (.tmp 49) (.bool p) (.bool q)) (fun _ => bin_neqB Try.underlying4 _ _ _ _ _)])
      (fun ηq11 L => L) (by kernel_rfl) OW (fun _ => by kernel_rfl) ?_
    clear OW; intro ηq11 ysq11 Wq11 OW
    simp only [↓putE_cons, ↓putE_nil, valE, Hint.val, Act.put, List.setIfInBounds_toArray, List.set_cons_succ, List.set_cons_zero]
    cases hB12 : (p != q)
    case true =>
      have dhB12 := bne_iff_ne.1 hB12
      gi_upto_region 11 with fail
      refine wpIn_region_re 9 (fun ηq13 => [.pv (.int .i64 5),
          .pv (.int .i64 4),
          .pv (.int .i64 4)])
        (fun ηq13 L => L) (by kernel_rfl) OW (fun _ => by kernel_rfl) ?_
      clear OW; intro ηq13 ysq13 Wq13 OW
      simp only [↓putE_cons, ↓putE_nil, valE, Hint.val, Act.put, List.setIfInBounds_toArray, List.set_cons_succ, List.set_cons_zero]
      gi_upto_region 12 with fail
      refine wpIn_region_re 9 (fun ηq14 => [.pv (.int .i64 2),
          .ls (rB 72 (encT 36 (eW2 l x p) 2)) 7 0,
          .ls (rB 72 (encT 36 (eW2 m x q) 2)) 8 0,
          .cl 18 #[.int .i64 2, .agg (rB 72 (encT 36 (eW2 l x p) 2)).toArray, .agg (rB 72 (encT 36 (eW2 m x q) 2)).toArray] (fun _ => .int .i64 ((expo 2 (encT 36 (eW2 l x p) 2) (encT 36 (eW2 m x q) 2) : Nat) : Int)) [] [] (fun _ => []) (enters_of Try.func18 (by kernel_rfl) rfl) (fun w' _ => by rw [rB_raw (n := 72) (xs := encT 36 (eW2 l x p) 2) (show (encT 36 (eW2 l x p) 2).length = 72 by first | rfl | (simp only [List.length_set, List.length_append, List.length_replicate, List.length_cons, List.length_nil, List.length_map, List.length_range, List.length_take, List.length_drop, HEN, HEM, hl, hm]; done) | (simp only [List.length_set, List.length_append, List.length_replicate, List.length_cons, List.length_nil, List.length_map, List.length_range, List.length_take, List.length_drop, HEN, HEM, hl, hm]; omega)), rB_raw (n := 72) (xs := encT 36 (eW2 m x q) 2) (show (encT 36 (eW2 m x q) 2).length = 72 by first | rfl | (simp only [List.length_set, List.length_append, List.length_replicate, List.length_cons, List.length_nil, List.length_map, List.length_range, List.length_take, List.length_drop, HEN, HEM, hl, hm]; done) | (simp only [List.length_set, List.length_append, List.length_replicate, List.length_cons, List.length_nil, List.length_map, List.length_range, List.length_take, List.length_drop, HEN, HEM, hl, hm]; omega))]; exact cB (callsIn_wide.2 (refExp_any 2 (encT 36 (eW2 l x p) 2) (encT 36 (eW2 m x q) 2) (by first | rfl | (simp only [List.length_set, List.length_append, List.length_replicate, List.length_cons, List.length_nil, List.length_map, List.length_range, List.length_take, List.length_drop, HEN, HEM, hl, hm]; done) | (simp only [List.length_set, List.length_append, List.length_replicate, List.length_cons, List.length_nil, List.length_map, List.length_range, List.length_take, List.length_drop, HEN, HEM, hl, hm]; omega)) (by first | rfl | (simp only [List.length_set, List.length_append, List.length_replicate, List.length_cons, List.length_nil, List.length_map, List.length_range, List.length_take, List.length_drop, HEN, HEM, hl, hm]; done) | (simp only [List.length_set, List.length_append, List.length_replicate, List.length_cons, List.length_nil, List.length_map, List.length_range, List.length_take, List.length_drop, HEN, HEM, hl, hm]; omega)) _))),
          .pv (.int .i64 4),
          .pv (.bool (decide (4 ≤ ((expo 2 (encT 36 (eW2 l x p) 2) (encT 36 (eW2 m x q) 2) : Nat) : Int)))),
          .pv (.bool (decide (4 ≤ ((expo 2 (encT 36 (eW2 l x p) 2) (encT 36 (eW2 m x q) 2) : Nat) : Int))))])
        (fun ηq14 L => L) (by kernel_rfl) OW (fun _ => by kernel_rfl) ?_
      clear OW; intro ηq14 ysq14 Wq14 OW
      simp only [↓putE_cons, ↓putE_nil, valE, Hint.val, Act.put, List.setIfInBounds_toArray, List.set_cons_succ, List.set_cons_zero]
      gi_wp2
      exact leavesS OW [.t (.bool (decide (4 ≤ ((expo 2 (encT 36 (eW2 l x p) 2) (encT 36 (eW2 m x q) 2) : Nat) : Int))))] (by kernel_rfl) fun hO => ⟨(by (try simp only [CodecSame2_0]); (repeat (first | rw [hB5] | rw [hB8] | rw [hB12] | rw [cond_true] | rw [cond_false])); try rfl), hO.done⟩
    have dhB12 := Lib.hid (eq_of_bne_false hB12)
    gi_upto_region 12 with fail
    refine wpIn_region_re 9 (fun ηq15 => [.pv (.int .i64 2),
        .ls (rB 72 (encT 36 (eW2 l x p) 2)) 7 0,
        .ls (rB 72 (encT 36 (eW2 m x q) 2)) 8 0,
        .cl 18 #[.int .i64 2, .agg (rB 72 (encT 36 (eW2 l x p) 2)).toArray, .agg (rB 72 (encT 36 (eW2 m x q) 2)).toArray] (fun _ => .int .i64 ((expo 2 (encT 36 (eW2 l x p) 2) (encT 36 (eW2 m x q) 2) : Nat) : Int)) [] [] (fun _ => []) (enters_of Try.func18 (by kernel_rfl) rfl) (fun w' _ => by rw [rB_raw (n := 72) (xs := encT 36 (eW2 l x p) 2) (show (encT 36 (eW2 l x p) 2).length = 72 by first | rfl | (simp only [List.length_set, List.length_append, List.length_replicate, List.length_cons, List.length_nil, List.length_map, List.length_range, List.length_take, List.length_drop, HEN, HEM, hl, hm]; done) | (simp only [List.length_set, List.length_append, List.length_replicate, List.length_cons, List.length_nil, List.length_map, List.length_range, List.length_take, List.length_drop, HEN, HEM, hl, hm]; omega)), rB_raw (n := 72) (xs := encT 36 (eW2 m x q) 2) (show (encT 36 (eW2 m x q) 2).length = 72 by first | rfl | (simp only [List.length_set, List.length_append, List.length_replicate, List.length_cons, List.length_nil, List.length_map, List.length_range, List.length_take, List.length_drop, HEN, HEM, hl, hm]; done) | (simp only [List.length_set, List.length_append, List.length_replicate, List.length_cons, List.length_nil, List.length_map, List.length_range, List.length_take, List.length_drop, HEN, HEM, hl, hm]; omega))]; exact cB (callsIn_wide.2 (refExp_any 2 (encT 36 (eW2 l x p) 2) (encT 36 (eW2 m x q) 2) (by first | rfl | (simp only [List.length_set, List.length_append, List.length_replicate, List.length_cons, List.length_nil, List.length_map, List.length_range, List.length_take, List.length_drop, HEN, HEM, hl, hm]; done) | (simp only [List.length_set, List.length_append, List.length_replicate, List.length_cons, List.length_nil, List.length_map, List.length_range, List.length_take, List.length_drop, HEN, HEM, hl, hm]; omega)) (by first | rfl | (simp only [List.length_set, List.length_append, List.length_replicate, List.length_cons, List.length_nil, List.length_map, List.length_range, List.length_take, List.length_drop, HEN, HEM, hl, hm]; done) | (simp only [List.length_set, List.length_append, List.length_replicate, List.length_cons, List.length_nil, List.length_map, List.length_range, List.length_take, List.length_drop, HEN, HEM, hl, hm]; omega)) _))),
        .pv (.int .i64 5),
        .pv (.bool (decide (5 ≤ ((expo 2 (encT 36 (eW2 l x p) 2) (encT 36 (eW2 m x q) 2) : Nat) : Int)))),
        .pv (.bool (decide (5 ≤ ((expo 2 (encT 36 (eW2 l x p) 2) (encT 36 (eW2 m x q) 2) : Nat) : Int))))])
      (fun ηq15 L => L) (by kernel_rfl) OW (fun _ => by kernel_rfl) ?_
    clear OW; intro ηq15 ysq15 Wq15 OW
    simp only [↓putE_cons, ↓putE_nil, valE, Hint.val, Act.put, List.setIfInBounds_toArray, List.set_cons_succ, List.set_cons_zero]
    gi_wp2
    exact leavesS OW [.t (.bool (decide (5 ≤ ((expo 2 (encT 36 (eW2 l x p) 2) (encT 36 (eW2 m x q) 2) : Nat) : Int))))] (by kernel_rfl) fun hO => ⟨(by (try simp only [CodecSame2_0]); (repeat (first | rw [hB5] | rw [hB8] | rw [hB12] | rw [cond_true] | rw [cond_false])); try rfl), hO.done⟩
set_option maxRecDepth 100000 in
set_option maxHeartbeats 1000000 in
theorem CodecSame0_any (mo : Int) (hm1 : mo ≠ 1) (hm2 : mo ≠ 2) (l : List UInt8) (hl : l.length = 64) (m : List UInt8) (hm : m.length = 64) (x : Int) (h0 : -9223372036854775808 ≤ x) (h1 : x ≤ 9223372036854775807) (p q : Bool) (w : World) : Calls Try.prog 8 #[.int .i64 mo, .agg (rB 64 l).toArray, .agg (rB 64 m).toArray, .int .i64 x, .bool p, .bool q] w fun e w' => e = .returned (.bool true) ∧ Below w.heap.size w w' := by
  have H : Has [] w := has_nil
  have OW : Hid (OwnS [] w [] w) := Lib.hid (OwnS.start H)
  refine (callsIn_wide (n := 6)).1 ?_
  refine callsIn_of_wp_marks Try.func8 rfl trivial ?_ rfl
  simp only [Try.ntmps8, List.size_toArray, List.length_cons, List.length_nil, Nat.reduceAdd, Nat.reduceSub, Array.replicate_succ, Array.replicate_zero, List.push_toArray, List.append_toArray, List.nil_append, List.cons_append]
  gi_upto_region 0 with fail
  refine wpIn_region_re 2 (fun ηq1 => [.bx 0 23 (.agg (rB 64 l).toArray),
      .bx 1 23 (.agg (rB 64 m).toArray),
      .pv (.bool false)])
    (fun ηq1 L => L ++ [((ηq1 0).blk 0, Obj.cells (rB 64 l).toArray 23 (0, 0)), ((ηq1 1).blk 0, Obj.cells (rB 64 m).toArray 23 (0, 0))]) (by kernel_rfl) OW (fun _ => by kernel_rfl) ?_
  clear OW; intro ηq1 ysq1 Wq1 OW
  simp only [↓putE_cons, ↓putE_nil, valE, Hint.val, Act.put, List.setIfInBounds_toArray, List.set_cons_succ, List.set_cons_zero]
  gi_upto_region 1 with fail
  refine wpIn_region_re 7 (fun ηq2 => [.cl 11 #[] (fun E => .pointer (some ⟨E.blk 0, 0, none⟩)) [] [] (fun E => [(2, (E.blk 0, Obj.cells #[.pointer (some ⟨E.blk 1, 0, none⟩), .pointer (some ⟨E.blk 2, 0, none⟩)] 61 (0, 0))), (3, (E.blk 1, Obj.cells hsN 102 (0, 0))), (4, (E.blk 2, Obj.cells #[.pointer (some ⟨E.blk 3, 0, none⟩), .slice (some ⟨E.blk 4, 0, none⟩) 5 (5 + (E.rest 0).length)] 109 (0, 0))), (5, (E.blk 3, Obj.cells fieldCells 137 (0, 0))), (6, (E.blk 4, Obj.cells (rowV genL (E.rest 0)) 5 (0, 0)))]) (enters_of Try.func11 (by kernel_rfl) rfl) (fun w' H => callsIn_wide.2 (dcoder_any  w' H)),
      .pv (.pointer (some ⟨(ηq2 0).blk 0, 0, none⟩))])
    (fun ηq2 L => L ++ [((ηq2 0).blk 0, Obj.cells #[.pointer (some ⟨(ηq2 0).blk 1, 0, none⟩), .pointer (some ⟨(ηq2 0).blk 2, 0, none⟩)] 61 (0, 0)), ((ηq2 0).blk 1, Obj.cells hsN 102 (0, 0)), ((ηq2 0).blk 2, Obj.cells #[.pointer (some ⟨(ηq2 0).blk 3, 0, none⟩), .slice (some ⟨(ηq2 0).blk 4, 0, none⟩) 5 (5 + ((ηq2 0).rest 0).length)] 109 (0, 0)), ((ηq2 0).blk 3, Obj.cells fieldCells 137 (0, 0)), ((ηq2 0).blk 4, Obj.cells (rowV genL ((ηq2 0).rest 0)) 5 (0, 0))]) (by kernel_rfl) OW (fun _ => by kernel_rfl) ?_
  clear OW; intro ηq2 ysq2 Wq2 OW
  simp only [↓putE_cons, ↓putE_nil, valE, Hint.val, Act.put, List.setIfInBounds_toArray, List.set_cons_succ, List.set_cons_zero]
  gi_upto_region 2 with fail
  refine wpIn_region_re 7 (fun ηq3 => [.pv (.pointer (some ⟨(ηq2 0).blk 0, 0, none⟩)),
      .pv (.bool false)])
    (fun ηq3 L => L) (by kernel_rfl) OW (fun _ => by kernel_rfl) ?_
  clear OW; intro ηq3 ysq3 Wq3 OW
  simp only [↓putE_cons, ↓putE_nil, valE, Hint.val, Act.put, List.setIfInBounds_toArray, List.set_cons_succ, List.set_cons_zero]
  gi_upto_region 4 with fail
  refine wpIn_region_re 7 (fun ηq4 => [.pv (.int .i64 mo),
      .cl 14 #[.int .i64 mo] (fun E => .bool ((mo == 1) || (mo == 2))) [] [] (fun E => []) (enters_of Try.func14 (by kernel_rfl) rfl) (fun w' H => cB (callsIn_wide.2 (dmode_any mo w'))),
      .pv (.bool (!((mo == 1) || (mo == 2))))])
    (fun ηq4 L => L) (by kernel_rfl) OW (fun _ => by kernel_rfl) ?_
  clear OW; intro ηq4 ysq4 Wq4 OW
  simp only [↓putE_cons, ↓putE_nil, valE, Hint.val, Act.put, List.setIfInBounds_toArray, List.set_cons_succ, List.set_cons_zero]
  cases hB5 : (!((mo == 1) || (mo == 2)))
  case true =>
    gi_upto_region 5 with fail
    refine wpIn_region_re 7 (fun ηq6 => [.pv (.bool true)])
      (fun ηq6 L => L) (by kernel_rfl) OW (fun _ => by kernel_rfl) ?_
    clear OW; intro ηq6 ysq6 Wq6 OW
    simp only [↓putE_cons, ↓putE_nil, valE, Hint.val, Act.put, List.setIfInBounds_toArray, List.set_cons_succ, List.set_cons_zero]
    gi_wp2
    exact leavesS OW [.t (.bool true)] (by kernel_rfl) fun hO => ⟨(by rfl), hO.done⟩
  case false => exact absurd (hB5.symm.trans (show _ = true from by rw [beq_false_of_ne hm1, beq_false_of_ne hm2]; rfl)) (by decide)
theorem CodecSame1_true {l m : List UInt8} (hl : l.length = 64) (hm : m.length = 64) (x : Int) (p q : Bool) : CodecSame1_0 l m x p q = true := by
  unfold CodecSame1_0
  by_cases h : l = m ∧ p = q
  · obtain ⟨rfl, rfl⟩ := h; simp
  · have h1 := apart1 hl hm x p q h
    have c : (decide (l = m) && (p == q)) = false := by
      apply Bool.eq_false_iff.2
      intro hc
      rw [Bool.and_eq_true] at hc
      exact h ⟨of_decide_eq_true hc.1, eq_of_beq hc.2⟩
    rw [c, cond_false]
    by_cases hpq : p = q
    · rw [if_pos hpq] at h1
      have e : (p != q) = false := by rw [hpq]; cases q <;> rfl
      rw [e, cond_false]
      exact decide_eq_true (by omega)
    · rw [if_neg hpq] at h1
      rw [bne_iff_ne.2 hpq, cond_true]
      exact decide_eq_true (by omega)
theorem CodecSame2_true {l m : List UInt8} (hl : l.length = 64) (hm : m.length = 64) (x : Int) (p q : Bool) : CodecSame2_0 l m x p q = true := by
  unfold CodecSame2_0
  by_cases h : l = m ∧ p = q
  · obtain ⟨rfl, rfl⟩ := h; simp
  · have h1 := apart2 hl hm x p q h
    have c : (decide (l = m) && (p == q)) = false := by
      apply Bool.eq_false_iff.2
      intro hc
      rw [Bool.and_eq_true] at hc
      exact h ⟨of_decide_eq_true hc.1, eq_of_beq hc.2⟩
    rw [c, cond_false]
    by_cases hpq : p = q
    · rw [if_pos hpq] at h1
      have e : (p != q) = false := by rw [hpq]; cases q <;> rfl
      rw [e, cond_false]
      exact decide_eq_true (by omega)
    · rw [if_neg hpq] at h1
      rw [bne_iff_ne.2 hpq, cond_true]
      exact decide_eq_true (by omega)
theorem CodecSame_any (mo : Int) (l m : List UInt8) (x : Int) (p q : Bool) (hl : l.length = 64) (hm : m.length = 64) (h0 : -9223372036854775808 ≤ x) (h1 : x ≤ 9223372036854775807) (w : World) : Calls Try.prog 8 #[.int .i64 mo, .agg (rawV l), .agg (rawV m), .int .i64 x, .bool p, .bool q] w fun e w' => e = .returned (.bool true) ∧ Below w.heap.size w w' := by
  rw [← rB_raw hl, ← rB_raw hm]
  by_cases e1 : mo = 1
  · subst e1; rw [← CodecSame1_true hl hm x p q]; exact CodecSame1_any l hl m hm x h0 h1 p q w
  · by_cases e2 : mo = 2
    · subst e2; rw [← CodecSame2_true hl hm x p q]; exact CodecSame2_any l hl m hm x h0 h1 p q w
    · exact CodecSame0_any mo e1 e2 l hl m hm x h0 h1 p q w
end Go.Proofs.Ytkeheickaogpiaa
