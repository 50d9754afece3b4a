/- The codec: whole lines decoded, encoded. -/
import Derived.Test.YtkeheickaogpiaaCdF
import Derived.WalkKit
import Derived.Sort.CutIn
import Derived.IntWalk
namespace Go.Proofs.Ytkeheickaogpiaa
open Go Go.RowKit Go.Shelf
attribute [local go_sem] Oper.semAt_some
set_option linter.unusedVariables false
set_option linter.unusedSimpArgs false


def dDec1_0 (xs : List UInt8) (x : Int) : List UInt8 := (bif decide (2 ≤ (jK ((List.range 8).map (dK xs x)))) then List.replicate 64 0 else fillL 64 (fwB (fillG 0 8 (dW xs x) 8)) (8 * 8))
set_option maxRecDepth 100000 in
set_option maxHeartbeats 1000000 in
theorem dDec1_any (cc hb cb : Nat) (xs : List UInt8) (hx : xs.length = 72) (x : Int) (h0 : -9223372036854775808 ≤ x) (h1 : x ≤ 9223372036854775807) (w : World) (H : Has [(cc, Obj.cells #[.pointer (some ⟨hb, 0, none⟩), .pointer (some ⟨cb, 0, none⟩)] 61 (0, 0)), (hb, Obj.cells hsN 102 (0, 0))] w) : Calls Try.prog 13 #[.pointer (some ⟨cc, 0, none⟩), .int .i64 1, .agg (rB 72 xs).toArray, .int .i64 x] w fun e w' => e = .returned (.tuple #[.agg (rB 64 (dDec1_0 xs x)).toArray, .agg #[.int .i64 (jK ((List.range 8).map (dK xs x))), .int .i64 (djoin_0 ((List.range 8).map (dK xs x)))]]) ∧ Step [] [] w w' := by
  have OW : Hid (OwnS [cc, hb] w [(cc, Obj.cells #[.pointer (some ⟨hb, 0, none⟩), .pointer (some ⟨cb, 0, none⟩)] 61 (0, 0)), (hb, Obj.cells hsN 102 (0, 0))] w) := Lib.hid (OwnS.start H)
  refine (callsIn_wide (n := 6)).1 ?_
  refine callsIn_of_wp_marks Try.func13 rfl trivial ?_ rfl
  simp only [Try.ntmps13, List.size_toArray, List.length_cons, List.length_nil, Nat.reduceAdd, Nat.reduceSub, Array.replicate_succ, Array.replicate_zero, List.push_toArray, List.append_toArray, List.nil_append, List.cons_append]
  gi_upto_region 0 with fail
  refine wpIn_region_re 5 (fun ηq1 => [.bx 2 27 (.agg (rB 72 xs).toArray),
      .al 3 23 (rB 64 (List.replicate 64 0)).toArray,
      .al 4 30 #[.int .i64 0, .int .i64 0]])
    (fun ηq1 L => L ++ [((ηq1 0).blk 0, Obj.cells (rB 72 xs).toArray 27 (0, 0)), ((ηq1 1).blk 0, Obj.cells (rB 64 (List.replicate 64 0)).toArray 23 (0, 0)), ((ηq1 2).blk 0, Obj.cells #[.int .i64 0, .int .i64 0] 30 (0, 0))]) (by kernel_rfl) OW (fun _ => by kernel_rfl) ?_
  clear OW; intro ηq1 ysq1 Wq1 OW
  simp only [↓putE_cons, ↓putE_nil, valE, Hint.val, Act.put, List.setIfInBounds_toArray, List.set_cons_succ, List.set_cons_zero]
  gi_upto_region 1 with fail
  refine wpIn_region_re 5 (fun ηq2 => [.pv (.int .i64 1),
      .cl 32 #[.int .i64 1] (fun _ => .bool (rightB 1)) [] [] (fun _ => []) (enters_of Try.func32 (by kernel_rfl) rfl) (fun w' _ => cS (callsIn_wide.2 (right_any 1 _))),
      .pv (.bool (!(rightB 1)))])
    (fun ηq2 L => L) (by kernel_rfl) OW (fun _ => by kernel_rfl) ?_
  clear OW; intro ηq2 ysq2 Wq2 OW
  simp only [↓putE_cons, ↓putE_nil, valE, Hint.val, Act.put, List.setIfInBounds_toArray, List.set_cons_succ, List.set_cons_zero]
  cases hB3 : (!(rightB 1))
  case true => exact absurd (hB3.symm.trans (show _ = false from by decide)) (by decide)
  case false =>
    gi_upto_region 3 with fail
    refine wpIn_region_re 7 (fun ηq4 => [.pv (.pointer (some ⟨cc, 0, none⟩)),
        .pv (.int .i64 1),
        .ls (rB 72 xs) 2 0,
        .pv (.int .i64 x),
        .cl 33 #[.pointer (some ⟨cc, 0, none⟩), .int .i64 1, .agg (rB 72 xs).toArray, .int .i64 x] (fun E => .tuple #[.agg (rB 64 (fillL 64 (fwB (fillG 0 8 (dW xs x) 8)) (8 * 8))).toArray, .slice (some ⟨E.blk 0, 0, none⟩) 8 (8 + (E.num 0))]) [(0, (cc, Obj.cells #[.pointer (some ⟨hb, 0, none⟩), .pointer (some ⟨cb, 0, none⟩)] 61 (0, 0))), (1, (hb, Obj.cells hsN 102 (0, 0)))] [] (fun E => [(5, (E.blk 0, Obj.cells (rowZ (slF eI ((List.range 8).map (dK xs x))) [.int .i64 0] (E.num 0)) 3 (0, 0)))]) (enters_of Try.func33 (by kernel_rfl) rfl) (fun w' H => callsIn_wide.2 (ddec1_any cc hb cb xs (by first | rfl | (simp only [List.length_set, List.length_append, List.length_replicate, List.length_cons, List.length_nil, List.length_map, List.length_range, List.length_take, List.length_drop, fillL_len, hx]; done) | (simp only [List.length_set, List.length_append, List.length_replicate, List.length_cons, List.length_nil, List.length_map, List.length_range, List.length_take, List.length_drop, fillL_len, hx]; omega)) x (by omega) (by omega) w' H)),
        .pv (.tuple #[.agg (rB 64 (fillL 64 (fwB (fillG 0 8 (dW xs x) 8)) (8 * 8))).toArray, .slice (some ⟨(ηq4 4).blk 0, 0, none⟩) 8 (8 + ((ηq4 4).num 0))]),
        .pv (.agg (rB 64 (fillL 64 (fwB (fillG 0 8 (dW xs x) 8)) (8 * 8))).toArray),
        .pv (.slice (some ⟨(ηq4 4).blk 0, 0, none⟩) 8 (8 + ((ηq4 4).num 0))),
        .al 6 23 (rB 64 (List.replicate 64 0)).toArray,
        .ss 6 ((ηq4 8).blk 0) 0 23 (rB 64 (fillL 64 (fwB (fillG 0 8 (dW xs x) 8)) (8 * 8))) (rB 64 (fillL 64 (fwB (fillG 0 8 (dW xs x) 8)) (8 * 8))).toArray,
        .pv (.slice (some ⟨(ηq4 4).blk 0, 0, none⟩) 8 (8 + ((ηq4 4).num 0)))])
      (fun ηq4 L => L ++ [((ηq4 4).blk 0, Obj.cells (rowZ (slF eI ((List.range 8).map (dK xs x))) [.int .i64 0] ((ηq4 4).num 0)) 3 (0, 0)), ((ηq4 8).blk 0, Obj.cells (rB 64 (fillL 64 (fwB (fillG 0 8 (dW xs x) 8)) (8 * 8))).toArray 23 (0, 0))]) (by kernel_rfl) OW (fun _ => by kernel_rfl) ?_
    clear OW; intro ηq4 ysq4 Wq4 OW
    simp only [↓putE_cons, ↓putE_nil, valE, Hint.val, Act.put, List.setIfInBounds_toArray, List.set_cons_succ, List.set_cons_zero]
    gi_upto_region 4 with fail
    refine wpIn_region_re 8 (fun ηq5 => [.pv (.slice (some ⟨(ηq4 4).blk 0, 0, none⟩) 8 (8 + ((ηq4 4).num 0))),
        .cl 34 #[.slice (some ⟨(ηq4 4).blk 0, 0, none⟩) 8 (8 + ((ηq4 4).num 0))] (fun E => .agg #[.int .i64 (jK ((List.range 8).map (dK xs x))), .int .i64 (djoin_0 ((List.range 8).map (dK xs x)))]) [(5, ((ηq4 4).blk 0, Obj.cells (rowZ (slF eI ((List.range 8).map (dK xs x))) [.int .i64 0] ((ηq4 4).num 0)) 3 (0, 0)))] [] (fun E => []) (enters_of Try.func34 (by kernel_rfl) rfl) (fun w' H => cN (callsIn_wide.2 (djoin_any ((List.range 8).map (dK xs x)) 8 ((ηq4 4).blk 0) ((ηq4 4).num 0) (by first | rfl | omega | simp) (by omega) w' H))),
        .al 7 30 #[.int .i64 0, .int .i64 0],
        .ss 7 ((ηq5 2).blk 0) 0 30 ([.int .i64 (jK ((List.range 8).map (dK xs x))), .int .i64 (djoin_0 ((List.range 8).map (dK xs x)))]) #[.int .i64 (jK ((List.range 8).map (dK xs x))), .int .i64 (djoin_0 ((List.range 8).map (dK xs x)))]])
      (fun ηq5 L => L ++ [((ηq5 2).blk 0, Obj.cells #[.int .i64 (jK ((List.range 8).map (dK xs x))), .int .i64 (djoin_0 ((List.range 8).map (dK xs x)))] 30 (0, 0))]) (by kernel_rfl) OW (fun _ => by kernel_rfl) ?_
    clear OW; intro ηq5 ysq5 Wq5 OW
    simp only [↓putE_cons, ↓putE_nil, valE, Hint.val, Act.put, List.setIfInBounds_toArray, List.set_cons_succ, List.set_cons_zero]
    gi_upto_region 5 with fail
    refine wpIn_region_re 8 (fun ηq6 => [.pv (.pointer (some ⟨(ηq5 2).blk 0, 0, none⟩)),
        .ld (.int .i64 (jK ((List.range 8).map (dK xs x)))) 7 0,
        .pv (.bool (decide (2 ≤ (jK ((List.range 8).map (dK xs x))))))])
      (fun ηq6 L => L) (by kernel_rfl) OW (fun _ => by kernel_rfl) ?_
    clear OW; intro ηq6 ysq6 Wq6 OW
    simp only [↓putE_cons, ↓putE_nil, valE, Hint.val, Act.put, List.setIfInBounds_toArray, List.set_cons_succ, List.set_cons_zero]
    cases hB7 : (decide (2 ≤ (jK ((List.range 8).map (dK xs x)))))
    case true =>
      have dhB7 := of_decide_eq_true hB7
      gi_upto_region 6 with fail
      refine wpIn_region_re 8 (fun ηq8 => [.pv (.agg (rB 64 (List.replicate 64 0)).toArray),
          .ls ([.int .i64 (jK ((List.range 8).map (dK xs x))), .int .i64 (djoin_0 ((List.range 8).map (dK xs x)))]) 7 0,
          .ss 3 ((ηq1 1).blk 0) 0 23 (rB 64 (List.replicate 64 0)) (rB 64 (List.replicate 64 0)).toArray,
          .ss 4 ((ηq1 2).blk 0) 0 30 ([.int .i64 (jK ((List.range 8).map (dK xs x))), .int .i64 (djoin_0 ((List.range 8).map (dK xs x)))]) #[.int .i64 (jK ((List.range 8).map (dK xs x))), .int .i64 (djoin_0 ((List.range 8).map (dK xs x)))]])
        (fun ηq8 L => L.set 4 ((ηq1 2).blk 0, Obj.cells #[.int .i64 (jK ((List.range 8).map (dK xs x))), .int .i64 (djoin_0 ((List.range 8).map (dK xs x)))] 30 (0, 0))) (by kernel_rfl) OW (fun _ => by kernel_rfl) ?_
      clear OW; intro ηq8 ysq8 Wq8 OW
      simp only [↓putE_cons, ↓putE_nil, valE, Hint.val, Act.put, List.setIfInBounds_toArray, List.set_cons_succ, List.set_cons_zero]
      gi_wp2
      exact leavesS OW [.s (rB 64 (List.replicate 64 0)) 3, .s ([.int .i64 (jK ((List.range 8).map (dK xs x))), .int .i64 (djoin_0 ((List.range 8).map (dK xs x)))]) 4] (by kernel_rfl) fun hO => ⟨(by (try simp only [dDec1_0]); (repeat (first | rw [hB3] | rw [hB7] | rw [cond_true] | rw [cond_false])); try rfl), (by (try simp only [dDec1_0]); (repeat (first | rw [hB3] | rw [hB7] | rw [cond_true] | rw [cond_false])); exact OwnS.fin H hO [] [] [] [0, 1] (by kernel_rfl))⟩
    have dhB7 := of_decide_eq_false hB7
    gi_upto_region 7 with fail
    refine wpIn_region_re 8 (fun ηq9 => [.ls (rB 64 (fillL 64 (fwB (fillG 0 8 (dW xs x) 8)) (8 * 8))) 6 0,
        .ls ([.int .i64 (jK ((List.range 8).map (dK xs x))), .int .i64 (djoin_0 ((List.range 8).map (dK xs x)))]) 7 0,
        .ss 3 ((ηq1 1).blk 0) 0 23 (rB 64 (fillL 64 (fwB (fillG 0 8 (dW xs x) 8)) (8 * 8))) (rB 64 (fillL 64 (fwB (fillG 0 8 (dW xs x) 8)) (8 * 8))).toArray,
        .ss 4 ((ηq1 2).blk 0) 0 30 ([.int .i64 (jK ((List.range 8).map (dK xs x))), .int .i64 (djoin_0 ((List.range 8).map (dK xs x)))]) #[.int .i64 (jK ((List.range 8).map (dK xs x))), .int .i64 (djoin_0 ((List.range 8).map (dK xs x)))]])
      (fun ηq9 L => (L.set 3 ((ηq1 1).blk 0, Obj.cells (rB 64 (fillL 64 (fwB (fillG 0 8 (dW xs x) 8)) (8 * 8))).toArray 23 (0, 0))).set 4 ((ηq1 2).blk 0, Obj.cells #[.int .i64 (jK ((List.range 8).map (dK xs x))), .int .i64 (djoin_0 ((List.range 8).map (dK xs x)))] 30 (0, 0))) (by kernel_rfl) OW (fun _ => by kernel_rfl) ?_
    clear OW; intro ηq9 ysq9 Wq9 OW
    simp only [↓putE_cons, ↓putE_nil, valE, Hint.val, Act.put, List.setIfInBounds_toArray, List.set_cons_succ, List.set_cons_zero]
    gi_wp2
    exact leavesS OW [.s (rB 64 (fillL 64 (fwB (fillG 0 8 (dW xs x) 8)) (8 * 8))) 3, .s ([.int .i64 (jK ((List.range 8).map (dK xs x))), .int .i64 (djoin_0 ((List.range 8).map (dK xs x)))]) 4] (by kernel_rfl) fun hO => ⟨(by (try simp only [dDec1_0]); (repeat (first | rw [hB3] | rw [hB7] | rw [cond_true] | rw [cond_false])); try rfl), (by (try simp only [dDec1_0]); (repeat (first | rw [hB3] | rw [hB7] | rw [cond_true] | rw [cond_false])); exact OwnS.fin H hO [] [] [] [0, 1] (by kernel_rfl))⟩
def dDec2_0 (xs : List UInt8) (x : Int) : List UInt8 := (bif decide (2 ≤ (jK ((List.range 2).map (cK xs x)))) then List.replicate 64 0 else halfT (hvT (cWx xs x) 2) 2)
set_option maxRecDepth 100000 in
set_option maxHeartbeats 1000000 in
theorem dDec2_any (cc hb cb fb gb : Nat) (rest : List Value) (xs : List UInt8) (hx : xs.length = 72) (x : Int) (h0 : -9223372036854775808 ≤ x) (h1 : x ≤ 9223372036854775807) (w : World) (H : Has [(cc, Obj.cells #[.pointer (some ⟨hb, 0, none⟩), .pointer (some ⟨cb, 0, none⟩)] 61 (0, 0)), (cb, Obj.cells #[.pointer (some ⟨fb, 0, none⟩), .slice (some ⟨gb, 0, none⟩) 5 (5 + rest.length)] 109 (0, 0)), (fb, Obj.cells fieldCells 137 (0, 0)), (gb, Obj.cells (rowV genL rest) 5 (0, 0))] w) : Calls Try.prog 13 #[.pointer (some ⟨cc, 0, none⟩), .int .i64 2, .agg (rB 72 xs).toArray, .int .i64 x] w fun e w' => e = .returned (.tuple #[.agg (rB 64 (dDec2_0 xs x)).toArray, .agg #[.int .i64 (jK ((List.range 2).map (cK xs x))), .int .i64 (djoin_0 ((List.range 2).map (cK xs x)))]]) ∧ Step [] [] w w' := by
  have HHT := halfT_len (hvT_len (cWx_len hx x) (Nat.le_refl 2)) (Nat.le_refl 2)
  have OW : Hid (OwnS [cc, cb, fb, gb] w [(cc, Obj.cells #[.pointer (some ⟨hb, 0, none⟩), .pointer (some ⟨cb, 0, none⟩)] 61 (0, 0)), (cb, Obj.cells #[.pointer (some ⟨fb, 0, none⟩), .slice (some ⟨gb, 0, none⟩) 5 (5 + rest.length)] 109 (0, 0)), (fb, Obj.cells fieldCells 137 (0, 0)), (gb, Obj.cells (rowV genL rest) 5 (0, 0))] w) := Lib.hid (OwnS.start H)
  refine (callsIn_wide (n := 6)).1 ?_
  refine callsIn_of_wp_marks Try.func13 rfl trivial ?_ rfl
  simp only [Try.ntmps13, List.size_toArray, List.length_cons, List.length_nil, Nat.reduceAdd, Nat.reduceSub, Array.replicate_succ, Array.replicate_zero, List.push_toArray, List.append_toArray, List.nil_append, List.cons_append]
  gi_upto_region 0 with fail
  refine wpIn_region_re 7 (fun ηq1 => [.bx 4 27 (.agg (rB 72 xs).toArray),
      .al 5 23 (rB 64 (List.replicate 64 0)).toArray,
      .al 6 30 #[.int .i64 0, .int .i64 0]])
    (fun ηq1 L => L ++ [((ηq1 0).blk 0, Obj.cells (rB 72 xs).toArray 27 (0, 0)), ((ηq1 1).blk 0, Obj.cells (rB 64 (List.replicate 64 0)).toArray 23 (0, 0)), ((ηq1 2).blk 0, Obj.cells #[.int .i64 0, .int .i64 0] 30 (0, 0))]) (by kernel_rfl) OW (fun _ => by kernel_rfl) ?_
  clear OW; intro ηq1 ysq1 Wq1 OW
  simp only [↓putE_cons, ↓putE_nil, valE, Hint.val, Act.put, List.setIfInBounds_toArray, List.set_cons_succ, List.set_cons_zero]
  gi_upto_region 1 with fail
  refine wpIn_region_re 7 (fun ηq2 => [.pv (.int .i64 2),
      .cl 32 #[.int .i64 2] (fun _ => .bool (rightB 2)) [] [] (fun _ => []) (enters_of Try.func32 (by kernel_rfl) rfl) (fun w' _ => cS (callsIn_wide.2 (right_any 2 _))),
      .pv (.bool (!(rightB 2)))])
    (fun ηq2 L => L) (by kernel_rfl) OW (fun _ => by kernel_rfl) ?_
  clear OW; intro ηq2 ysq2 Wq2 OW
  simp only [↓putE_cons, ↓putE_nil, valE, Hint.val, Act.put, List.setIfInBounds_toArray, List.set_cons_succ, List.set_cons_zero]
  cases hB3 : (!(rightB 2))
  case true => exact absurd (hB3.symm.trans (show _ = false from by decide)) (by decide)
  case false =>
    gi_upto_region 3 with fail
    refine wpIn_region_re 9 (fun ηq4 => [.pv (.pointer (some ⟨cc, 0, none⟩)),
        .pv (.int .i64 2),
        .ls (rB 72 xs) 4 0,
        .pv (.int .i64 x),
        .cl 33 #[.pointer (some ⟨cc, 0, none⟩), .int .i64 2, .agg (rB 72 xs).toArray, .int .i64 x] (fun E => .tuple #[.agg (rB 64 (halfT (hvT (cWx xs x) 2) 2)).toArray, .slice (some ⟨E.blk 0, 0, none⟩) 2 (2 + (E.num 0))]) [(0, (cc, Obj.cells #[.pointer (some ⟨hb, 0, none⟩), .pointer (some ⟨cb, 0, none⟩)] 61 (0, 0))), (1, (cb, Obj.cells #[.pointer (some ⟨fb, 0, none⟩), .slice (some ⟨gb, 0, none⟩) 5 (5 + rest.length)] 109 (0, 0))), (2, (fb, Obj.cells fieldCells 137 (0, 0))), (3, (gb, Obj.cells (rowV genL rest) 5 (0, 0)))] [] (fun E => [(7, (E.blk 0, Obj.cells (rowZ (slF eI ((List.range 2).map (cK xs x))) [.int .i64 0] (E.num 0)) 3 (0, 0)))]) (enters_of Try.func33 (by kernel_rfl) rfl) (fun w' H => callsIn_wide.2 (ddec2_any cc hb cb fb gb rest xs (by first | rfl | (simp only [List.length_set, List.length_append, List.length_replicate, List.length_cons, List.length_nil, List.length_map, List.length_range, List.length_take, List.length_drop, HHT, hx]; done) | (simp only [List.length_set, List.length_append, List.length_replicate, List.length_cons, List.length_nil, List.length_map, List.length_range, List.length_take, List.length_drop, HHT, hx]; omega)) x (by omega) (by omega) w' H)),
        .pv (.tuple #[.agg (rB 64 (halfT (hvT (cWx xs x) 2) 2)).toArray, .slice (some ⟨(ηq4 4).blk 0, 0, none⟩) 2 (2 + ((ηq4 4).num 0))]),
        .pv (.agg (rB 64 (halfT (hvT (cWx xs x) 2) 2)).toArray),
        .pv (.slice (some ⟨(ηq4 4).blk 0, 0, none⟩) 2 (2 + ((ηq4 4).num 0))),
        .al 8 23 (rB 64 (List.replicate 64 0)).toArray,
        .ss 8 ((ηq4 8).blk 0) 0 23 (rB 64 (halfT (hvT (cWx xs x) 2) 2)) (rB 64 (halfT (hvT (cWx xs x) 2) 2)).toArray,
        .pv (.slice (some ⟨(ηq4 4).blk 0, 0, none⟩) 2 (2 + ((ηq4 4).num 0)))])
      (fun ηq4 L => L ++ [((ηq4 4).blk 0, Obj.cells (rowZ (slF eI ((List.range 2).map (cK xs x))) [.int .i64 0] ((ηq4 4).num 0)) 3 (0, 0)), ((ηq4 8).blk 0, Obj.cells (rB 64 (halfT (hvT (cWx xs x) 2) 2)).toArray 23 (0, 0))]) (by kernel_rfl) OW (fun _ => by kernel_rfl) ?_
    clear OW; intro ηq4 ysq4 Wq4 OW
    simp only [↓putE_cons, ↓putE_nil, valE, Hint.val, Act.put, List.setIfInBounds_toArray, List.set_cons_succ, List.set_cons_zero]
    gi_upto_region 4 with fail
    refine wpIn_region_re 10 (fun ηq5 => [.pv (.slice (some ⟨(ηq4 4).blk 0, 0, none⟩) 2 (2 + ((ηq4 4).num 0))),
        .cl 34 #[.slice (some ⟨(ηq4 4).blk 0, 0, none⟩) 2 (2 + ((ηq4 4).num 0))] (fun E => .agg #[.int .i64 (jK ((List.range 2).map (cK xs x))), .int .i64 (djoin_0 ((List.range 2).map (cK xs x)))]) [(7, ((ηq4 4).blk 0, Obj.cells (rowZ (slF eI ((List.range 2).map (cK xs x))) [.int .i64 0] ((ηq4 4).num 0)) 3 (0, 0)))] [] (fun E => []) (enters_of Try.func34 (by kernel_rfl) rfl) (fun w' H => cN (callsIn_wide.2 (djoin_any ((List.range 2).map (cK xs x)) 2 ((ηq4 4).blk 0) ((ηq4 4).num 0) (by first | rfl | omega | simp) (by omega) w' H))),
        .al 9 30 #[.int .i64 0, .int .i64 0],
        .ss 9 ((ηq5 2).blk 0) 0 30 ([.int .i64 (jK ((List.range 2).map (cK xs x))), .int .i64 (djoin_0 ((List.range 2).map (cK xs x)))]) #[.int .i64 (jK ((List.range 2).map (cK xs x))), .int .i64 (djoin_0 ((List.range 2).map (cK xs x)))]])
      (fun ηq5 L => L ++ [((ηq5 2).blk 0, Obj.cells #[.int .i64 (jK ((List.range 2).map (cK xs x))), .int .i64 (djoin_0 ((List.range 2).map (cK xs x)))] 30 (0, 0))]) (by kernel_rfl) OW (fun _ => by kernel_rfl) ?_
    clear OW; intro ηq5 ysq5 Wq5 OW
    simp only [↓putE_cons, ↓putE_nil, valE, Hint.val, Act.put, List.setIfInBounds_toArray, List.set_cons_succ, List.set_cons_zero]
    gi_upto_region 5 with fail
    refine wpIn_region_re 10 (fun ηq6 => [.pv (.pointer (some ⟨(ηq5 2).blk 0, 0, none⟩)),
        .ld (.int .i64 (jK ((List.range 2).map (cK xs x)))) 9 0,
        .pv (.bool (decide (2 ≤ (jK ((List.range 2).map (cK xs x))))))])
      (fun ηq6 L => L) (by kernel_rfl) OW (fun _ => by kernel_rfl) ?_
    clear OW; intro ηq6 ysq6 Wq6 OW
    simp only [↓putE_cons, ↓putE_nil, valE, Hint.val, Act.put, List.setIfInBounds_toArray, List.set_cons_succ, List.set_cons_zero]
    cases hB7 : (decide (2 ≤ (jK ((List.range 2).map (cK xs x)))))
    case true =>
      have dhB7 := of_decide_eq_true hB7
      gi_upto_region 6 with fail
      refine wpIn_region_re 10 (fun ηq8 => [.pv (.agg (rB 64 (List.replicate 64 0)).toArray),
          .ls ([.int .i64 (jK ((List.range 2).map (cK xs x))), .int .i64 (djoin_0 ((List.range 2).map (cK xs x)))]) 9 0,
          .ss 5 ((ηq1 1).blk 0) 0 23 (rB 64 (List.replicate 64 0)) (rB 64 (List.replicate 64 0)).toArray,
          .ss 6 ((ηq1 2).blk 0) 0 30 ([.int .i64 (jK ((List.range 2).map (cK xs x))), .int .i64 (djoin_0 ((List.range 2).map (cK xs x)))]) #[.int .i64 (jK ((List.range 2).map (cK xs x))), .int .i64 (djoin_0 ((List.range 2).map (cK xs x)))]])
        (fun ηq8 L => L.set 6 ((ηq1 2).blk 0, Obj.cells #[.int .i64 (jK ((List.range 2).map (cK xs x))), .int .i64 (djoin_0 ((List.range 2).map (cK xs x)))] 30 (0, 0))) (by kernel_rfl) OW (fun _ => by kernel_rfl) ?_
      clear OW; intro ηq8 ysq8 Wq8 OW
      simp only [↓putE_cons, ↓putE_nil, valE, Hint.val, Act.put, List.setIfInBounds_toArray, List.set_cons_succ, List.set_cons_zero]
      gi_wp2
      exact leavesS OW [.s (rB 64 (List.replicate 64 0)) 5, .s ([.int .i64 (jK ((List.range 2).map (cK xs x))), .int .i64 (djoin_0 ((List.range 2).map (cK xs x)))]) 6] (by kernel_rfl) fun hO => ⟨(by (try simp only [dDec2_0]); (repeat (first | rw [hB3] | rw [hB7] | rw [cond_true] | rw [cond_false])); try rfl), (by (try simp only [dDec2_0]); (repeat (first | rw [hB3] | rw [hB7] | rw [cond_true] | rw [cond_false])); exact OwnS.fin H hO [] [] [] [0, 1, 2, 3] (by kernel_rfl))⟩
    have dhB7 := of_decide_eq_false hB7
    gi_upto_region 7 with fail
    refine wpIn_region_re 10 (fun ηq9 => [.ls (rB 64 (halfT (hvT (cWx xs x) 2) 2)) 8 0,
        .ls ([.int .i64 (jK ((List.range 2).map (cK xs x))), .int .i64 (djoin_0 ((List.range 2).map (cK xs x)))]) 9 0,
        .ss 5 ((ηq1 1).blk 0) 0 23 (rB 64 (halfT (hvT (cWx xs x) 2) 2)) (rB 64 (halfT (hvT (cWx xs x) 2) 2)).toArray,
        .ss 6 ((ηq1 2).blk 0) 0 30 ([.int .i64 (jK ((List.range 2).map (cK xs x))), .int .i64 (djoin_0 ((List.range 2).map (cK xs x)))]) #[.int .i64 (jK ((List.range 2).map (cK xs x))), .int .i64 (djoin_0 ((List.range 2).map (cK xs x)))]])
      (fun ηq9 L => (L.set 5 ((ηq1 1).blk 0, Obj.cells (rB 64 (halfT (hvT (cWx xs x) 2) 2)).toArray 23 (0, 0))).set 6 ((ηq1 2).blk 0, Obj.cells #[.int .i64 (jK ((List.range 2).map (cK xs x))), .int .i64 (djoin_0 ((List.range 2).map (cK xs x)))] 30 (0, 0))) (by kernel_rfl) OW (fun _ => by kernel_rfl) ?_
    clear OW; intro ηq9 ysq9 Wq9 OW
    simp only [↓putE_cons, ↓putE_nil, valE, Hint.val, Act.put, List.setIfInBounds_toArray, List.set_cons_succ, List.set_cons_zero]
    gi_wp2
    exact leavesS OW [.s (rB 64 (halfT (hvT (cWx xs x) 2) 2)) 5, .s ([.int .i64 (jK ((List.range 2).map (cK xs x))), .int .i64 (djoin_0 ((List.range 2).map (cK xs x)))]) 6] (by kernel_rfl) fun hO => ⟨(by (try simp only [dDec2_0]); (repeat (first | rw [hB3] | rw [hB7] | rw [cond_true] | rw [cond_false])); try rfl), (by (try simp only [dDec2_0]); (repeat (first | rw [hB3] | rw [hB7] | rw [cond_true] | rw [cond_false])); exact OwnS.fin H hO [] [] [] [0, 1, 2, 3] (by kernel_rfl))⟩
/-- A word as it is laid. -/
def eW1 (l : List UInt8) (x : Int) (p : Bool) (k : Nat) : List UInt8 := lowL (numO l (8 * k) 8) 8 ++ [hck (numO l (8 * k) 8) ((par23 x : Nat) : Int) (dflag_0 p)]
theorem eW1_len (l : List UInt8) (x : Int) (p : Bool) (k : Nat) : (eW1 l x p k).length = 9 := by unfold eW1; rw [List.length_append, lowL_len]; rfl
def eW2 (l : List UInt8) (x : Int) (p : Bool) (k : Nat) : List UInt8 := if k < 2 then chkL ((l.drop (32 * k)).take 32) (dvirt_0 x p) ++ (l.drop (32 * k)).take 32 else List.replicate 36 0
theorem eW2_len {l : List UInt8} (hl : l.length = 64) (x : Int) (p : Bool) (k : Nat) : (eW2 l x p k).length = 36 := by
  unfold eW2
  split
  · rw [List.length_append, chkL_len, List.length_take, List.length_drop]; omega
  · rfl
theorem eW2_lt {l : List UInt8} {x : Int} {p : Bool} {k : Nat} (h : k < 2) : eW2 l x p k = chkL ((l.drop (32 * k)).take 32) (dvirt_0 x p) ++ (l.drop (32 * k)).take 32 := if_pos h
theorem dvirt_len (x : Int) (p : Bool) : (dvirt_0 x p).length = 3 := by unfold dvirt_0; cases p <;> rfl
set_option maxRecDepth 100000 in
set_option maxHeartbeats 1000000 in
theorem dEnc1_any (cc hb cb : Nat) (l : List UInt8) (hl : l.length = 64) (x : Int) (h0 : -9223372036854775808 ≤ x) (h1 : x ≤ 9223372036854775807) (p : Bool) (w : World) (H : Has [(cc, Obj.cells #[.pointer (some ⟨hb, 0, none⟩), .pointer (some ⟨cb, 0, none⟩)] 61 (0, 0)), (hb, Obj.cells hsN 102 (0, 0))] w) : Calls Try.prog 12 #[.pointer (some ⟨cc, 0, none⟩), .int .i64 1, .agg (rB 64 l).toArray, .int .i64 x, .bool p] w fun e w' => e = .returned (.agg (rB 72 (encT 9 (eW1 l x p) 8)).toArray) ∧ Step [] [] w w' := by
  have HEL := True.intro
  have OW : Hid (OwnS [cc, hb] w [(cc, Obj.cells #[.pointer (some ⟨hb, 0, none⟩), .pointer (some ⟨cb, 0, none⟩)] 61 (0, 0)), (hb, Obj.cells hsN 102 (0, 0))] w) := Lib.hid (OwnS.start H)
  refine (callsIn_wide (n := 6)).1 ?_
  refine callsIn_of_wp_marks Try.func12 rfl trivial ?_ rfl
  simp only [Try.ntmps12, List.size_toArray, List.length_cons, List.length_nil, Nat.reduceAdd, Nat.reduceSub, Array.replicate_succ, Array.replicate_zero, List.push_toArray, List.append_toArray, List.nil_append, List.cons_append]
  gi_upto_region 0 with fail
  refine wpIn_region_re 7 (fun ηq1 => [.bx 2 24 (.pointer (some ⟨cc, 0, none⟩)),
      .bx 3 3 (.int .i64 1),
      .bx 4 23 (.agg (rB 64 l).toArray),
      .bx 5 4 (.bool p),
      .al 6 27 (rB 72 (List.replicate 72 0)).toArray])
    (fun ηq1 L => L ++ [((ηq1 0).blk 0, Obj.cells #[.pointer (some ⟨cc, 0, none⟩)] 24 (0, 0)), ((ηq1 1).blk 0, Obj.cells #[.int .i64 1] 3 (0, 0)), ((ηq1 2).blk 0, Obj.cells (rB 64 l).toArray 23 (0, 0)), ((ηq1 3).blk 0, Obj.cells #[.bool p] 4 (0, 0)), ((ηq1 4).blk 0, Obj.cells (rB 72 (List.replicate 72 0)).toArray 27 (0, 0))]) (by kernel_rfl) OW (fun _ => by kernel_rfl) ?_
  clear OW; intro ηq1 ysq1 Wq1 OW
  simp only [↓putE_cons, ↓putE_nil, valE, Hint.val, Act.put, List.setIfInBounds_toArray, List.set_cons_succ, List.set_cons_zero]
  gi_upto_region 1 with fail
  refine wpIn_region_re 8 (fun ηq2 => [.al 7 27 (rB 72 (List.replicate 72 0)).toArray])
    (fun ηq2 L => L ++ [((ηq2 0).blk 0, Obj.cells (rB 72 (List.replicate 72 0)).toArray 27 (0, 0))]) (by kernel_rfl) OW (fun _ => by kernel_rfl) ?_
  clear OW; intro ηq2 ysq2 Wq2 OW
  simp only [↓putE_cons, ↓putE_nil, valE, Hint.val, Act.put, List.setIfInBounds_toArray, List.set_cons_succ, List.set_cons_zero]
  gi_upto_region 2 with fail
  refine wpIn_region_re 8 (fun ηq3 => [.ld (.int .i64 1) 3 0])
    (fun ηq3 L => L) (by kernel_rfl) OW (fun _ => by kernel_rfl) ?_
  clear OW; intro ηq3 ysq3 Wq3 OW
  simp only [↓putE_cons, ↓putE_nil, valE, Hint.val, Act.put, List.setIfInBounds_toArray, List.set_cons_succ, List.set_cons_zero]
  gi_upto_region 3 with fail
  refine wpIn_region_re 8 (fun ηq4 => [.pv (.bool true),
      .pv (.bool true)])
    (fun ηq4 L => L) (by kernel_rfl) OW (fun _ => by kernel_rfl) ?_
  clear OW; intro ηq4 ysq4 Wq4 OW
  simp only [↓putE_cons, ↓putE_nil, valE, Hint.val, Act.put, List.setIfInBounds_toArray, List.set_cons_succ, List.set_cons_zero]
  gi_upto_region 4 with fail
  refine wpIn_region_re 9 (fun ηq5 => [.pv (.int .i64 x),
      .cl 23 #[.int .i64 x] (fun E => .int .i64 ((par23 x : Nat) : Int)) [] [] (fun E => []) (enters_of Try.func23 (by kernel_rfl) rfl) (fun w' H => cB (callsIn_wide.2 (dpar_any x (by omega) (by omega) w'))),
      .al 8 3 #[.int .i64 0],
      .st 8 ((ηq5 2).blk 0) 0 3 (.int .i64 ((par23 x : Nat) : Int)) #[.int .i64 ((par23 x : Nat) : Int)]])
    (fun ηq5 L => L ++ [((ηq5 2).blk 0, Obj.cells #[.int .i64 ((par23 x : Nat) : Int)] 3 (0, 0))]) (by kernel_rfl) OW (fun _ => by kernel_rfl) ?_
  clear OW; intro ηq5 ysq5 Wq5 OW
  simp only [↓putE_cons, ↓putE_nil, valE, Hint.val, Act.put, List.setIfInBounds_toArray, List.set_cons_succ, List.set_cons_zero]
  gi_upto_region 5 with fail
  refine wpIn_region_re 10 (fun ηq6 => [.ls (rB 64 l) 4 0,
      .cl 24 #[.agg (rB 64 l).toArray] (fun E => .func (.func 50) #[] #[.pointer (some ⟨E.blk 0, 0, none⟩)]) [] [] (fun E => [(9, (E.blk 0, Obj.cells (rB 64 l).toArray 23 (0, 0)))]) (enters_of Try.func24 (by kernel_rfl) rfl) (fun w' H => callsIn_wide.2 (dwords_any l (by first | rfl | (simp only [List.length_set, List.length_append, List.length_replicate, List.length_cons, List.length_nil, List.length_map, List.length_range, List.length_take, List.length_drop, lowL_len, HEL, hl]; done) | (simp only [List.length_set, List.length_append, List.length_replicate, List.length_cons, List.length_nil, List.length_map, List.length_range, List.length_take, List.length_drop, lowL_len, HEL, hl]; omega)) w' H))])
    (fun ηq6 L => L ++ [((ηq6 1).blk 0, Obj.cells (rB 64 l).toArray 23 (0, 0))]) (by kernel_rfl) OW (fun _ => by kernel_rfl) ?_
  clear OW; intro ηq6 ysq6 Wq6 OW
  simp only [↓putE_cons, ↓putE_nil, valE, Hint.val, Act.put, List.setIfInBounds_toArray, List.set_cons_succ, List.set_cons_zero]
  gi_wp2
  refine reS_iterA (n := 6) (by omega) (gf := 50) (lb := #[.pointer (some ⟨(ηq6 1).blk 0, 0, none⟩)]) rfl (enters_of Try.func50 (by kernel_rfl) rfl) (encs := fun (x : Nat × Nat) => #[.int .i64 (x.1 : Int), .int .u64 (x.2 : Int)]) (xs := (List.range 8).map fun k => (k, numO l (8 * k) 8)) (KO := [((ηq6 1).blk 0, Obj.cells (rB 64 l).toArray 23 (0, 0))]) (words_it (6 - 1) (by omega) ((ηq6 1).blk 0) l (by first | rfl | (simp only [List.length_set, List.length_append, List.length_replicate, List.length_cons, List.length_nil, List.length_map, List.length_range, List.length_take, List.length_drop, lowL_len, HEL, hl]; done) | (simp only [List.length_set, List.length_append, List.length_replicate, List.length_cons, List.length_nil, List.length_map, List.length_range, List.length_take, List.length_drop, lowL_len, HEL, hl]; omega)))
    (fun k Ls => k ≤ 8 ∧ Ls = [(cc, Obj.cells #[.pointer (some ⟨hb, 0, none⟩), .pointer (some ⟨cb, 0, none⟩)] 61 (0, 0)), (hb, Obj.cells hsN 102 (0, 0)), ((ηq1 0).blk 0, Obj.cells #[.pointer (some ⟨cc, 0, none⟩)] 24 (0, 0)), ((ηq1 1).blk 0, Obj.cells #[.int .i64 1] 3 (0, 0)), ((ηq1 2).blk 0, Obj.cells (rB 64 l).toArray 23 (0, 0)), ((ηq1 3).blk 0, Obj.cells #[.bool p] 4 (0, 0)), ((ηq1 4).blk 0, Obj.cells (rB 72 (List.replicate 72 0)).toArray 27 (0, 0)), ((ηq2 0).blk 0, Obj.cells (rB 72 (encT 9 (eW1 l x p) k)).toArray 27 (0, 0)), ((ηq5 2).blk 0, Obj.cells #[.int .i64 ((par23 x : Nat) : Int)] 3 (0, 0)), ((ηq6 1).blk 0, Obj.cells (rB 64 l).toArray 23 (0, 0))]) (fun _ _ _ => False) OW (by rw [encT_zero]; exact ⟨Nat.zero_le _, rfl⟩) (OW.out.pick [9] _ (by kernel_rfl)).nd ?KOI7 ?KXI7 (fun _ => rfl) ?roundI7 ?doneI7 ?stopI7
  case KOI7 => rintro k Ls ⟨_, rfl⟩ x hx; exact mem_places [9] (by kernel_rfl) x hx
  case KXI7 => exact fun _ _ _ h => h.elim
  case roundI7 =>
    rintro lR k xE Ls W8 hxE ⟨hk9, rfl⟩ OW
    obtain ⟨hkb10, rfl⟩ := range_map_some hxE
    have HNL := numO_lt64 l (8 * k) (k := 8) (by decide)
    have HEL := encT_len (n := 9) (eW1_len l x p) (k := k) (by omega)
    have OW := Lib.hid (show OwnS [cc, hb, (ηq1 0).blk 0, (ηq1 1).blk 0, (ηq1 2).blk 0, (ηq1 3).blk 0, (ηq1 4).blk 0, (ηq2 0).blk 0, (ηq5 2).blk 0, (ηq6 1).blk 0] W8 [(cc, Obj.cells #[.pointer (some ⟨hb, 0, none⟩), .pointer (some ⟨cb, 0, none⟩)] 61 (0, 0)), (hb, Obj.cells hsN 102 (0, 0)), ((ηq1 0).blk 0, Obj.cells #[.pointer (some ⟨cc, 0, none⟩)] 24 (0, 0)), ((ηq1 1).blk 0, Obj.cells #[.int .i64 1] 3 (0, 0)), ((ηq1 2).blk 0, Obj.cells (rB 64 l).toArray 23 (0, 0)), ((ηq1 3).blk 0, Obj.cells #[.bool p] 4 (0, 0)), ((ηq1 4).blk 0, Obj.cells (rB 72 (List.replicate 72 0)).toArray 27 (0, 0)), ((ηq2 0).blk 0, Obj.cells (rB 72 (encT 9 (eW1 l x p) k)).toArray 27 (0, 0)), ((ηq5 2).blk 0, Obj.cells #[.int .i64 ((par23 x : Nat) : Int)] 3 (0, 0)), ((ηq6 1).blk 0, Obj.cells (rB 64 l).toArray 23 (0, 0))] W8 from OW.out)
    gi_upto_region 6 with fail
    refine wpIn_region_re 10 (fun ηq11 => [.pv (.int .i64 (k : Int))])
      (fun ηq11 L => L) (by kernel_rfl) OW (fun _ => by kernel_rfl) ?_
    clear OW; intro ηq11 ysq11 Wq11 OW
    simp only [↓putE_cons, ↓putE_nil, valE, Hint.val, Act.put, List.setIfInBounds_toArray, List.set_cons_succ, List.set_cons_zero]
    gi_upto_region 7 with fail
    refine wpIn_region_re 10 (fun ηq12 => [.pv (.int .u64 ((numO l (8 * k) 8 : Nat) : Int))])
      (fun ηq12 L => L) (by kernel_rfl) OW (fun _ => by kernel_rfl) ?_
    clear OW; intro ηq12 ysq12 Wq12 OW
    simp only [↓putE_cons, ↓putE_nil, valE, Hint.val, Act.put, List.setIfInBounds_toArray, List.set_cons_succ, List.set_cons_zero]
    gi_wp2
    refine ⟨[], OW.out, by kernel_rfl, ?_⟩
    clear OW; intro W13 OW
    have OW := Lib.hid (show OwnS [cc, hb, (ηq1 0).blk 0, (ηq1 1).blk 0, (ηq1 2).blk 0, (ηq1 3).blk 0, (ηq1 4).blk 0, (ηq2 0).blk 0, (ηq5 2).blk 0, (ηq6 1).blk 0] W13 [(cc, Obj.cells #[.pointer (some ⟨hb, 0, none⟩), .pointer (some ⟨cb, 0, none⟩)] 61 (0, 0)), (hb, Obj.cells hsN 102 (0, 0)), ((ηq1 0).blk 0, Obj.cells #[.pointer (some ⟨cc, 0, none⟩)] 24 (0, 0)), ((ηq1 1).blk 0, Obj.cells #[.int .i64 1] 3 (0, 0)), ((ηq1 2).blk 0, Obj.cells (rB 64 l).toArray 23 (0, 0)), ((ηq1 3).blk 0, Obj.cells #[.bool p] 4 (0, 0)), ((ηq1 4).blk 0, Obj.cells (rB 72 (List.replicate 72 0)).toArray 27 (0, 0)), ((ηq2 0).blk 0, Obj.cells (rB 72 (encT 9 (eW1 l x p) k)).toArray 27 (0, 0)), ((ηq5 2).blk 0, Obj.cells #[.int .i64 ((par23 x : Nat) : Int)] 3 (0, 0)), ((ηq6 1).blk 0, Obj.cells (rB 64 l).toArray 23 (0, 0))] W13 from OW.out)
    gi_upto_region 8 with fail
    refine wpIn_region_re 12 (fun ηq14 => [.ls (rB 72 (encT 9 (eW1 l x p) k)) 7 0,
        .ld (.int .i64 1) 3 0,
        .pv (.int .i64 (k : Int)),
        .pv (.int .u64 ((numO l (8 * k) 8 : Nat) : Int)),
        .cl 26 #[.int .u64 ((numO l (8 * k) 8 : Nat) : Int)] (fun E => .slice (some ⟨E.blk 0, 0, none⟩) 8 (8 + (E.num 0))) [] [] (fun E => [(10, (E.blk 0, Obj.cells (rowZ (slF eB (lowL (numO l (8 * k) 8) 8)) [.int .u8 0] (E.num 0)) 5 (0, 0)))]) (enters_of Try.func26 (by kernel_rfl) rfl) (fun w' H => CallsIn.inRound lR (callsIn_wide.2 (dlow_any (numO l (8 * k) 8) (by omega) w' H))),
        .ld (.pointer (some ⟨cc, 0, none⟩)) 2 0,
        .pv (.pointer (some ⟨cc, 0, none⟩)),
        .pv (.pointer (some ⟨cc, 0, none⟩)),
        .ld (.pointer (some ⟨hb, 0, none⟩)) 0 0,
        .pv (.int .u64 ((numO l (8 * k) 8 : Nat) : Int)),
        .ld (.int .i64 ((par23 x : Nat) : Int)) 8 0,
        .ld (.bool p) 5 0,
        .cl 28 #[.bool p] (fun E => .int .i64 (dflag_0 p)) [] [] (fun E => []) (enters_of Try.func28 (by kernel_rfl) rfl) (fun w' H => cB (CallsIn.inRound lR (callsIn_wide.2 (dflag_any p w')))),
        .cl 27 #[.pointer (some ⟨hb, 0, none⟩), .int .u64 ((numO l (8 * k) 8 : Nat) : Int), .int .i64 ((par23 x : Nat) : Int), .int .i64 (dflag_0 p)] (fun E => .int .u8 ((hck (numO l (8 * k) 8) ((par23 x : Nat) : Int) (dflag_0 p)).toNat : Int)) [(1, (hb, Obj.cells hsN 102 (0, 0)))] [] (fun E => []) (enters_of Try.func27 (by kernel_rfl) rfl) (fun w' H => cB (CallsIn.inRound lR (callsIn_wide.2 (hcheck_any hb (numO l (8 * k) 8) (by omega) ((par23 x : Nat) : Int) (dflag_0 p) w' H)))),
        .gn (vS (Instr.buildSlice 56 1 #[(0, .int .u8 ((hck (numO l (8 * k) 8) ((par23 x : Nat) : Int) (dflag_0 p)).toNat : Int))])) (fun E => .slice (some ⟨E.blk 0, 0, none⟩) 1 1) [] [] (fun E => [(11, (E.blk 0, Obj.cells #[.int .u8 ((hck (numO l (8 * k) 8) ((par23 x : Nat) : Int) (dflag_0 p)).toNat : Int)] 5 (0, 0)))]) (acts_new (v := fun g => .slice (some ⟨g, 0, none⟩) 1 1) (fun _ => by kernel_rfl)),
        .gn (sApp 56 56 (.slice (some ⟨(ηq14 4).blk 0, 0, none⟩) 8 (8 + ((ηq14 4).num 0))) (.slice (some ⟨(ηq14 14).blk 0, 0, none⟩) 1 1)) (fun E => .slice (some ⟨E.blk 0, 0, none⟩) 9 (9 + E.num 0)) [(10, ((ηq14 4).blk 0, Obj.cells (rowZ (slF eB (lowL (numO l (8 * k) 8) 8)) [.int .u8 0] ((ηq14 4).num 0)) 5 (0, 0))), (11, ((ηq14 14).blk 0, Obj.cells #[.int .u8 ((hck (numO l (8 * k) 8) ((par23 x : Nat) : Int) (dflag_0 p)).toNat : Int)] 5 (0, 0)))] [(ηq14 4).blk 0] (fun E => [(10, (E.blk 0, Obj.cells (rowZ (slF eB (lowL (numO l (8 * k) 8) 8 ++ [(hck (numO l (8 * k) 8) ((par23 x : Nat) : Int) (dflag_0 p))])) [.int .u8 0] (E.num 0)) 5 (0, 0)))]) (acts_appF (n := 8) (m := 1) (xs := (lowL (numO l (8 * k) 8) 8)) (ys := ([(hck (numO l (8 * k) 8) ((par23 x : Nat) : Int) (dflag_0 p))])) slT_B (slF_lenk (k := 1) (fun _ => rfl) (by first | rfl | omega | (simp only [List.length_set, List.length_append, List.length_replicate, List.length_cons, List.length_nil, List.length_map, List.length_range, List.length_take, List.length_drop, lowL_len, HEL, hl]; try omega))) (slF_lenk (k := 1) (fun _ => rfl) (by first | rfl | omega | (simp only [List.length_set, List.length_append, List.length_replicate, List.length_cons, List.length_nil, List.length_map, List.length_range, List.length_take, List.length_drop, lowL_len, HEL, hl]; try omega))) (by kernel_rfl) (slF_one (fun _ => rfl) ([(hck (numO l (8 * k) 8) ((par23 x : Nat) : Int) (dflag_0 p))])) (by omega)),
        .cl 25 #[.agg (rB 72 (encT 9 (eW1 l x p) k)).toArray, .int .i64 1, .int .i64 (k : Int), .slice (some ⟨(ηq14 15).blk 0, 0, none⟩) 9 (9 + (ηq14 15).num 0)] (fun E => .agg (rB 72 ((encT 9 (eW1 l x p) k).take (9 * k) ++ (lowL (numO l (8 * k) 8) 8 ++ [(hck (numO l (8 * k) 8) ((par23 x : Nat) : Int) (dflag_0 p))]) ++ (encT 9 (eW1 l x p) k).drop ((9 * k) + 9))).toArray) [(10, ((ηq14 15).blk 0, Obj.cells (rowZ (slF eB (lowL (numO l (8 * k) 8) 8 ++ [(hck (numO l (8 * k) 8) ((par23 x : Nat) : Int) (dflag_0 p))])) [.int .u8 0] ((ηq14 15).num 0)) 5 (0, 0)))] [] (fun E => []) (enters_of Try.func25 (by kernel_rfl) rfl) (fun w' H => cN (CallsIn.inRound lR (callsIn_wide.2 (dPut_any (encT 9 (eW1 l x p) k) (lowL (numO l (8 * k) 8) 8 ++ [(hck (numO l (8 * k) 8) ((par23 x : Nat) : Int) (dflag_0 p))]) (by first | rfl | (simp only [List.length_set, List.length_append, List.length_replicate, List.length_cons, List.length_nil, List.length_map, List.length_range, List.length_take, List.length_drop, lowL_len, HEL, hl]; done) | (simp only [List.length_set, List.length_append, List.length_replicate, List.length_cons, List.length_nil, List.length_map, List.length_range, List.length_take, List.length_drop, lowL_len, HEL, hl]; omega)) 1 9 8 k ((ηq14 15).blk 0) ((ηq14 15).num 0) rfl rfl (by omega) (by omega) (by omega) (by omega) (by first | rfl | (simp only [List.length_set, List.length_append, List.length_replicate, List.length_cons, List.length_nil, List.length_map, List.length_range, List.length_take, List.length_drop, lowL_len, HEL, hl]; done) | (simp only [List.length_set, List.length_append, List.length_replicate, List.length_cons, List.length_nil, List.length_map, List.length_range, List.length_take, List.length_drop, lowL_len, HEL, hl]; omega)) w' H)))),
        .ss 7 ((ηq2 0).blk 0) 0 27 (rB 72 ((encT 9 (eW1 l x p) k).take (9 * k) ++ (lowL (numO l (8 * k) 8) 8 ++ [(hck (numO l (8 * k) 8) ((par23 x : Nat) : Int) (dflag_0 p))]) ++ (encT 9 (eW1 l x p) k).drop ((9 * k) + 9))) (rB 72 ((encT 9 (eW1 l x p) k).take (9 * k) ++ (lowL (numO l (8 * k) 8) 8 ++ [(hck (numO l (8 * k) 8) ((par23 x : Nat) : Int) (dflag_0 p))]) ++ (encT 9 (eW1 l x p) k).drop ((9 * k) + 9))).toArray])
      (fun ηq14 L => L.set 7 ((ηq2 0).blk 0, Obj.cells (rB 72 ((encT 9 (eW1 l x p) k).take (9 * k) ++ (lowL (numO l (8 * k) 8) 8 ++ [(hck (numO l (8 * k) 8) ((par23 x : Nat) : Int) (dflag_0 p))]) ++ (encT 9 (eW1 l x p) k).drop ((9 * k) + 9))).toArray 27 (0, 0)) ++ [((ηq14 15).blk 0, Obj.cells (rowZ (slF eB (lowL (numO l (8 * k) 8) 8 ++ [(hck (numO l (8 * k) 8) ((par23 x : Nat) : Int) (dflag_0 p))])) [.int .u8 0] ((ηq14 15).num 0)) 5 (0, 0)), ((ηq14 14).blk 0, Obj.cells #[.int .u8 ((hck (numO l (8 * k) 8) ((par23 x : Nat) : Int) (dflag_0 p)).toNat : Int)] 5 (0, 0))]) (by kernel_rfl) OW (fun _ => by kernel_rfl) ?_
    clear OW; intro ηq14 ysq14 Wq14 OW
    simp only [↓putE_cons, ↓putE_nil, valE, Hint.val, Act.put, List.setIfInBounds_toArray, List.set_cons_succ, List.set_cons_zero]
    gi_wp2
    exact NextS.mk (L' := [(cc, Obj.cells #[.pointer (some ⟨hb, 0, none⟩), .pointer (some ⟨cb, 0, none⟩)] 61 (0, 0)), (hb, Obj.cells hsN 102 (0, 0)), ((ηq1 0).blk 0, Obj.cells #[.pointer (some ⟨cc, 0, none⟩)] 24 (0, 0)), ((ηq1 1).blk 0, Obj.cells #[.int .i64 1] 3 (0, 0)), ((ηq1 2).blk 0, Obj.cells (rB 64 l).toArray 23 (0, 0)), ((ηq1 3).blk 0, Obj.cells #[.bool p] 4 (0, 0)), ((ηq1 4).blk 0, Obj.cells (rB 72 (List.replicate 72 0)).toArray 27 (0, 0)), ((ηq2 0).blk 0, Obj.cells (rB 72 (encT 9 (eW1 l x p) (k + 1))).toArray 27 (0, 0)), ((ηq5 2).blk 0, Obj.cells #[.int .i64 ((par23 x : Nat) : Int)] 3 (0, 0)), ((ηq6 1).blk 0, Obj.cells (rB 64 l).toArray 23 (0, 0))]) OW [0, 1, 2, 3, 4, 5, 6, 7, 8, 9] (by rw [← encT_succ (eW1_len l x p)]; kernel_rfl) ⟨by omega, rfl⟩
  case stopI7 =>
    rintro D c k Ls W2 hi h; exact h.elim
  case doneI7 =>
    rintro D15 Ls W16 hR OW1 OM
    rw [show ((List.range 8).map fun k => (k, numO l (8 * k) 8)).length = 8 from by rw [List.length_map, List.length_range]] at hR
    obtain ⟨_, rfl⟩ := hR
    have OC17 := Lib.hid (Clo.mark (Clo.nil _ _) OM.out)
    clear OW OM
    have OW := Lib.hid (show OwnS [cc, hb, (ηq1 0).blk 0, (ηq1 1).blk 0, (ηq1 2).blk 0, (ηq1 3).blk 0, (ηq1 4).blk 0, (ηq2 0).blk 0, (ηq5 2).blk 0, (ηq6 1).blk 0] W16 [(cc, Obj.cells #[.pointer (some ⟨hb, 0, none⟩), .pointer (some ⟨cb, 0, none⟩)] 61 (0, 0)), (hb, Obj.cells hsN 102 (0, 0)), ((ηq1 0).blk 0, Obj.cells #[.pointer (some ⟨cc, 0, none⟩)] 24 (0, 0)), ((ηq1 1).blk 0, Obj.cells #[.int .i64 1] 3 (0, 0)), ((ηq1 2).blk 0, Obj.cells (rB 64 l).toArray 23 (0, 0)), ((ηq1 3).blk 0, Obj.cells #[.bool p] 4 (0, 0)), ((ηq1 4).blk 0, Obj.cells (rB 72 (List.replicate 72 0)).toArray 27 (0, 0)), ((ηq2 0).blk 0, Obj.cells (rB 72 (encT 9 (eW1 l x p) 8)).toArray 27 (0, 0)), ((ηq5 2).blk 0, Obj.cells #[.int .i64 ((par23 x : Nat) : Int)] 3 (0, 0)), ((ηq6 1).blk 0, Obj.cells (rB 64 l).toArray 23 (0, 0))] W16 from OW1.out)
    clear OW1
    have HEL := encT_len (n := 9) (eW1_len l x p) (k := 8) (by omega)
    gi_upto_region 16 with fail
    refine wpIn_region_re 10 (fun ηq18 => [.ls (rB 72 (encT 9 (eW1 l x p) 8)) 7 0,
        .ss 6 ((ηq1 4).blk 0) 0 27 (rB 72 (encT 9 (eW1 l x p) 8)) (rB 72 (encT 9 (eW1 l x p) 8)).toArray])
      (fun ηq18 L => L.set 6 ((ηq1 4).blk 0, Obj.cells (rB 72 (encT 9 (eW1 l x p) 8)).toArray 27 (0, 0))) (by kernel_rfl) OW (fun _ => by kernel_rfl) ?_
    clear OW; intro ηq18 ysq18 Wq18 OW
    simp only [↓putE_cons, ↓putE_nil, valE, Hint.val, Act.put, List.setIfInBounds_toArray, List.set_cons_succ, List.set_cons_zero]
    gi_wp2
    exact leavesSM OC17 OW [.s (rB 72 (encT 9 (eW1 l x p) 8)) 6] (by kernel_rfl) fun _ hO => ⟨rfl, OwnS.fin H hO [] [] [] [0, 1] (by kernel_rfl)⟩
end Go.Proofs.Ytkeheickaogpiaa
