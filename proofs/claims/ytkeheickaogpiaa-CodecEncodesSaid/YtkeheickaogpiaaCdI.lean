/- The codec: one that answers. -/
import Derived.Test.YtkeheickaogpiaaCdH
import Derived.WalkKit
import Derived.Sort.CutIn
import Derived.IntWalk
namespace Go.Proofs.Ytkeheickaogpiaa
open Go Go.RowKit Go.Shelf
attribute [local go_sem] Oper.semAt_some
set_option linter.unusedVariables false
set_option linter.unusedSimpArgs false


set_option maxRecDepth 100000 in
set_option maxHeartbeats 1000000 in
theorem dcoder_any  (w : World) (H : Has [] w) : Calls Try.prog 11 #[] w fun e w' => ∃ E : Env, e = .returned (.pointer (some ⟨E.blk 0, 0, none⟩)) ∧ Step [] [(E.blk 0, Obj.cells #[.pointer (some ⟨E.blk 1, 0, none⟩), .pointer (some ⟨E.blk 2, 0, none⟩)] 61 (0, 0)), (E.blk 1, Obj.cells hsN 102 (0, 0)), (E.blk 2, Obj.cells #[.pointer (some ⟨E.blk 3, 0, none⟩), .slice (some ⟨E.blk 4, 0, none⟩) 5 (5 + (E.rest 0).length)] 109 (0, 0)), (E.blk 3, Obj.cells fieldCells 137 (0, 0)), (E.blk 4, Obj.cells (rowV genL (E.rest 0)) 5 (0, 0))] w w' := by
  have OW : Hid (OwnS [] w [] w) := Lib.hid (OwnS.start H)
  refine (callsIn_wide (n := 6)).1 ?_
  refine callsIn_of_wp_marks Try.func11 rfl trivial ?_ rfl
  simp only [Try.ntmps11, List.size_toArray, List.length_cons, List.length_nil, Nat.reduceAdd, Nat.reduceSub, Array.replicate_succ, Array.replicate_zero, List.push_toArray, List.append_toArray, List.nil_append, List.cons_append]
  gi_upto_region 0 with fail
  refine wpIn_region_re 0 (fun ηq1 => [.pv (.pointer none)])
    (fun ηq1 L => L) (by kernel_rfl) OW (fun _ => by kernel_rfl) ?_
  clear OW; intro ηq1 ysq1 Wq1 OW
  simp only [↓putE_cons, ↓putE_nil, valE, Hint.val, Act.put, List.setIfInBounds_toArray, List.set_cons_succ, List.set_cons_zero]
  gi_upto_region 1 with fail
  refine wpIn_region_re 5 (fun ηq2 => [.cl 22 #[] (fun E => .pointer (some ⟨E.blk 0, 0, none⟩)) [] [] (fun E => [(0, (E.blk 0, Obj.cells #[.pointer (some ⟨E.blk 1, 0, none⟩), .pointer (some ⟨E.blk 2, 0, none⟩)] 61 (0, 0))), (1, (E.blk 1, Obj.cells hsN 102 (0, 0))), (2, (E.blk 2, Obj.cells #[.pointer (some ⟨E.blk 3, 0, none⟩), .slice (some ⟨E.blk 4, 0, none⟩) 5 (5 + (E.rest 0).length)] 109 (0, 0))), (3, (E.blk 3, Obj.cells fieldCells 137 (0, 0))), (4, (E.blk 4, Obj.cells (rowV genL (E.rest 0)) 5 (0, 0)))]) (enters_of Try.func22 (by kernel_rfl) rfl) (fun w' H => callsIn_wide.2 (dnew_any  w' H)),
      .pv (.pointer (some ⟨(ηq2 0).blk 0, 0, none⟩))])
    (fun ηq2 L => L ++ [((ηq2 0).blk 0, Obj.cells #[.pointer (some ⟨(ηq2 0).blk 1, 0, none⟩), .pointer (some ⟨(ηq2 0).blk 2, 0, none⟩)] 61 (0, 0)), ((ηq2 0).blk 1, Obj.cells hsN 102 (0, 0)), ((ηq2 0).blk 2, Obj.cells #[.pointer (some ⟨(ηq2 0).blk 3, 0, none⟩), .slice (some ⟨(ηq2 0).blk 4, 0, none⟩) 5 (5 + ((ηq2 0).rest 0).length)] 109 (0, 0)), ((ηq2 0).blk 3, Obj.cells fieldCells 137 (0, 0)), ((ηq2 0).blk 4, Obj.cells (rowV genL ((ηq2 0).rest 0)) 5 (0, 0))]) (by kernel_rfl) OW (fun _ => by kernel_rfl) ?_
  clear OW; intro ηq2 ysq2 Wq2 OW
  simp only [↓putE_cons, ↓putE_nil, valE, Hint.val, Act.put, List.setIfInBounds_toArray, List.set_cons_succ, List.set_cons_zero]
  gi_upto_region 2 with fail
  refine wpIn_region_re 5 (fun ηq3 => [.pv (.pointer (some ⟨(ηq2 0).blk 0, 0, none⟩)),
      .pv (.bool false),
      .pv (.bool false),
      .pv (.pointer (some ⟨(ηq2 0).blk 0, 0, none⟩)),
      .pv (.agg (rB 64 (List.replicate 64 0)).toArray),
      .cl 12 #[.pointer (some ⟨(ηq2 0).blk 0, 0, none⟩), .int .i64 1, .agg (rB 64 (List.replicate 64 0)).toArray, .int .i64 0, .bool false] (fun E => .agg (rB 72 (encT 9 (eW1 (List.replicate 64 0) 0 false) 8)).toArray) [(0, ((ηq2 0).blk 0, Obj.cells #[.pointer (some ⟨(ηq2 0).blk 1, 0, none⟩), .pointer (some ⟨(ηq2 0).blk 2, 0, none⟩)] 61 (0, 0))), (1, ((ηq2 0).blk 1, Obj.cells hsN 102 (0, 0)))] [] (fun E => []) (enters_of Try.func12 (by kernel_rfl) rfl) (fun w' H => cN (callsIn_wide.2 (dEnc1_any ((ηq2 0).blk 0) ((ηq2 0).blk 1) ((ηq2 0).blk 2) (List.replicate 64 0) (by first | rfl | (simp only [List.length_set, List.length_append, List.length_replicate, List.length_cons, List.length_nil, List.length_map, List.length_range, List.length_take, List.length_drop, flipI_length, fillL_len]; done) | (simp only [List.length_set, List.length_append, List.length_replicate, List.length_cons, List.length_nil, List.length_map, List.length_range, List.length_take, List.length_drop, flipI_length, fillL_len]; omega)) 0 (by omega) (by omega) false w' H))),
      .pv (.agg (rB 72 (List.replicate 72 0)).toArray),
      .tv (.bool (!(decide (encT 9 (eW1 (List.replicate 64 0) 0 false) 8 = List.replicate 72 0)))) (sBin .neq 27 (.tmp 10) (.tmp 11) (.agg (rB 72 (encT 9 (eW1 (List.replicate 64 0) 0 false) 8)).toArray) (.agg (rB 72 (List.replicate 72 0)).toArray)) (fun _ => bin_neT (xs := rB 72 (encT 9 (eW1 (List.replicate 64 0) 0 false) 8)) (ys := rB 72 (List.replicate 72 0)) (by kernel_rfl) (eqc_rB (show (encT 9 (eW1 (List.replicate 64 0) 0 false) 8).length = 72 by first | rfl | (simp only [List.length_set, List.length_append, List.length_replicate, List.length_cons, List.length_nil, List.length_map, List.length_range, List.length_take, List.length_drop, flipI_length, fillL_len]; done) | (simp only [List.length_set, List.length_append, List.length_replicate, List.length_cons, List.length_nil, List.length_map, List.length_range, List.length_take, List.length_drop, flipI_length, fillL_len]; omega)) List.length_replicate)),
      .pk (.bool (!(decide (encT 9 (eW1 (List.replicate 64 0) 0 false) 8 = List.replicate 72 0)))),
      .pv (.bool (!(decide (encT 9 (eW1 (List.replicate 64 0) 0 false) 8 = List.replicate 72 0)))),
      .pv (.pointer (some ⟨(ηq2 0).blk 0, 0, none⟩)),
      .pv (.agg (rB 64 (List.replicate 64 0)).toArray),
      .cl 12 #[.pointer (some ⟨(ηq2 0).blk 0, 0, none⟩), .int .i64 2, .agg (rB 64 (List.replicate 64 0)).toArray, .int .i64 0, .bool false] (fun E => .agg (rB 72 (encT 36 (eW2 (List.replicate 64 0) 0 false) 2)).toArray) [(0, ((ηq2 0).blk 0, Obj.cells #[.pointer (some ⟨(ηq2 0).blk 1, 0, none⟩), .pointer (some ⟨(ηq2 0).blk 2, 0, none⟩)] 61 (0, 0))), (2, ((ηq2 0).blk 2, Obj.cells #[.pointer (some ⟨(ηq2 0).blk 3, 0, none⟩), .slice (some ⟨(ηq2 0).blk 4, 0, none⟩) 5 (5 + ((ηq2 0).rest 0).length)] 109 (0, 0))), (3, ((ηq2 0).blk 3, Obj.cells fieldCells 137 (0, 0))), (4, ((ηq2 0).blk 4, Obj.cells (rowV genL ((ηq2 0).rest 0)) 5 (0, 0)))] [] (fun E => []) (enters_of Try.func12 (by kernel_rfl) rfl) (fun w' H => cN (callsIn_wide.2 (dEnc2_any ((ηq2 0).blk 0) ((ηq2 0).blk 1) ((ηq2 0).blk 2) ((ηq2 0).blk 3) ((ηq2 0).blk 4) ((ηq2 0).rest 0) (List.replicate 64 0) (by first | rfl | (simp only [List.length_set, List.length_append, List.length_replicate, List.length_cons, List.length_nil, List.length_map, List.length_range, List.length_take, List.length_drop, flipI_length, fillL_len]; done) | (simp only [List.length_set, List.length_append, List.length_replicate, List.length_cons, List.length_nil, List.length_map, List.length_range, List.length_take, List.length_drop, flipI_length, fillL_len]; omega)) 0 (by omega) (by omega) false w' H))),
      .pv (.agg (rB 72 (List.replicate 72 0)).toArray),
      .tv (.bool (!(decide (encT 36 (eW2 (List.replicate 64 0) 0 false) 2 = List.replicate 72 0)))) (sBin .neq 27 (.tmp 17) (.tmp 18) (.agg (rB 72 (encT 36 (eW2 (List.replicate 64 0) 0 false) 2)).toArray) (.agg (rB 72 (List.replicate 72 0)).toArray)) (fun _ => bin_neT (xs := rB 72 (encT 36 (eW2 (List.replicate 64 0) 0 false) 2)) (ys := rB 72 (List.replicate 72 0)) (by kernel_rfl) (eqc_rB (show (encT 36 (eW2 (List.replicate 64 0) 0 false) 2).length = 72 by first | rfl | (simp only [List.length_set, List.length_append, List.length_replicate, List.length_cons, List.length_nil, List.length_map, List.length_range, List.length_take, List.length_drop, flipI_length, fillL_len]; done) | (simp only [List.length_set, List.length_append, List.length_replicate, List.length_cons, List.length_nil, List.length_map, List.length_range, List.length_take, List.length_drop, flipI_length, fillL_len]; omega)) List.length_replicate)),
      .pk (.bool ((!(decide (encT 9 (eW1 (List.replicate 64 0) 0 false) 8 = List.replicate 72 0))) || (!(decide (encT 36 (eW2 (List.replicate 64 0) 0 false) 2 = List.replicate 72 0)))))])
    (fun ηq3 L => L) (by kernel_rfl) OW (fun _ => by kernel_rfl) ?_
  clear OW; intro ηq3 ysq3 Wq3 OW
  simp only [↓putE_cons, ↓putE_nil, valE, Hint.val, Act.put, List.setIfInBounds_toArray, List.set_cons_succ, List.set_cons_zero]
  cases hB4 : ((!(decide (encT 9 (eW1 (List.replicate 64 0) 0 false) 8 = List.replicate 72 0))) || (!(decide (encT 36 (eW2 (List.replicate 64 0) 0 false) 2 = List.replicate 72 0))))
  case true => exact absurd (hB4.symm.trans (show _ = false from by decide +kernel)) (by decide)
  case false =>
    gi_upto_region 4 with fail
    refine wpIn_region_re 7 (fun ηq5 => [.pv (.pointer (some ⟨(ηq2 0).blk 0, 0, none⟩)),
        .pv (.agg (rB 72 (List.replicate 72 0)).toArray),
        .cl 21 #[.agg (rB 72 (List.replicate 72 0)).toArray, .int .i64 3] (fun _ => .agg (rB 72 (flipI (List.replicate 72 0) 3)).toArray) [] [] (fun _ => []) (enters_of Try.func21 (by kernel_rfl) rfl) (fun w' _ => by rw [rB_raw (n := 72) (xs := List.replicate 72 0) List.length_replicate, rB_raw (n := 72) (xs := flipI (List.replicate 72 0) 3) (show (flipI (List.replicate 72 0) 3).length = 72 by first | rfl | (simp only [List.length_set, List.length_append, List.length_replicate, List.length_cons, List.length_nil, List.length_map, List.length_range, List.length_take, List.length_drop, flipI_length, fillL_len]; done) | (simp only [List.length_set, List.length_append, List.length_replicate, List.length_cons, List.length_nil, List.length_map, List.length_range, List.length_take, List.length_drop, flipI_length, fillL_len]; omega))]; exact cB (callsIn_wide.2 (rflip_any (List.replicate 72 0) (by first | rfl | (simp only [List.length_set, List.length_append, List.length_replicate, List.length_cons, List.length_nil, List.length_map, List.length_range, List.length_take, List.length_drop, flipI_length, fillL_len]; done) | (simp only [List.length_set, List.length_append, List.length_replicate, List.length_cons, List.length_nil, List.length_map, List.length_range, List.length_take, List.length_drop, flipI_length, fillL_len]; omega)) 3 (by omega) (by omega) _))),
        .cl 13 #[.pointer (some ⟨(ηq2 0).blk 0, 0, none⟩), .int .i64 1, .agg (rB 72 (flipI (List.replicate 72 0) 3)).toArray, .int .i64 0] (fun E => .tuple #[.agg (rB 64 (dDec1_0 (flipI (List.replicate 72 0) 3) 0)).toArray, .agg #[.int .i64 (jK ((List.range 8).map (dK (flipI (List.replicate 72 0) 3) 0))), .int .i64 (djoin_0 ((List.range 8).map (dK (flipI (List.replicate 72 0) 3) 0)))]]) [(0, ((ηq2 0).blk 0, Obj.cells #[.pointer (some ⟨(ηq2 0).blk 1, 0, none⟩), .pointer (some ⟨(ηq2 0).blk 2, 0, none⟩)] 61 (0, 0))), (1, ((ηq2 0).blk 1, Obj.cells hsN 102 (0, 0)))] [] (fun E => []) (enters_of Try.func13 (by kernel_rfl) rfl) (fun w' H => cN (callsIn_wide.2 (dDec1_any ((ηq2 0).blk 0) ((ηq2 0).blk 1) ((ηq2 0).blk 2) (flipI (List.replicate 72 0) 3) (by first | rfl | (simp only [List.length_set, List.length_append, List.length_replicate, List.length_cons, List.length_nil, List.length_map, List.length_range, List.length_take, List.length_drop, flipI_length, fillL_len]; done) | (simp only [List.length_set, List.length_append, List.length_replicate, List.length_cons, List.length_nil, List.length_map, List.length_range, List.length_take, List.length_drop, flipI_length, fillL_len]; omega)) 0 (by omega) (by omega) w' H))),
        .pv (.tuple #[.agg (rB 64 (dDec1_0 (flipI (List.replicate 72 0) 3) 0)).toArray, .agg #[.int .i64 (jK ((List.range 8).map (dK (flipI (List.replicate 72 0) 3) 0))), .int .i64 (djoin_0 ((List.range 8).map (dK (flipI (List.replicate 72 0) 3) 0)))]]),
        .pv (.agg (rB 64 (dDec1_0 (flipI (List.replicate 72 0) 3) 0)).toArray),
        .pv (.agg #[.int .i64 (jK ((List.range 8).map (dK (flipI (List.replicate 72 0) 3) 0))), .int .i64 (djoin_0 ((List.range 8).map (dK (flipI (List.replicate 72 0) 3) 0)))]),
        .al 5 23 (rB 64 (List.replicate 64 0)).toArray,
        .al 6 30 #[.int .i64 0, .int .i64 0],
        .ss 5 ((ηq5 7).blk 0) 0 23 (rB 64 (dDec1_0 (flipI (List.replicate 72 0) 3) 0)) (rB 64 (dDec1_0 (flipI (List.replicate 72 0) 3) 0)).toArray,
        .ss 6 ((ηq5 8).blk 0) 0 30 ([.int .i64 (jK ((List.range 8).map (dK (flipI (List.replicate 72 0) 3) 0))), .int .i64 (djoin_0 ((List.range 8).map (dK (flipI (List.replicate 72 0) 3) 0)))]) #[.int .i64 (jK ((List.range 8).map (dK (flipI (List.replicate 72 0) 3) 0))), .int .i64 (djoin_0 ((List.range 8).map (dK (flipI (List.replicate 72 0) 3) 0)))]])
      (fun ηq5 L => L ++ [((ηq5 7).blk 0, Obj.cells (rB 64 (dDec1_0 (flipI (List.replicate 72 0) 3) 0)).toArray 23 (0, 0)), ((ηq5 8).blk 0, Obj.cells #[.int .i64 (jK ((List.range 8).map (dK (flipI (List.replicate 72 0) 3) 0))), .int .i64 (djoin_0 ((List.range 8).map (dK (flipI (List.replicate 72 0) 3) 0)))] 30 (0, 0))]) (by kernel_rfl) OW (fun _ => by kernel_rfl) ?_
    clear OW; intro ηq5 ysq5 Wq5 OW
    simp only [↓putE_cons, ↓putE_nil, valE, Hint.val, Act.put, List.setIfInBounds_toArray, List.set_cons_succ, List.set_cons_zero]
    gi_upto_region 5 with fail
    refine wpIn_region_re 7 (fun ηq6 => [.ls ([.int .i64 (jK ((List.range 8).map (dK (flipI (List.replicate 72 0) 3) 0))), .int .i64 (djoin_0 ((List.range 8).map (dK (flipI (List.replicate 72 0) 3) 0)))]) 6 0,
        .pv (.agg #[.int .i64 1, .int .i64 1]),
        .tv (.bool (!((jK ((List.range 8).map (dK (flipI (List.replicate 72 0) 3) 0))) == 1 && ((djoin_0 ((List.range 8).map (dK (flipI (List.replicate 72 0) 3) 0))) == 1 && true)))) (sBin .neq 30 (.tmp 28) (.tmp 29) (.agg #[.int .i64 (jK ((List.range 8).map (dK (flipI (List.replicate 72 0) 3) 0))), .int .i64 (djoin_0 ((List.range 8).map (dK (flipI (List.replicate 72 0) 3) 0)))]) (.agg #[.int .i64 1, .int .i64 1])) (fun _ => bin_neT (xs := [.int .i64 (jK ((List.range 8).map (dK (flipI (List.replicate 72 0) 3) 0))), .int .i64 (djoin_0 ((List.range 8).map (dK (flipI (List.replicate 72 0) 3) 0)))]) (ys := [.int .i64 1, .int .i64 1]) (by kernel_rfl) (by rfl))])
      (fun ηq6 L => L) (by kernel_rfl) OW (fun _ => by kernel_rfl) ?_
    clear OW; intro ηq6 ysq6 Wq6 OW
    simp only [↓putE_cons, ↓putE_nil, valE, Hint.val, Act.put, List.setIfInBounds_toArray, List.set_cons_succ, List.set_cons_zero]
    cases hB7 : (!((jK ((List.range 8).map (dK (flipI (List.replicate 72 0) 3) 0))) == 1 && ((djoin_0 ((List.range 8).map (dK (flipI (List.replicate 72 0) 3) 0))) == 1 && true)))
    case true => exact absurd (hB7.symm.trans (show _ = false from by decide +kernel)) (by decide)
    case false =>
      gi_upto_region 7 with fail
      refine wpIn_region_re 7 (fun ηq8 => [.pv (.pointer (some ⟨(ηq2 0).blk 0, 0, none⟩)),
          .pv (.pointer (some ⟨(ηq2 0).blk 0, 0, none⟩))])
        (fun ηq8 L => L) (by kernel_rfl) OW (fun _ => by kernel_rfl) ?_
      clear OW; intro ηq8 ysq8 Wq8 OW
      simp only [↓putE_cons, ↓putE_nil, valE, Hint.val, Act.put, List.setIfInBounds_toArray, List.set_cons_succ, List.set_cons_zero]
      gi_wp2
      exact leavesS OW [.t (.pointer (some ⟨(ηq2 0).blk 0, 0, none⟩))] (by kernel_rfl) fun hO => ⟨⟨fun k => ([(ηq2 0).blk 0, (ηq2 0).blk 1, (ηq2 0).blk 2, (ηq2 0).blk 3, (ηq2 0).blk 4] : List Nat).getD k 0, fun k => ([(ηq2 0).rest 0] : List (List Value)).getD k [], fun k => ([] : List Nat).getD k 0⟩, rfl, OwnS.fin H hO [] [((ηq2 0).blk 0, Obj.cells #[.pointer (some ⟨(ηq2 0).blk 1, 0, none⟩), .pointer (some ⟨(ηq2 0).blk 2, 0, none⟩)] 61 (0, 0)), ((ηq2 0).blk 1, Obj.cells hsN 102 (0, 0)), ((ηq2 0).blk 2, Obj.cells #[.pointer (some ⟨(ηq2 0).blk 3, 0, none⟩), .slice (some ⟨(ηq2 0).blk 4, 0, none⟩) 5 (5 + ((ηq2 0).rest 0).length)] 109 (0, 0)), ((ηq2 0).blk 3, Obj.cells fieldCells 137 (0, 0)), ((ηq2 0).blk 4, Obj.cells (rowV genL ((ηq2 0).rest 0)) 5 (0, 0))] [0, 1, 2, 3, 4] [] (by kernel_rfl)⟩
end Go.Proofs.Ytkeheickaogpiaa
