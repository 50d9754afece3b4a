/- CodecChips, walked. -/
import Derived.Test.YtkeheickaogpiaaCdJ
import Derived.Test.YtkeheickaogpiaaCmM
import Derived.WalkKit
import Derived.Sort.CutIn
import Derived.IntWalk
namespace Go.Proofs.Ytkeheickaogpiaa
open Go Go.RowKit Go.Shelf
attribute [local go_sem] Oper.semAt_some
set_option linter.unusedVariables false
set_option linter.unusedSimpArgs false


def CodecChips2_0 (l : List UInt8) (x : Int) (c : Int) (v : UInt8) (b : Int) : Bool := (bif ((!(decide ((dDec2_0 (chipB 2 (encT 36 (eW2 l x false) 2) c (v)) x) = l))) || (decide (1 < (jK ((List.range 2).map (cK (chipB 2 (encT 36 (eW2 l x false) 2) c (v)) x)))))) || (((jK ((List.range 2).map (cK (chipB 2 (encT 36 (eW2 l x false) 2) c (v)) x))) == 0) != (decide (chipB 2 (encT 36 (eW2 l x false) 2) c (v) = encT 36 (eW2 l x false) 2))) then false else (bif decide (((expo 2 (encT 36 (eW2 l x false) 2) (flipI (chipB 2 (encT 36 (eW2 l x false) 2) c (v)) b) : Nat) : Int) < 2) then decide ((dDec2_0 (flipI (chipB 2 (encT 36 (eW2 l x false) 2) c (v)) b) x) = l) else ((jK ((List.range 2).map (cK (flipI (chipB 2 (encT 36 (eW2 l x false) 2) c (v)) b) x))) == 3) && (decide ((dDec2_0 (flipI (chipB 2 (encT 36 (eW2 l x false) 2) c (v)) b) x) = List.replicate 64 0))))
set_option maxRecDepth 100000 in
set_option maxHeartbeats 1000000 in
theorem CodecChips2_any (l : List UInt8) (hl : l.length = 64) (x : Int) (h0 : -9223372036854775808 ≤ x) (h1 : x ≤ 9223372036854775807) (c : Int) (v : UInt8) (b : Int) (h2 : -9223372036854775808 ≤ b) (h3 : b ≤ 9223372036854775807) (w : World) : Calls Try.prog 10 #[.agg (rB 64 l).toArray, .int .i64 x, .int .i64 c, .int .u8 ((v).toNat : Int), .int .i64 b] w fun e w' => e = .returned (.bool (CodecChips2_0 l x c v b)) ∧ Below w.heap.size w w' := by
  have HEN := fun (x : Int) (p : Bool) => encT_len (n := 36) (eW2_len hl x p) (k := 2) (by decide)
  have HCL : ∀ x p, (chipB 2 (encT 36 (eW2 l x p) 2) c v).length = 72 := fun x p => chipB_len (HEN x p)
  have HDC : ∀ r : List UInt8, r.length = 72 → ∀ x, (dDec2_0 r x).length = 64 := fun r hr x => by have h9 := halfT_len (hvT_len (cWx_len hr x) (Nat.le_refl 2)) (Nat.le_refl 2); unfold dDec2_0; cases (decide (2 ≤ jK ((List.range 2).map (cK r x)))) <;> simp [h9]
  have H : Has [] w := has_nil
  have OW : Hid (OwnS [] w [] w) := Lib.hid (OwnS.start H)
  refine (callsIn_wide (n := 6)).1 ?_
  refine callsIn_of_wp_marks Try.func10 rfl trivial ?_ rfl
  simp only [Try.ntmps10, List.size_toArray, List.length_cons, List.length_nil, Nat.reduceAdd, Nat.reduceSub, Array.replicate_succ, Array.replicate_zero, List.push_toArray, List.append_toArray, List.nil_append, List.cons_append]
  gi_upto_region 0 with fail
  refine wpIn_region_re 1 (fun ηq1 => [.bx 0 23 (.agg (rB 64 l).toArray),
      .pv (.bool false)])
    (fun ηq1 L => L ++ [((ηq1 0).blk 0, Obj.cells (rB 64 l).toArray 23 (0, 0))]) (by kernel_rfl) OW (fun _ => by kernel_rfl) ?_
  clear OW; intro ηq1 ysq1 Wq1 OW
  simp only [↓putE_cons, ↓putE_nil, valE, Hint.val, Act.put, List.setIfInBounds_toArray, List.set_cons_succ, List.set_cons_zero]
  gi_upto_region 1 with fail
  refine wpIn_region_re 6 (fun ηq2 => [.cl 11 #[] (fun E => .pointer (some ⟨E.blk 0, 0, none⟩)) [] [] (fun E => [(1, (E.blk 0, Obj.cells #[.pointer (some ⟨E.blk 1, 0, none⟩), .pointer (some ⟨E.blk 2, 0, none⟩)] 61 (0, 0))), (2, (E.blk 1, Obj.cells hsN 102 (0, 0))), (3, (E.blk 2, Obj.cells #[.pointer (some ⟨E.blk 3, 0, none⟩), .slice (some ⟨E.blk 4, 0, none⟩) 5 (5 + (E.rest 0).length)] 109 (0, 0))), (4, (E.blk 3, Obj.cells fieldCells 137 (0, 0))), (5, (E.blk 4, Obj.cells (rowV genL (E.rest 0)) 5 (0, 0)))]) (enters_of Try.func11 (by kernel_rfl) rfl) (fun w' H => callsIn_wide.2 (dcoder_any  w' H)),
      .pv (.pointer (some ⟨(ηq2 0).blk 0, 0, none⟩))])
    (fun ηq2 L => L ++ [((ηq2 0).blk 0, Obj.cells #[.pointer (some ⟨(ηq2 0).blk 1, 0, none⟩), .pointer (some ⟨(ηq2 0).blk 2, 0, none⟩)] 61 (0, 0)), ((ηq2 0).blk 1, Obj.cells hsN 102 (0, 0)), ((ηq2 0).blk 2, Obj.cells #[.pointer (some ⟨(ηq2 0).blk 3, 0, none⟩), .slice (some ⟨(ηq2 0).blk 4, 0, none⟩) 5 (5 + ((ηq2 0).rest 0).length)] 109 (0, 0)), ((ηq2 0).blk 3, Obj.cells fieldCells 137 (0, 0)), ((ηq2 0).blk 4, Obj.cells (rowV genL ((ηq2 0).rest 0)) 5 (0, 0))]) (by kernel_rfl) OW (fun _ => by kernel_rfl) ?_
  clear OW; intro ηq2 ysq2 Wq2 OW
  simp only [↓putE_cons, ↓putE_nil, valE, Hint.val, Act.put, List.setIfInBounds_toArray, List.set_cons_succ, List.set_cons_zero]
  gi_upto_region 2 with fail
  refine wpIn_region_re 6 (fun ηq3 => [.pv (.pointer (some ⟨(ηq2 0).blk 0, 0, none⟩)),
      .pv (.bool false)])
    (fun ηq3 L => L) (by kernel_rfl) OW (fun _ => by kernel_rfl) ?_
  clear OW; intro ηq3 ysq3 Wq3 OW
  simp only [↓putE_cons, ↓putE_nil, valE, Hint.val, Act.put, List.setIfInBounds_toArray, List.set_cons_succ, List.set_cons_zero]
  gi_upto_region 4 with fail
  refine wpIn_region_re 7 (fun ηq4 => [.pv (.pointer (some ⟨(ηq2 0).blk 0, 0, none⟩)),
      .ls (rB 64 l) 0 0,
      .pv (.int .i64 x),
      .cl 12 #[.pointer (some ⟨(ηq2 0).blk 0, 0, none⟩), .int .i64 2, .agg (rB 64 l).toArray, .int .i64 x, .bool false] (fun E => .agg (rB 72 (encT 36 (eW2 l x false) 2)).toArray) [(1, ((ηq2 0).blk 0, Obj.cells #[.pointer (some ⟨(ηq2 0).blk 1, 0, none⟩), .pointer (some ⟨(ηq2 0).blk 2, 0, none⟩)] 61 (0, 0))), (3, ((ηq2 0).blk 2, Obj.cells #[.pointer (some ⟨(ηq2 0).blk 3, 0, none⟩), .slice (some ⟨(ηq2 0).blk 4, 0, none⟩) 5 (5 + ((ηq2 0).rest 0).length)] 109 (0, 0))), (4, ((ηq2 0).blk 3, Obj.cells fieldCells 137 (0, 0))), (5, ((ηq2 0).blk 4, Obj.cells (rowV genL ((ηq2 0).rest 0)) 5 (0, 0)))] [] (fun E => []) (enters_of Try.func12 (by kernel_rfl) rfl) (fun w' H => cN (callsIn_wide.2 (dEnc2_any ((ηq2 0).blk 0) ((ηq2 0).blk 1) ((ηq2 0).blk 2) ((ηq2 0).blk 3) ((ηq2 0).blk 4) ((ηq2 0).rest 0) l (by first | rfl | (simp only [List.length_set, List.length_append, List.length_replicate, List.length_cons, List.length_nil, List.length_map, List.length_range, List.length_take, List.length_drop, HEN, HDC, HCL, flipI_length, hl]; done) | (simp only [List.length_set, List.length_append, List.length_replicate, List.length_cons, List.length_nil, List.length_map, List.length_range, List.length_take, List.length_drop, HEN, HDC, HCL, flipI_length, hl]; omega)) x (by omega) (by omega) false w' H))),
      .al 6 27 (rB 72 (List.replicate 72 0)).toArray,
      .ss 6 ((ηq4 4).blk 0) 0 27 (rB 72 (encT 36 (eW2 l x false) 2)) (rB 72 (encT 36 (eW2 l x false) 2)).toArray])
    (fun ηq4 L => L ++ [((ηq4 4).blk 0, Obj.cells (rB 72 (encT 36 (eW2 l x false) 2)).toArray 27 (0, 0))]) (by kernel_rfl) OW (fun _ => by kernel_rfl) ?_
  clear OW; intro ηq4 ysq4 Wq4 OW
  simp only [↓putE_cons, ↓putE_nil, valE, Hint.val, Act.put, List.setIfInBounds_toArray, List.set_cons_succ, List.set_cons_zero]
  gi_upto_region 5 with fail
  refine wpIn_region_re 8 (fun ηq5 => [.ls (rB 72 (encT 36 (eW2 l x false) 2)) 6 0,
      .pv (.int .i64 c),
      .pv (.int .u8 ((v).toNat : Int)),
      .cl 20 #[.agg (rB 72 (encT 36 (eW2 l x false) 2)).toArray, .int .i64 2, .int .i64 c, .int .u8 ((v).toNat : Int)] (fun _ => .agg (rB 72 (chipB 2 (encT 36 (eW2 l x false) 2) c (v))).toArray) [] [] (fun _ => []) (enters_of Try.func20 (by kernel_rfl) rfl) (fun w' _ => by rw [rB_raw (n := 72) (xs := encT 36 (eW2 l x false) 2) (show (encT 36 (eW2 l x false) 2).length = 72 by first | rfl | (simp only [List.length_set, List.length_append, List.length_replicate, List.length_cons, List.length_nil, List.length_map, List.length_range, List.length_take, List.length_drop, HEN, HDC, HCL, flipI_length, hl]; done) | (simp only [List.length_set, List.length_append, List.length_replicate, List.length_cons, List.length_nil, List.length_map, List.length_range, List.length_take, List.length_drop, HEN, HDC, HCL, flipI_length, hl]; omega)), rB_raw (n := 72) (xs := chipB 2 (encT 36 (eW2 l x false) 2) c (v)) (show (chipB 2 (encT 36 (eW2 l x false) 2) c (v)).length = 72 by first | rfl | (simp only [List.length_set, List.length_append, List.length_replicate, List.length_cons, List.length_nil, List.length_map, List.length_range, List.length_take, List.length_drop, HEN, HDC, HCL, flipI_length, hl]; done) | (simp only [List.length_set, List.length_append, List.length_replicate, List.length_cons, List.length_nil, List.length_map, List.length_range, List.length_take, List.length_drop, HEN, HDC, HCL, flipI_length, hl]; omega))]; exact cB (callsIn_wide.2 (chip_any (encT 36 (eW2 l x false) 2) (by first | rfl | (simp only [List.length_set, List.length_append, List.length_replicate, List.length_cons, List.length_nil, List.length_map, List.length_range, List.length_take, List.length_drop, HEN, HDC, HCL, flipI_length, hl]; done) | (simp only [List.length_set, List.length_append, List.length_replicate, List.length_cons, List.length_nil, List.length_map, List.length_range, List.length_take, List.length_drop, HEN, HDC, HCL, flipI_length, hl]; omega)) 2 c (v) _))),
      .al 7 27 (rB 72 (List.replicate 72 0)).toArray,
      .ss 7 ((ηq5 4).blk 0) 0 27 (rB 72 (chipB 2 (encT 36 (eW2 l x false) 2) c (v))) (rB 72 (chipB 2 (encT 36 (eW2 l x false) 2) c (v))).toArray])
    (fun ηq5 L => L ++ [((ηq5 4).blk 0, Obj.cells (rB 72 (chipB 2 (encT 36 (eW2 l x false) 2) c (v))).toArray 27 (0, 0))]) (by kernel_rfl) OW (fun _ => by kernel_rfl) ?_
  clear OW; intro ηq5 ysq5 Wq5 OW
  simp only [↓putE_cons, ↓putE_nil, valE, Hint.val, Act.put, List.setIfInBounds_toArray, List.set_cons_succ, List.set_cons_zero]
  gi_upto_region 6 with fail
  refine wpIn_region_re 10 (fun ηq6 => [.pv (.pointer (some ⟨(ηq2 0).blk 0, 0, none⟩)),
      .ls (rB 72 (chipB 2 (encT 36 (eW2 l x false) 2) c (v))) 7 0,
      .pv (.int .i64 x),
      .cl 13 #[.pointer (some ⟨(ηq2 0).blk 0, 0, none⟩), .int .i64 2, .agg (rB 72 (chipB 2 (encT 36 (eW2 l x false) 2) c (v))).toArray, .int .i64 x] (fun E => .tuple #[.agg (rB 64 (dDec2_0 (chipB 2 (encT 36 (eW2 l x false) 2) c (v)) x)).toArray, .agg #[.int .i64 (jK ((List.range 2).map (cK (chipB 2 (encT 36 (eW2 l x false) 2) c (v)) x))), .int .i64 (djoin_0 ((List.range 2).map (cK (chipB 2 (encT 36 (eW2 l x false) 2) c (v)) x)))]]) [(1, ((ηq2 0).blk 0, Obj.cells #[.pointer (some ⟨(ηq2 0).blk 1, 0, none⟩), .pointer (some ⟨(ηq2 0).blk 2, 0, none⟩)] 61 (0, 0))), (3, ((ηq2 0).blk 2, Obj.cells #[.pointer (some ⟨(ηq2 0).blk 3, 0, none⟩), .slice (some ⟨(ηq2 0).blk 4, 0, none⟩) 5 (5 + ((ηq2 0).rest 0).length)] 109 (0, 0))), (4, ((ηq2 0).blk 3, Obj.cells fieldCells 137 (0, 0))), (5, ((ηq2 0).blk 4, Obj.cells (rowV genL ((ηq2 0).rest 0)) 5 (0, 0)))] [] (fun E => []) (enters_of Try.func13 (by kernel_rfl) rfl) (fun w' H => cN (callsIn_wide.2 (dDec2_any ((ηq2 0).blk 0) ((ηq2 0).blk 1) ((ηq2 0).blk 2) ((ηq2 0).blk 3) ((ηq2 0).blk 4) ((ηq2 0).rest 0) (chipB 2 (encT 36 (eW2 l x false) 2) c (v)) (by first | rfl | (simp only [List.length_set, List.length_append, List.length_replicate, List.length_cons, List.length_nil, List.length_map, List.length_range, List.length_take, List.length_drop, HEN, HDC, HCL, flipI_length, hl]; done) | (simp only [List.length_set, List.length_append, List.length_replicate, List.length_cons, List.length_nil, List.length_map, List.length_range, List.length_take, List.length_drop, HEN, HDC, HCL, flipI_length, hl]; omega)) x (by omega) (by omega) w' H))),
      .pv (.tuple #[.agg (rB 64 (dDec2_0 (chipB 2 (encT 36 (eW2 l x false) 2) c (v)) x)).toArray, .agg #[.int .i64 (jK ((List.range 2).map (cK (chipB 2 (encT 36 (eW2 l x false) 2) c (v)) x))), .int .i64 (djoin_0 ((List.range 2).map (cK (chipB 2 (encT 36 (eW2 l x false) 2) c (v)) x)))]]),
      .pv (.agg (rB 64 (dDec2_0 (chipB 2 (encT 36 (eW2 l x false) 2) c (v)) x)).toArray),
      .pv (.agg #[.int .i64 (jK ((List.range 2).map (cK (chipB 2 (encT 36 (eW2 l x false) 2) c (v)) x))), .int .i64 (djoin_0 ((List.range 2).map (cK (chipB 2 (encT 36 (eW2 l x false) 2) c (v)) x)))]),
      .al 8 23 (rB 64 (List.replicate 64 0)).toArray,
      .al 9 30 #[.int .i64 0, .int .i64 0],
      .ss 8 ((ηq6 7).blk 0) 0 23 (rB 64 (dDec2_0 (chipB 2 (encT 36 (eW2 l x false) 2) c (v)) x)) (rB 64 (dDec2_0 (chipB 2 (encT 36 (eW2 l x false) 2) c (v)) x)).toArray,
      .ss 9 ((ηq6 8).blk 0) 0 30 ([.int .i64 (jK ((List.range 2).map (cK (chipB 2 (encT 36 (eW2 l x false) 2) c (v)) x))), .int .i64 (djoin_0 ((List.range 2).map (cK (chipB 2 (encT 36 (eW2 l x false) 2) c (v)) x)))]) #[.int .i64 (jK ((List.range 2).map (cK (chipB 2 (encT 36 (eW2 l x false) 2) c (v)) x))), .int .i64 (djoin_0 ((List.range 2).map (cK (chipB 2 (encT 36 (eW2 l x false) 2) c (v)) x)))]])
    (fun ηq6 L => L ++ [((ηq6 7).blk 0, Obj.cells (rB 64 (dDec2_0 (chipB 2 (encT 36 (eW2 l x false) 2) c (v)) x)).toArray 23 (0, 0)), ((ηq6 8).blk 0, Obj.cells #[.int .i64 (jK ((List.range 2).map (cK (chipB 2 (encT 36 (eW2 l x false) 2) c (v)) x))), .int .i64 (djoin_0 ((List.range 2).map (cK (chipB 2 (encT 36 (eW2 l x false) 2) c (v)) x)))] 30 (0, 0))]) (by kernel_rfl) OW (fun _ => by kernel_rfl) ?_
  clear OW; intro ηq6 ysq6 Wq6 OW
  simp only [↓putE_cons, ↓putE_nil, valE, Hint.val, Act.put, List.setIfInBounds_toArray, List.set_cons_succ, List.set_cons_zero]
  gi_upto_region 7 with fail
  refine wpIn_region_re 10 (fun ηq7 => [.ls (rB 64 (dDec2_0 (chipB 2 (encT 36 (eW2 l x false) 2) c (v)) x)) 8 0,
      .ls (rB 64 l) 0 0,
      .tv (.bool (!(decide ((dDec2_0 (chipB 2 (encT 36 (eW2 l x false) 2) c (v)) x) = l)))) (sBin .neq 23 (.tmp 37) (.tmp 38) (.agg (rB 64 (dDec2_0 (chipB 2 (encT 36 (eW2 l x false) 2) c (v)) x)).toArray) (.agg (rB 64 l).toArray)) (fun _ => bin_neT (xs := rB 64 (dDec2_0 (chipB 2 (encT 36 (eW2 l x false) 2) c (v)) x)) (ys := rB 64 l) (by kernel_rfl) (eqc_rB (show ((dDec2_0 (chipB 2 (encT 36 (eW2 l x false) 2) c (v)) x)).length = 64 by first | rfl | (simp only [List.length_set, List.length_append, List.length_replicate, List.length_cons, List.length_nil, List.length_map, List.length_range, List.length_take, List.length_drop, HEN, HDC, HCL, flipI_length, hl]; done) | (simp only [List.length_set, List.length_append, List.length_replicate, List.length_cons, List.length_nil, List.length_map, List.length_range, List.length_take, List.length_drop, HEN, HDC, HCL, flipI_length, hl]; omega)) (show (l).length = 64 by first | rfl | (simp only [List.length_set, List.length_append, List.length_replicate, List.length_cons, List.length_nil, List.length_map, List.length_range, List.length_take, List.length_drop, HEN, HDC, HCL, flipI_length, hl]; done) | (simp only [List.length_set, List.length_append, List.length_replicate, List.length_cons, List.length_nil, List.length_map, List.length_range, List.length_take, List.length_drop, HEN, HDC, HCL, flipI_length, hl]; omega)))),
      .pv (.bool (!(decide ((dDec2_0 (chipB 2 (encT 36 (eW2 l x false) 2) c (v)) x) = l)))),
      .pv (.pointer (some ⟨(ηq6 8).blk 0, 0, none⟩)),
      .ld (.int .i64 (jK ((List.range 2).map (cK (chipB 2 (encT 36 (eW2 l x false) 2) c (v)) x)))) 9 0,
      .pv (.bool (decide (1 < (jK ((List.range 2).map (cK (chipB 2 (encT 36 (eW2 l x false) 2) c (v)) x)))))),
      .pk (.bool ((!(decide ((dDec2_0 (chipB 2 (encT 36 (eW2 l x false) 2) c (v)) x) = l))) || (decide (1 < (jK ((List.range 2).map (cK (chipB 2 (encT 36 (eW2 l x false) 2) c (v)) x))))))),
      .pv (.bool ((!(decide ((dDec2_0 (chipB 2 (encT 36 (eW2 l x false) 2) c (v)) x) = l))) || (decide (1 < (jK ((List.range 2).map (cK (chipB 2 (encT 36 (eW2 l x false) 2) c (v)) x))))))),
      .pv (.pointer (some ⟨(ηq6 8).blk 0, 0, none⟩)),
      .ld (.int .i64 (jK ((List.range 2).map (cK (chipB 2 (encT 36 (eW2 l x false) 2) c (v)) x)))) 9 0,
      .pv (.bool ((jK ((List.range 2).map (cK (chipB 2 (encT 36 (eW2 l x false) 2) c (v)) x))) == 0)),
      .ls (rB 72 (chipB 2 (encT 36 (eW2 l x false) 2) c (v))) 7 0,
      .ls (rB 72 (encT 36 (eW2 l x false) 2)) 6 0,
      .tv (.bool (decide (chipB 2 (encT 36 (eW2 l x false) 2) c (v) = encT 36 (eW2 l x false) 2))) (sBin .eql 27 (.tmp 49) (.tmp 50) (.agg (rB 72 (chipB 2 (encT 36 (eW2 l x false) 2) c (v))).toArray) (.agg (rB 72 (encT 36 (eW2 l x false) 2)).toArray)) (fun _ => bin_eqT (xs := rB 72 (chipB 2 (encT 36 (eW2 l x false) 2) c (v))) (ys := rB 72 (encT 36 (eW2 l x false) 2)) (by kernel_rfl) (eqc_rB (show (chipB 2 (encT 36 (eW2 l x false) 2) c (v)).length = 72 by first | rfl | (simp only [List.length_set, List.length_append, List.length_replicate, List.length_cons, List.length_nil, List.length_map, List.length_range, List.length_take, List.length_drop, HEN, HDC, HCL, flipI_length, hl]; done) | (simp only [List.length_set, List.length_append, List.length_replicate, List.length_cons, List.length_nil, List.length_map, List.length_range, List.length_take, List.length_drop, HEN, HDC, HCL, flipI_length, hl]; omega)) (show (encT 36 (eW2 l x false) 2).length = 72 by first | rfl | (simp only [List.length_set, List.length_append, List.length_replicate, List.length_cons, List.length_nil, List.length_map, List.length_range, List.length_take, List.length_drop, HEN, HDC, HCL, flipI_length, hl]; done) | (simp only [List.length_set, List.length_append, List.length_replicate, List.length_cons, List.length_nil, List.length_map, List.length_range, List.length_take, List.length_drop, HEN, HDC, HCL, flipI_length, hl]; omega)))),
      .tv (.bool (((jK ((List.range 2).map (cK (chipB 2 (encT 36 (eW2 l x false) 2) c (v)) x))) == 0) != (decide (chipB 2 (encT 36 (eW2 l x false) 2) c (v) = encT 36 (eW2 l x false) 2)))) (sBin .neq 4 (.tmp 48) (.tmp 51) (.bool ((jK ((List.range 2).map (cK (chipB 2 (encT 36 (eW2 l x false) 2) c (v)) x))) == 0)) (.bool (decide (chipB 2 (encT 36 (eW2 l x false) 2) c (v) = encT 36 (eW2 l x false) 2)))) (fun _ => bin_neqB Try.underlying4 _ _ _ _ _),
      .pk (.bool (((!(decide ((dDec2_0 (chipB 2 (encT 36 (eW2 l x false) 2) c (v)) x) = l))) || (decide (1 < (jK ((List.range 2).map (cK (chipB 2 (encT 36 (eW2 l x false) 2) c (v)) x)))))) || (((jK ((List.range 2).map (cK (chipB 2 (encT 36 (eW2 l x false) 2) c (v)) x))) == 0) != (decide (chipB 2 (encT 36 (eW2 l x false) 2) c (v) = encT 36 (eW2 l x false) 2)))))])
    (fun ηq7 L => L) (by kernel_rfl) OW (fun _ => by kernel_rfl) ?_
  clear OW; intro ηq7 ysq7 Wq7 OW
  simp only [↓putE_cons, ↓putE_nil, valE, Hint.val, Act.put, List.setIfInBounds_toArray, List.set_cons_succ, List.set_cons_zero]
  cases hB8 : (((!(decide ((dDec2_0 (chipB 2 (encT 36 (eW2 l x false) 2) c (v)) x) = l))) || (decide (1 < (jK ((List.range 2).map (cK (chipB 2 (encT 36 (eW2 l x false) 2) c (v)) x)))))) || (((jK ((List.range 2).map (cK (chipB 2 (encT 36 (eW2 l x false) 2) c (v)) x))) == 0) != (decide (chipB 2 (encT 36 (eW2 l x false) 2) c (v) = encT 36 (eW2 l x false) 2))))
  case true =>
    gi_upto_region 8 with fail
    refine wpIn_region_re 10 (fun ηq9 => [.pv (.bool false)])
      (fun ηq9 L => L) (by kernel_rfl) OW (fun _ => by kernel_rfl) ?_
    clear OW; intro ηq9 ysq9 Wq9 OW
    simp only [↓putE_cons, ↓putE_nil, valE, Hint.val, Act.put, List.setIfInBounds_toArray, List.set_cons_succ, List.set_cons_zero]
    gi_wp2
    exact leavesS OW [.t (.bool false)] (by kernel_rfl) fun hO => ⟨(by (try simp only [CodecChips2_0]); (repeat (first | rw [hB8] | rw [cond_true] | rw [cond_false])); try rfl), hO.done⟩
  gi_upto_region 9 with fail
  refine wpIn_region_re 11 (fun ηq10 => [.ls (rB 72 (chipB 2 (encT 36 (eW2 l x false) 2) c (v))) 7 0,
      .pv (.int .i64 b),
      .cl 21 #[.agg (rB 72 (chipB 2 (encT 36 (eW2 l x false) 2) c (v))).toArray, .int .i64 b] (fun _ => .agg (rB 72 (flipI (chipB 2 (encT 36 (eW2 l x false) 2) c (v)) b)).toArray) [] [] (fun _ => []) (enters_of Try.func21 (by kernel_rfl) rfl) (fun w' _ => by rw [rB_raw (n := 72) (xs := chipB 2 (encT 36 (eW2 l x false) 2) c (v)) (show (chipB 2 (encT 36 (eW2 l x false) 2) c (v)).length = 72 by first | rfl | (simp only [List.length_set, List.length_append, List.length_replicate, List.length_cons, List.length_nil, List.length_map, List.length_range, List.length_take, List.length_drop, HEN, HDC, HCL, flipI_length, hl]; done) | (simp only [List.length_set, List.length_append, List.length_replicate, List.length_cons, List.length_nil, List.length_map, List.length_range, List.length_take, List.length_drop, HEN, HDC, HCL, flipI_length, hl]; omega)), rB_raw (n := 72) (xs := flipI (chipB 2 (encT 36 (eW2 l x false) 2) c (v)) b) (show (flipI (chipB 2 (encT 36 (eW2 l x false) 2) c (v)) b).length = 72 by first | rfl | (simp only [List.length_set, List.length_append, List.length_replicate, List.length_cons, List.length_nil, List.length_map, List.length_range, List.length_take, List.length_drop, HEN, HDC, HCL, flipI_length, hl]; done) | (simp only [List.length_set, List.length_append, List.length_replicate, List.length_cons, List.length_nil, List.length_map, List.length_range, List.length_take, List.length_drop, HEN, HDC, HCL, flipI_length, hl]; omega))]; exact cB (callsIn_wide.2 (rflip_any (chipB 2 (encT 36 (eW2 l x false) 2) c (v)) (by first | rfl | (simp only [List.length_set, List.length_append, List.length_replicate, List.length_cons, List.length_nil, List.length_map, List.length_range, List.length_take, List.length_drop, HEN, HDC, HCL, flipI_length, hl]; done) | (simp only [List.length_set, List.length_append, List.length_replicate, List.length_cons, List.length_nil, List.length_map, List.length_range, List.length_take, List.length_drop, HEN, HDC, HCL, flipI_length, hl]; omega)) b (by omega) (by omega) _))),
      .al 10 27 (rB 72 (List.replicate 72 0)).toArray,
      .ss 10 ((ηq10 3).blk 0) 0 27 (rB 72 (flipI (chipB 2 (encT 36 (eW2 l x false) 2) c (v)) b)) (rB 72 (flipI (chipB 2 (encT 36 (eW2 l x false) 2) c (v)) b)).toArray])
    (fun ηq10 L => L ++ [((ηq10 3).blk 0, Obj.cells (rB 72 (flipI (chipB 2 (encT 36 (eW2 l x false) 2) c (v)) b)).toArray 27 (0, 0))]) (by kernel_rfl) OW (fun _ => by kernel_rfl) ?_
  clear OW; intro ηq10 ysq10 Wq10 OW
  simp only [↓putE_cons, ↓putE_nil, valE, Hint.val, Act.put, List.setIfInBounds_toArray, List.set_cons_succ, List.set_cons_zero]
  gi_upto_region 10 with fail
  refine wpIn_region_re 13 (fun ηq11 => [.pv (.pointer (some ⟨(ηq2 0).blk 0, 0, none⟩)),
      .ls (rB 72 (flipI (chipB 2 (encT 36 (eW2 l x false) 2) c (v)) b)) 10 0,
      .pv (.int .i64 x),
      .cl 13 #[.pointer (some ⟨(ηq2 0).blk 0, 0, none⟩), .int .i64 2, .agg (rB 72 (flipI (chipB 2 (encT 36 (eW2 l x false) 2) c (v)) b)).toArray, .int .i64 x] (fun E => .tuple #[.agg (rB 64 (dDec2_0 (flipI (chipB 2 (encT 36 (eW2 l x false) 2) c (v)) b) x)).toArray, .agg #[.int .i64 (jK ((List.range 2).map (cK (flipI (chipB 2 (encT 36 (eW2 l x false) 2) c (v)) b) x))), .int .i64 (djoin_0 ((List.range 2).map (cK (flipI (chipB 2 (encT 36 (eW2 l x false) 2) c (v)) b) x)))]]) [(1, ((ηq2 0).blk 0, Obj.cells #[.pointer (some ⟨(ηq2 0).blk 1, 0, none⟩), .pointer (some ⟨(ηq2 0).blk 2, 0, none⟩)] 61 (0, 0))), (3, ((ηq2 0).blk 2, Obj.cells #[.pointer (some ⟨(ηq2 0).blk 3, 0, none⟩), .slice (some ⟨(ηq2 0).blk 4, 0, none⟩) 5 (5 + ((ηq2 0).rest 0).length)] 109 (0, 0))), (4, ((ηq2 0).blk 3, Obj.cells fieldCells 137 (0, 0))), (5, ((ηq2 0).blk 4, Obj.cells (rowV genL ((ηq2 0).rest 0)) 5 (0, 0)))] [] (fun E => []) (enters_of Try.func13 (by kernel_rfl) rfl) (fun w' H => cN (callsIn_wide.2 (dDec2_any ((ηq2 0).blk 0) ((ηq2 0).blk 1) ((ηq2 0).blk 2) ((ηq2 0).blk 3) ((ηq2 0).blk 4) ((ηq2 0).rest 0) (flipI (chipB 2 (encT 36 (eW2 l x false) 2) c (v)) b) (by first | rfl | (simp only [List.length_set, List.length_append, List.length_replicate, List.length_cons, List.length_nil, List.length_map, List.length_range, List.length_take, List.length_drop, HEN, HDC, HCL, flipI_length, hl]; done) | (simp only [List.length_set, List.length_append, List.length_replicate, List.length_cons, List.length_nil, List.length_map, List.length_range, List.length_take, List.length_drop, HEN, HDC, HCL, flipI_length, hl]; omega)) x (by omega) (by omega) w' H))),
      .pv (.tuple #[.agg (rB 64 (dDec2_0 (flipI (chipB 2 (encT 36 (eW2 l x false) 2) c (v)) b) x)).toArray, .agg #[.int .i64 (jK ((List.range 2).map (cK (flipI (chipB 2 (encT 36 (eW2 l x false) 2) c (v)) b) x))), .int .i64 (djoin_0 ((List.range 2).map (cK (flipI (chipB 2 (encT 36 (eW2 l x false) 2) c (v)) b) x)))]]),
      .pv (.agg (rB 64 (dDec2_0 (flipI (chipB 2 (encT 36 (eW2 l x false) 2) c (v)) b) x)).toArray),
      .pv (.agg #[.int .i64 (jK ((List.range 2).map (cK (flipI (chipB 2 (encT 36 (eW2 l x false) 2) c (v)) b) x))), .int .i64 (djoin_0 ((List.range 2).map (cK (flipI (chipB 2 (encT 36 (eW2 l x false) 2) c (v)) b) x)))]),
      .al 11 23 (rB 64 (List.replicate 64 0)).toArray,
      .al 12 30 #[.int .i64 0, .int .i64 0],
      .ss 11 ((ηq11 7).blk 0) 0 23 (rB 64 (dDec2_0 (flipI (chipB 2 (encT 36 (eW2 l x false) 2) c (v)) b) x)) (rB 64 (dDec2_0 (flipI (chipB 2 (encT 36 (eW2 l x false) 2) c (v)) b) x)).toArray,
      .ss 12 ((ηq11 8).blk 0) 0 30 ([.int .i64 (jK ((List.range 2).map (cK (flipI (chipB 2 (encT 36 (eW2 l x false) 2) c (v)) b) x))), .int .i64 (djoin_0 ((List.range 2).map (cK (flipI (chipB 2 (encT 36 (eW2 l x false) 2) c (v)) b) x)))]) #[.int .i64 (jK ((List.range 2).map (cK (flipI (chipB 2 (encT 36 (eW2 l x false) 2) c (v)) b) x))), .int .i64 (djoin_0 ((List.range 2).map (cK (flipI (chipB 2 (encT 36 (eW2 l x false) 2) c (v)) b) x)))]])
    (fun ηq11 L => L ++ [((ηq11 7).blk 0, Obj.cells (rB 64 (dDec2_0 (flipI (chipB 2 (encT 36 (eW2 l x false) 2) c (v)) b) x)).toArray 23 (0, 0)), ((ηq11 8).blk 0, Obj.cells #[.int .i64 (jK ((List.range 2).map (cK (flipI (chipB 2 (encT 36 (eW2 l x false) 2) c (v)) b) x))), .int .i64 (djoin_0 ((List.range 2).map (cK (flipI (chipB 2 (encT 36 (eW2 l x false) 2) c (v)) b) x)))] 30 (0, 0))]) (by kernel_rfl) OW (fun _ => by kernel_rfl) ?_
  clear OW; intro ηq11 ysq11 Wq11 OW
  simp only [↓putE_cons, ↓putE_nil, valE, Hint.val, Act.put, List.setIfInBounds_toArray, List.set_cons_succ, List.set_cons_zero]
  gi_upto_region 11 with fail
  refine wpIn_region_re 13 (fun ηq12 => [.ls (rB 72 (encT 36 (eW2 l x false) 2)) 6 0,
      .ls (rB 72 (flipI (chipB 2 (encT 36 (eW2 l x false) 2) c (v)) b)) 10 0,
      .cl 18 #[.int .i64 2, .agg (rB 72 (encT 36 (eW2 l x false) 2)).toArray, .agg (rB 72 (flipI (chipB 2 (encT 36 (eW2 l x false) 2) c (v)) b)).toArray] (fun _ => .int .i64 ((expo 2 (encT 36 (eW2 l x false) 2) (flipI (chipB 2 (encT 36 (eW2 l x false) 2) c (v)) b) : Nat) : Int)) [] [] (fun _ => []) (enters_of Try.func18 (by kernel_rfl) rfl) (fun w' _ => by rw [rB_raw (n := 72) (xs := encT 36 (eW2 l x false) 2) (show (encT 36 (eW2 l x false) 2).length = 72 by first | rfl | (simp only [List.length_set, List.length_append, List.length_replicate, List.length_cons, List.length_nil, List.length_map, List.length_range, List.length_take, List.length_drop, HEN, HDC, HCL, flipI_length, hl]; done) | (simp only [List.length_set, List.length_append, List.length_replicate, List.length_cons, List.length_nil, List.length_map, List.length_range, List.length_take, List.length_drop, HEN, HDC, HCL, flipI_length, hl]; omega)), rB_raw (n := 72) (xs := flipI (chipB 2 (encT 36 (eW2 l x false) 2) c (v)) b) (show (flipI (chipB 2 (encT 36 (eW2 l x false) 2) c (v)) b).length = 72 by first | rfl | (simp only [List.length_set, List.length_append, List.length_replicate, List.length_cons, List.length_nil, List.length_map, List.length_range, List.length_take, List.length_drop, HEN, HDC, HCL, flipI_length, hl]; done) | (simp only [List.length_set, List.length_append, List.length_replicate, List.length_cons, List.length_nil, List.length_map, List.length_range, List.length_take, List.length_drop, HEN, HDC, HCL, flipI_length, hl]; omega))]; exact cB (callsIn_wide.2 (refExp_any 2 (encT 36 (eW2 l x false) 2) (flipI (chipB 2 (encT 36 (eW2 l x false) 2) c (v)) b) (by first | rfl | (simp only [List.length_set, List.length_append, List.length_replicate, List.length_cons, List.length_nil, List.length_map, List.length_range, List.length_take, List.length_drop, HEN, HDC, HCL, flipI_length, hl]; done) | (simp only [List.length_set, List.length_append, List.length_replicate, List.length_cons, List.length_nil, List.length_map, List.length_range, List.length_take, List.length_drop, HEN, HDC, HCL, flipI_length, hl]; omega)) (by first | rfl | (simp only [List.length_set, List.length_append, List.length_replicate, List.length_cons, List.length_nil, List.length_map, List.length_range, List.length_take, List.length_drop, HEN, HDC, HCL, flipI_length, hl]; done) | (simp only [List.length_set, List.length_append, List.length_replicate, List.length_cons, List.length_nil, List.length_map, List.length_range, List.length_take, List.length_drop, HEN, HDC, HCL, flipI_length, hl]; omega)) _))),
      .pv (.bool (decide (((expo 2 (encT 36 (eW2 l x false) 2) (flipI (chipB 2 (encT 36 (eW2 l x false) 2) c (v)) b) : Nat) : Int) < 2)))])
    (fun ηq12 L => L) (by kernel_rfl) OW (fun _ => by kernel_rfl) ?_
  clear OW; intro ηq12 ysq12 Wq12 OW
  simp only [↓putE_cons, ↓putE_nil, valE, Hint.val, Act.put, List.setIfInBounds_toArray, List.set_cons_succ, List.set_cons_zero]
  cases hB13 : (decide (((expo 2 (encT 36 (eW2 l x false) 2) (flipI (chipB 2 (encT 36 (eW2 l x false) 2) c (v)) b) : Nat) : Int) < 2))
  case true =>
    have dhB13 := of_decide_eq_true hB13
    gi_upto_region 12 with fail
    refine wpIn_region_re 13 (fun ηq14 => [.ls (rB 64 (dDec2_0 (flipI (chipB 2 (encT 36 (eW2 l x false) 2) c (v)) b) x)) 11 0,
        .ls (rB 64 l) 0 0,
        .tv (.bool (decide ((dDec2_0 (flipI (chipB 2 (encT 36 (eW2 l x false) 2) c (v)) b) x) = l))) (sBin .eql 23 (.tmp 68) (.tmp 69) (.agg (rB 64 (dDec2_0 (flipI (chipB 2 (encT 36 (eW2 l x false) 2) c (v)) b) x)).toArray) (.agg (rB 64 l).toArray)) (fun _ => bin_eqT (xs := rB 64 (dDec2_0 (flipI (chipB 2 (encT 36 (eW2 l x false) 2) c (v)) b) x)) (ys := rB 64 l) (by kernel_rfl) (eqc_rB (show ((dDec2_0 (flipI (chipB 2 (encT 36 (eW2 l x false) 2) c (v)) b) x)).length = 64 by first | rfl | (simp only [List.length_set, List.length_append, List.length_replicate, List.length_cons, List.length_nil, List.length_map, List.length_range, List.length_take, List.length_drop, HEN, HDC, HCL, flipI_length, hl]; done) | (simp only [List.length_set, List.length_append, List.length_replicate, List.length_cons, List.length_nil, List.length_map, List.length_range, List.length_take, List.length_drop, HEN, HDC, HCL, flipI_length, hl]; omega)) (show (l).length = 64 by first | rfl | (simp only [List.length_set, List.length_append, List.length_replicate, List.length_cons, List.length_nil, List.length_map, List.length_range, List.length_take, List.length_drop, HEN, HDC, HCL, flipI_length, hl]; done) | (simp only [List.length_set, List.length_append, List.length_replicate, List.length_cons, List.length_nil, List.length_map, List.length_range, List.length_take, List.length_drop, HEN, HDC, HCL, flipI_length, hl]; omega)))),
        .pv (.bool (decide ((dDec2_0 (flipI (chipB 2 (encT 36 (eW2 l x false) 2) c (v)) b) x) = l)))])
      (fun ηq14 L => L) (by kernel_rfl) OW (fun _ => by kernel_rfl) ?_
    clear OW; intro ηq14 ysq14 Wq14 OW
    simp only [↓putE_cons, ↓putE_nil, valE, Hint.val, Act.put, List.setIfInBounds_toArray, List.set_cons_succ, List.set_cons_zero]
    gi_wp2
    exact leavesS OW [.t (.bool (decide ((dDec2_0 (flipI (chipB 2 (encT 36 (eW2 l x false) 2) c (v)) b) x) = l)))] (by kernel_rfl) fun hO => ⟨(by (try simp only [CodecChips2_0]); (repeat (first | rw [hB8] | rw [hB13] | rw [cond_true] | rw [cond_false])); try rfl), hO.done⟩
  have dhB13 := of_decide_eq_false hB13
  gi_upto_region 13 with fail
  refine wpIn_region_re 13 (fun ηq15 => [.pv (.pointer (some ⟨(ηq11 8).blk 0, 0, none⟩)),
      .ld (.int .i64 (jK ((List.range 2).map (cK (flipI (chipB 2 (encT 36 (eW2 l x false) 2) c (v)) b) x)))) 12 0,
      .pv (.bool ((jK ((List.range 2).map (cK (flipI (chipB 2 (encT 36 (eW2 l x false) 2) c (v)) b) x))) == 3)),
      .pv (.bool ((jK ((List.range 2).map (cK (flipI (chipB 2 (encT 36 (eW2 l x false) 2) c (v)) b) x))) == 3)),
      .ls (rB 64 (dDec2_0 (flipI (chipB 2 (encT 36 (eW2 l x false) 2) c (v)) b) x)) 11 0,
      .pv (.agg (rB 64 (List.replicate 64 0)).toArray),
      .tv (.bool (decide ((dDec2_0 (flipI (chipB 2 (encT 36 (eW2 l x false) 2) c (v)) b) x) = List.replicate 64 0))) (sBin .eql 23 (.tmp 75) (.tmp 76) (.agg (rB 64 (dDec2_0 (flipI (chipB 2 (encT 36 (eW2 l x false) 2) c (v)) b) x)).toArray) (.agg (rB 64 (List.replicate 64 0)).toArray)) (fun _ => bin_eqT (xs := rB 64 (dDec2_0 (flipI (chipB 2 (encT 36 (eW2 l x false) 2) c (v)) b) x)) (ys := rB 64 (List.replicate 64 0)) (by kernel_rfl) (eqc_rB (show ((dDec2_0 (flipI (chipB 2 (encT 36 (eW2 l x false) 2) c (v)) b) x)).length = 64 by first | rfl | (simp only [List.length_set, List.length_append, List.length_replicate, List.length_cons, List.length_nil, List.length_map, List.length_range, List.length_take, List.length_drop, HEN, HDC, HCL, flipI_length, hl]; done) | (simp only [List.length_set, List.length_append, List.length_replicate, List.length_cons, List.length_nil, List.length_map, List.length_range, List.length_take, List.length_drop, HEN, HDC, HCL, flipI_length, hl]; omega)) List.length_replicate)),
      .pk (.bool (((jK ((List.range 2).map (cK (flipI (chipB 2 (encT 36 (eW2 l x false) 2) c (v)) b) x))) == 3) && (decide ((dDec2_0 (flipI (chipB 2 (encT 36 (eW2 l x false) 2) c (v)) b) x) = List.replicate 64 0)))),
      .pv (.bool (((jK ((List.range 2).map (cK (flipI (chipB 2 (encT 36 (eW2 l x false) 2) c (v)) b) x))) == 3) && (decide ((dDec2_0 (flipI (chipB 2 (encT 36 (eW2 l x false) 2) c (v)) b) x) = List.replicate 64 0))))])
    (fun ηq15 L => L) (by kernel_rfl) OW (fun _ => by kernel_rfl) ?_
  clear OW; intro ηq15 ysq15 Wq15 OW
  simp only [↓putE_cons, ↓putE_nil, valE, Hint.val, Act.put, List.setIfInBounds_toArray, List.set_cons_succ, List.set_cons_zero]
  gi_wp2
  exact leavesS OW [.t (.bool (((jK ((List.range 2).map (cK (flipI (chipB 2 (encT 36 (eW2 l x false) 2) c (v)) b) x))) == 3) && (decide ((dDec2_0 (flipI (chipB 2 (encT 36 (eW2 l x false) 2) c (v)) b) x) = List.replicate 64 0))))] (by kernel_rfl) fun hO => ⟨(by (try simp only [CodecChips2_0]); (repeat (first | rw [hB8] | rw [hB13] | rw [cond_true] | rw [cond_false])); try rfl), hO.done⟩
theorem CodecChips2_true {l : List UInt8} (hl : l.length = 64) (x c : Int) (v : UInt8) (b : Int) : CodecChips2_0 l x c v b = true := by
  unfold CodecChips2_0
  have ho := own2_len hl x false
  have hc := chipB_len (mode := 2) (chip := c) (v := v) ho
  have hx := chip2_expo ho c v
  obtain ⟨g1, g2, _⟩ := right2 hl (x := x) hc hx
  have hz := expo_zero (mode := 2) (.inr rfl) ho hc
  have hf : (flipI (chipB 2 (encT 36 (eW2 l x false) 2) c v) b).length = 72 := by rw [flipI_length, hc]
  have ht := expo_tri (mode := 2) ho hc hf
  have hb := flip_expo hc b
  have e1 : ((jK ((List.range 2).map (cK (chipB 2 (encT 36 (eW2 l x false) 2) c v) x)) == 0) != decide (chipB 2 (encT 36 (eW2 l x false) 2) c v = encT 36 (eW2 l x false) 2)) = false := by
    rw [g2]
    by_cases h0 : expo 2 (encT 36 (eW2 l x false) 2) (chipB 2 (encT 36 (eW2 l x false) 2) c v) = 0
    · rw [decide_eq_true (hz.1 h0).symm, h0]; rfl
    · rw [decide_eq_false (fun e => h0 (hz.2 e.symm))]
      have e : (((expo 2 (encT 36 (eW2 l x false) 2) (chipB 2 (encT 36 (eW2 l x false) 2) c v) : Nat) : Int) == 0) = false := by rw [beq_eq_false_iff_ne]; omega
      rw [e]; rfl
  rw [e1, g1, g2, decide_eq_false (p := 1 < ((expo 2 (encT 36 (eW2 l x false) 2) (chipB 2 (encT 36 (eW2 l x false) 2) c v) : Nat) : Int)) (by omega), decide_eq_true (p := l = l) rfl]
  simp only [Bool.not_true, Bool.or_false, cond_false]
  by_cases h : expo 2 (encT 36 (eW2 l x false) 2) (flipI (chipB 2 (encT 36 (eW2 l x false) 2) c v) b) ≤ 1
  · obtain ⟨k1, _, _⟩ := right2 hl (x := x) hf h
    rw [decide_eq_true (by omega), cond_true, k1]
    exact decide_eq_true rfl
  · have k1 := lost2 hl (x := x) hf (by omega) (by omega)
    rw [decide_eq_false (by omega), cond_false, bad2 (by omega), k1]
    simp
theorem CodecChips_any (l : List UInt8) (x c : Int) (v : UInt8) (b : Int) (hl : l.length = 64) (h0 : -9223372036854775808 ≤ x) (h1 : x ≤ 9223372036854775807) (h2 : -9223372036854775808 ≤ b) (h3 : b ≤ 9223372036854775807) (w : World) : Calls Try.prog 10 #[.agg (rawV l), .int .i64 x, .int .i64 c, .int .u8 (v.toNat : Int), .int .i64 b] w fun e w' => e = .returned (.bool true) ∧ Below w.heap.size w w' := by
  rw [← rB_raw hl, ← CodecChips2_true hl x c v b]
  exact CodecChips2_any l hl x h0 h1 c v b h2 h3 w
end Go.Proofs.Ytkeheickaogpiaa
