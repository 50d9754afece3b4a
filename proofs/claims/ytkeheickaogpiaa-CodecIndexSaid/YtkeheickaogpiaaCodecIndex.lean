/- CodecIndex, walked: for every input true. -/
import Derived.Test.YtkeheickaogpiaaCdI
import Derived.WalkKit
import Derived.Sort.CutIn
import Derived.IntWalk
namespace Go.Proofs.Ytkeheickaogpiaa
open Go Go.RowKit Go.Shelf
attribute [local go_sem] Oper.semAt_some
set_option linter.unusedVariables false
set_option linter.unusedSimpArgs false


theorem lo23_lo (x : Int) : lo23 ((lo23 x : Nat) : Int) = lo23 x := by unfold lo23; omega
theorem par23_lo (x : Int) : par23 ((lo23 x : Nat) : Int) = par23 x := by unfold par23; rw [lo23_lo]
theorem u8I_congr {x y : Int} (h : x % 256 = y % 256) : u8I x = u8I y := by unfold u8I; rw [h]
theorem dvirt_lo (x : Int) (p : Bool) : dvirt_0 ((lo23 x : Nat) : Int) p = dvirt_0 x p := by
  have e1 : u8I ((lo23 x : Nat) : Int) = u8I x := u8I_congr (by unfold lo23; omega)
  have e2 : u8I (((lo23 x : Nat) : Int) / 256) = u8I (x / 256) := u8I_congr (by unfold lo23; omega)
  have e3 : u8I (((lo23 x : Nat) : Int) / 65536) &&& 127 = u8I (x / 65536) &&& 127 := by
    have h : ∀ z : Int, u8I z &&& 127 = u8I (z % 128) := by
      intro z
      apply UInt8.toNat_inj.1
      rw [UInt8.toNat_and]
      have h1 := u8I_toNat z
      have h2 := u8I_toNat (z % 128)
      rw [show (127 : UInt8).toNat = 2 ^ 7 - 1 from rfl, Nat.and_two_pow_sub_one_eq_mod]
      omega
    rw [h, h (x / 65536)]
    exact u8I_congr (by unfold lo23; omega)
  unfold dvirt_0
  rw [e1, e2, e3]
theorem eW1_lo (l : List UInt8) (x : Int) (p : Bool) : eW1 l ((lo23 x : Nat) : Int) p = eW1 l x p := by funext k; unfold eW1; rw [par23_lo]
theorem eW2_lo (l : List UInt8) (x : Int) (p : Bool) : eW2 l ((lo23 x : Nat) : Int) p = eW2 l x p := by funext k; unfold eW2; rw [dvirt_lo]
theorem dW_lo (r : List UInt8) (x : Int) : dW r ((lo23 x : Nat) : Int) = dW r x := by funext k; unfold dW; rw [par23_lo]
theorem dK_lo (r : List UInt8) (x : Int) : dK r ((lo23 x : Nat) : Int) = dK r x := by funext k; unfold dK dbits_0; rw [par23_lo]
theorem cWx_lo (r : List UInt8) (x : Int) : cWx r ((lo23 x : Nat) : Int) = cWx r x := by funext k; unfold cWx cW; rw [dvirt_lo]
theorem cK_lo (r : List UInt8) (x : Int) : cK r ((lo23 x : Nat) : Int) = cK r x := by funext k; unfold cK dchips_0; rw [dvirt_lo]
set_option maxRecDepth 100000 in
set_option maxHeartbeats 1000000 in
theorem CodecIndex1_any (l : List UInt8) (hl : l.length = 64) (x : Int) (h0 : -9223372036854775808 ≤ x) (h1 : x ≤ 9223372036854775807) (p : Bool) (r : List UInt8) (hr : r.length = 72) (w : World) : Calls Try.prog 9 #[.int .i64 1, .agg (rB 64 l).toArray, .int .i64 x, .bool p, .agg (rB 72 r).toArray] w fun e w' => e = .returned (.bool true) ∧ Below w.heap.size w w' := by
  have HLO := lo23_lt x
  have HEN := fun (l : List UInt8) (x : Int) (p : Bool) => encT_len (n := 9) (eW1_len l x p) (k := 8) (by decide)
  have HDC : ∀ x, (dDec1_0 r x).length = 64 := fun x => by unfold dDec1_0; cases (decide (2 ≤ jK ((List.range 8).map (dK r x)))) <;> simp [fillL_len]
  have H : Has [] w := has_nil
  have OW : Hid (OwnS [] w [] w) := Lib.hid (OwnS.start H)
  refine (callsIn_wide (n := 6)).1 ?_
  refine callsIn_of_wp_marks Try.func9 rfl trivial ?_ rfl
  simp only [Try.ntmps9, List.size_toArray, List.length_cons, List.length_nil, Nat.reduceAdd, Nat.reduceSub, Array.replicate_succ, Array.replicate_zero, List.push_toArray, List.append_toArray, List.nil_append, List.cons_append]
  gi_upto_region 0 with fail
  refine wpIn_region_re 2 (fun ηq1 => [.bx 0 23 (.agg (rB 64 l).toArray),
      .bx 1 27 (.agg (rB 72 r).toArray),
      .pv (.bool false)])
    (fun ηq1 L => L ++ [((ηq1 0).blk 0, Obj.cells (rB 64 l).toArray 23 (0, 0)), ((ηq1 1).blk 0, Obj.cells (rB 72 r).toArray 27 (0, 0))]) (by kernel_rfl) OW (fun _ => by kernel_rfl) ?_
  clear OW; intro ηq1 ysq1 Wq1 OW
  simp only [↓putE_cons, ↓putE_nil, valE, Hint.val, Act.put, List.setIfInBounds_toArray, List.set_cons_succ, List.set_cons_zero]
  gi_upto_region 1 with fail
  refine wpIn_region_re 7 (fun ηq2 => [.cl 11 #[] (fun E => .pointer (some ⟨E.blk 0, 0, none⟩)) [] [] (fun E => [(2, (E.blk 0, Obj.cells #[.pointer (some ⟨E.blk 1, 0, none⟩), .pointer (some ⟨E.blk 2, 0, none⟩)] 61 (0, 0))), (3, (E.blk 1, Obj.cells hsN 102 (0, 0))), (4, (E.blk 2, Obj.cells #[.pointer (some ⟨E.blk 3, 0, none⟩), .slice (some ⟨E.blk 4, 0, none⟩) 5 (5 + (E.rest 0).length)] 109 (0, 0))), (5, (E.blk 3, Obj.cells fieldCells 137 (0, 0))), (6, (E.blk 4, Obj.cells (rowV genL (E.rest 0)) 5 (0, 0)))]) (enters_of Try.func11 (by kernel_rfl) rfl) (fun w' H => callsIn_wide.2 (dcoder_any  w' H)),
      .pv (.pointer (some ⟨(ηq2 0).blk 0, 0, none⟩))])
    (fun ηq2 L => L ++ [((ηq2 0).blk 0, Obj.cells #[.pointer (some ⟨(ηq2 0).blk 1, 0, none⟩), .pointer (some ⟨(ηq2 0).blk 2, 0, none⟩)] 61 (0, 0)), ((ηq2 0).blk 1, Obj.cells hsN 102 (0, 0)), ((ηq2 0).blk 2, Obj.cells #[.pointer (some ⟨(ηq2 0).blk 3, 0, none⟩), .slice (some ⟨(ηq2 0).blk 4, 0, none⟩) 5 (5 + ((ηq2 0).rest 0).length)] 109 (0, 0)), ((ηq2 0).blk 3, Obj.cells fieldCells 137 (0, 0)), ((ηq2 0).blk 4, Obj.cells (rowV genL ((ηq2 0).rest 0)) 5 (0, 0))]) (by kernel_rfl) OW (fun _ => by kernel_rfl) ?_
  clear OW; intro ηq2 ysq2 Wq2 OW
  simp only [↓putE_cons, ↓putE_nil, valE, Hint.val, Act.put, List.setIfInBounds_toArray, List.set_cons_succ, List.set_cons_zero]
  gi_upto_region 2 with fail
  refine wpIn_region_re 7 (fun ηq3 => [.pv (.pointer (some ⟨(ηq2 0).blk 0, 0, none⟩)),
      .pv (.bool false)])
    (fun ηq3 L => L) (by kernel_rfl) OW (fun _ => by kernel_rfl) ?_
  clear OW; intro ηq3 ysq3 Wq3 OW
  simp only [↓putE_cons, ↓putE_nil, valE, Hint.val, Act.put, List.setIfInBounds_toArray, List.set_cons_succ, List.set_cons_zero]
  gi_upto_region 4 with fail
  refine wpIn_region_re 7 (fun ηq4 => [.pv (.int .i64 x),
      .tv (.int .i64 ((lo23 x : Nat) : Int)) (sBin .and 3 (.tmp 20) (.const (.int .i64 8388607)) (.int .i64 x) (.int .i64 8388607)) (fun _ => and23 x),
      .pv (.int .i64 ((lo23 x : Nat) : Int))])
    (fun ηq4 L => L) (by kernel_rfl) OW (fun _ => by kernel_rfl) ?_
  clear OW; intro ηq4 ysq4 Wq4 OW
  simp only [↓putE_cons, ↓putE_nil, valE, Hint.val, Act.put, List.setIfInBounds_toArray, List.set_cons_succ, List.set_cons_zero]
  gi_upto_region 5 with fail
  refine wpIn_region_re 9 (fun ηq5 => [.pv (.pointer (some ⟨(ηq2 0).blk 0, 0, none⟩)),
      .pv (.int .i64 1),
      .ls (rB 72 r) 1 0,
      .pv (.int .i64 x),
      .cl 13 #[.pointer (some ⟨(ηq2 0).blk 0, 0, none⟩), .int .i64 1, .agg (rB 72 r).toArray, .int .i64 x] (fun E => .tuple #[.agg (rB 64 (dDec1_0 r x)).toArray, .agg #[.int .i64 (jK ((List.range 8).map (dK r x))), .int .i64 (djoin_0 ((List.range 8).map (dK r x)))]]) [(2, ((ηq2 0).blk 0, Obj.cells #[.pointer (some ⟨(ηq2 0).blk 1, 0, none⟩), .pointer (some ⟨(ηq2 0).blk 2, 0, none⟩)] 61 (0, 0))), (3, ((ηq2 0).blk 1, Obj.cells hsN 102 (0, 0)))] [] (fun E => []) (enters_of Try.func13 (by kernel_rfl) rfl) (fun w' H => cN (callsIn_wide.2 (dDec1_any ((ηq2 0).blk 0) ((ηq2 0).blk 1) ((ηq2 0).blk 2) r (by first | rfl | (simp only [List.length_set, List.length_append, List.length_replicate, List.length_cons, List.length_nil, List.length_map, List.length_range, List.length_take, List.length_drop, HEN, HDC, hl, hr]; done) | (simp only [List.length_set, List.length_append, List.length_replicate, List.length_cons, List.length_nil, List.length_map, List.length_range, List.length_take, List.length_drop, HEN, HDC, hl, hr]; omega)) x (by omega) (by omega) w' H))),
      .pv (.tuple #[.agg (rB 64 (dDec1_0 r x)).toArray, .agg #[.int .i64 (jK ((List.range 8).map (dK r x))), .int .i64 (djoin_0 ((List.range 8).map (dK r x)))]]),
      .pv (.agg (rB 64 (dDec1_0 r x)).toArray),
      .pv (.agg #[.int .i64 (jK ((List.range 8).map (dK r x))), .int .i64 (djoin_0 ((List.range 8).map (dK r x)))]),
      .al 7 23 (rB 64 (List.replicate 64 0)).toArray,
      .al 8 30 #[.int .i64 0, .int .i64 0],
      .ss 7 ((ηq5 8).blk 0) 0 23 (rB 64 (dDec1_0 r x)) (rB 64 (dDec1_0 r x)).toArray,
      .ss 8 ((ηq5 9).blk 0) 0 30 ([.int .i64 (jK ((List.range 8).map (dK r x))), .int .i64 (djoin_0 ((List.range 8).map (dK r x)))]) #[.int .i64 (jK ((List.range 8).map (dK r x))), .int .i64 (djoin_0 ((List.range 8).map (dK r x)))]])
    (fun ηq5 L => L ++ [((ηq5 8).blk 0, Obj.cells (rB 64 (dDec1_0 r x)).toArray 23 (0, 0)), ((ηq5 9).blk 0, Obj.cells #[.int .i64 (jK ((List.range 8).map (dK r x))), .int .i64 (djoin_0 ((List.range 8).map (dK r x)))] 30 (0, 0))]) (by kernel_rfl) OW (fun _ => by kernel_rfl) ?_
  clear OW; intro ηq5 ysq5 Wq5 OW
  simp only [↓putE_cons, ↓putE_nil, valE, Hint.val, Act.put, List.setIfInBounds_toArray, List.set_cons_succ, List.set_cons_zero]
  gi_upto_region 6 with fail
  refine wpIn_region_re 11 (fun ηq6 => [.pv (.pointer (some ⟨(ηq2 0).blk 0, 0, none⟩)),
      .pv (.int .i64 1),
      .ls (rB 72 r) 1 0,
      .pv (.int .i64 ((lo23 x : Nat) : Int)),
      .cl 13 #[.pointer (some ⟨(ηq2 0).blk 0, 0, none⟩), .int .i64 1, .agg (rB 72 r).toArray, .int .i64 ((lo23 x : Nat) : Int)] (fun E => .tuple #[.agg (rB 64 (dDec1_0 r ((lo23 x : Nat) : Int))).toArray, .agg #[.int .i64 (jK ((List.range 8).map (dK r ((lo23 x : Nat) : Int)))), .int .i64 (djoin_0 ((List.range 8).map (dK r ((lo23 x : Nat) : Int))))]]) [(2, ((ηq2 0).blk 0, Obj.cells #[.pointer (some ⟨(ηq2 0).blk 1, 0, none⟩), .pointer (some ⟨(ηq2 0).blk 2, 0, none⟩)] 61 (0, 0))), (3, ((ηq2 0).blk 1, Obj.cells hsN 102 (0, 0)))] [] (fun E => []) (enters_of Try.func13 (by kernel_rfl) rfl) (fun w' H => cN (callsIn_wide.2 (dDec1_any ((ηq2 0).blk 0) ((ηq2 0).blk 1) ((ηq2 0).blk 2) r (by first | rfl | (simp only [List.length_set, List.length_append, List.length_replicate, List.length_cons, List.length_nil, List.length_map, List.length_range, List.length_take, List.length_drop, HEN, HDC, hl, hr]; done) | (simp only [List.length_set, List.length_append, List.length_replicate, List.length_cons, List.length_nil, List.length_map, List.length_range, List.length_take, List.length_drop, HEN, HDC, hl, hr]; omega)) ((lo23 x : Nat) : Int) (by omega) (by omega) w' H))),
      .pv (.tuple #[.agg (rB 64 (dDec1_0 r ((lo23 x : Nat) : Int))).toArray, .agg #[.int .i64 (jK ((List.range 8).map (dK r ((lo23 x : Nat) : Int)))), .int .i64 (djoin_0 ((List.range 8).map (dK r ((lo23 x : Nat) : Int))))]]),
      .pv (.agg (rB 64 (dDec1_0 r ((lo23 x : Nat) : Int))).toArray),
      .pv (.agg #[.int .i64 (jK ((List.range 8).map (dK r ((lo23 x : Nat) : Int)))), .int .i64 (djoin_0 ((List.range 8).map (dK r ((lo23 x : Nat) : Int))))]),
      .al 9 23 (rB 64 (List.replicate 64 0)).toArray,
      .al 10 30 #[.int .i64 0, .int .i64 0],
      .ss 9 ((ηq6 8).blk 0) 0 23 (rB 64 (dDec1_0 r ((lo23 x : Nat) : Int))) (rB 64 (dDec1_0 r ((lo23 x : Nat) : Int))).toArray,
      .ss 10 ((ηq6 9).blk 0) 0 30 ([.int .i64 (jK ((List.range 8).map (dK r ((lo23 x : Nat) : Int)))), .int .i64 (djoin_0 ((List.range 8).map (dK r ((lo23 x : Nat) : Int))))]) #[.int .i64 (jK ((List.range 8).map (dK r ((lo23 x : Nat) : Int)))), .int .i64 (djoin_0 ((List.range 8).map (dK r ((lo23 x : Nat) : Int))))]])
    (fun ηq6 L => L ++ [((ηq6 8).blk 0, Obj.cells (rB 64 (dDec1_0 r ((lo23 x : Nat) : Int))).toArray 23 (0, 0)), ((ηq6 9).blk 0, Obj.cells #[.int .i64 (jK ((List.range 8).map (dK r ((lo23 x : Nat) : Int)))), .int .i64 (djoin_0 ((List.range 8).map (dK r ((lo23 x : Nat) : Int))))] 30 (0, 0))]) (by kernel_rfl) OW (fun _ => by kernel_rfl) ?_
  clear OW; intro ηq6 ysq6 Wq6 OW
  simp only [↓putE_cons, ↓putE_nil, valE, Hint.val, Act.put, List.setIfInBounds_toArray, List.set_cons_succ, List.set_cons_zero]
  gi_upto_region 7 with fail
  refine wpIn_region_re 11 (fun ηq7 => [.pv (.pointer (some ⟨(ηq2 0).blk 0, 0, none⟩)),
      .pv (.int .i64 1),
      .ls (rB 64 l) 0 0,
      .pv (.int .i64 x),
      .pv (.bool p),
      .cl 12 #[.pointer (some ⟨(ηq2 0).blk 0, 0, none⟩), .int .i64 1, .agg (rB 64 l).toArray, .int .i64 x, .bool p] (fun E => .agg (rB 72 (encT 9 (eW1 l x p) 8)).toArray) [(2, ((ηq2 0).blk 0, Obj.cells #[.pointer (some ⟨(ηq2 0).blk 1, 0, none⟩), .pointer (some ⟨(ηq2 0).blk 2, 0, none⟩)] 61 (0, 0))), (3, ((ηq2 0).blk 1, Obj.cells hsN 102 (0, 0)))] [] (fun E => []) (enters_of Try.func12 (by kernel_rfl) rfl) (fun w' H => cN (callsIn_wide.2 (dEnc1_any ((ηq2 0).blk 0) ((ηq2 0).blk 1) ((ηq2 0).blk 2) l (by first | rfl | (simp only [List.length_set, List.length_append, List.length_replicate, List.length_cons, List.length_nil, List.length_map, List.length_range, List.length_take, List.length_drop, HEN, HDC, hl, hr]; done) | (simp only [List.length_set, List.length_append, List.length_replicate, List.length_cons, List.length_nil, List.length_map, List.length_range, List.length_take, List.length_drop, HEN, HDC, hl, hr]; omega)) x (by omega) (by omega) p w' H))),
      .pv (.pointer (some ⟨(ηq2 0).blk 0, 0, none⟩)),
      .pv (.int .i64 1),
      .ls (rB 64 l) 0 0,
      .pv (.int .i64 ((lo23 x : Nat) : Int)),
      .pv (.bool p),
      .cl 12 #[.pointer (some ⟨(ηq2 0).blk 0, 0, none⟩), .int .i64 1, .agg (rB 64 l).toArray, .int .i64 ((lo23 x : Nat) : Int), .bool p] (fun E => .agg (rB 72 (encT 9 (eW1 l ((lo23 x : Nat) : Int) p) 8)).toArray) [(2, ((ηq2 0).blk 0, Obj.cells #[.pointer (some ⟨(ηq2 0).blk 1, 0, none⟩), .pointer (some ⟨(ηq2 0).blk 2, 0, none⟩)] 61 (0, 0))), (3, ((ηq2 0).blk 1, Obj.cells hsN 102 (0, 0)))] [] (fun E => []) (enters_of Try.func12 (by kernel_rfl) rfl) (fun w' H => cN (callsIn_wide.2 (dEnc1_any ((ηq2 0).blk 0) ((ηq2 0).blk 1) ((ηq2 0).blk 2) l (by first | rfl | (simp only [List.length_set, List.length_append, List.length_replicate, List.length_cons, List.length_nil, List.length_map, List.length_range, List.length_take, List.length_drop, HEN, HDC, hl, hr]; done) | (simp only [List.length_set, List.length_append, List.length_replicate, List.length_cons, List.length_nil, List.length_map, List.length_range, List.length_take, List.length_drop, HEN, HDC, hl, hr]; omega)) ((lo23 x : Nat) : Int) (by omega) (by omega) p w' H))),
      .tv (.bool (decide (encT 9 (eW1 l x p) 8 = encT 9 (eW1 l ((lo23 x : Nat) : Int) p) 8))) (sBin .eql 27 (.tmp 43) (.tmp 49) (.agg (rB 72 (encT 9 (eW1 l x p) 8)).toArray) (.agg (rB 72 (encT 9 (eW1 l ((lo23 x : Nat) : Int) p) 8)).toArray)) (fun _ => bin_eqT (xs := rB 72 (encT 9 (eW1 l x p) 8)) (ys := rB 72 (encT 9 (eW1 l ((lo23 x : Nat) : Int) p) 8)) (by kernel_rfl) (eqc_rB (show (encT 9 (eW1 l x p) 8).length = 72 by first | rfl | (simp only [List.length_set, List.length_append, List.length_replicate, List.length_cons, List.length_nil, List.length_map, List.length_range, List.length_take, List.length_drop, HEN, HDC, hl, hr]; done) | (simp only [List.length_set, List.length_append, List.length_replicate, List.length_cons, List.length_nil, List.length_map, List.length_range, List.length_take, List.length_drop, HEN, HDC, hl, hr]; omega)) (show (encT 9 (eW1 l ((lo23 x : Nat) : Int) p) 8).length = 72 by first | rfl | (simp only [List.length_set, List.length_append, List.length_replicate, List.length_cons, List.length_nil, List.length_map, List.length_range, List.length_take, List.length_drop, HEN, HDC, hl, hr]; done) | (simp only [List.length_set, List.length_append, List.length_replicate, List.length_cons, List.length_nil, List.length_map, List.length_range, List.length_take, List.length_drop, HEN, HDC, hl, hr]; omega)))),
      .pv (.bool (decide (encT 9 (eW1 l x p) 8 = encT 9 (eW1 l ((lo23 x : Nat) : Int) p) 8))),
      .ls (rB 64 (dDec1_0 r x)) 7 0,
      .ls (rB 64 (dDec1_0 r ((lo23 x : Nat) : Int))) 9 0,
      .tv (.bool (decide ((dDec1_0 r x) = (dDec1_0 r ((lo23 x : Nat) : Int))))) (sBin .eql 23 (.tmp 52) (.tmp 53) (.agg (rB 64 (dDec1_0 r x)).toArray) (.agg (rB 64 (dDec1_0 r ((lo23 x : Nat) : Int))).toArray)) (fun _ => bin_eqT (xs := rB 64 (dDec1_0 r x)) (ys := rB 64 (dDec1_0 r ((lo23 x : Nat) : Int))) (by kernel_rfl) (eqc_rB (show ((dDec1_0 r x)).length = 64 by first | rfl | (simp only [List.length_set, List.length_append, List.length_replicate, List.length_cons, List.length_nil, List.length_map, List.length_range, List.length_take, List.length_drop, HEN, HDC, hl, hr]; done) | (simp only [List.length_set, List.length_append, List.length_replicate, List.length_cons, List.length_nil, List.length_map, List.length_range, List.length_take, List.length_drop, HEN, HDC, hl, hr]; omega)) (show ((dDec1_0 r ((lo23 x : Nat) : Int))).length = 64 by first | rfl | (simp only [List.length_set, List.length_append, List.length_replicate, List.length_cons, List.length_nil, List.length_map, List.length_range, List.length_take, List.length_drop, HEN, HDC, hl, hr]; done) | (simp only [List.length_set, List.length_append, List.length_replicate, List.length_cons, List.length_nil, List.length_map, List.length_range, List.length_take, List.length_drop, HEN, HDC, hl, hr]; omega)))),
      .pk (.bool ((decide (encT 9 (eW1 l x p) 8 = encT 9 (eW1 l ((lo23 x : Nat) : Int) p) 8)) && (decide ((dDec1_0 r x) = (dDec1_0 r ((lo23 x : Nat) : Int)))))),
      .pv (.bool ((decide (encT 9 (eW1 l x p) 8 = encT 9 (eW1 l ((lo23 x : Nat) : Int) p) 8)) && (decide ((dDec1_0 r x) = (dDec1_0 r ((lo23 x : Nat) : Int)))))),
      .ls ([.int .i64 (jK ((List.range 8).map (dK r x))), .int .i64 (djoin_0 ((List.range 8).map (dK r x)))]) 8 0,
      .ls ([.int .i64 (jK ((List.range 8).map (dK r ((lo23 x : Nat) : Int)))), .int .i64 (djoin_0 ((List.range 8).map (dK r ((lo23 x : Nat) : Int))))]) 10 0,
      .tv (.bool ((jK ((List.range 8).map (dK r x))) == (jK ((List.range 8).map (dK r ((lo23 x : Nat) : Int)))) && ((djoin_0 ((List.range 8).map (dK r x))) == (djoin_0 ((List.range 8).map (dK r ((lo23 x : Nat) : Int)))) && true))) (sBin .eql 30 (.tmp 57) (.tmp 58) (.agg #[.int .i64 (jK ((List.range 8).map (dK r x))), .int .i64 (djoin_0 ((List.range 8).map (dK r x)))]) (.agg #[.int .i64 (jK ((List.range 8).map (dK r ((lo23 x : Nat) : Int)))), .int .i64 (djoin_0 ((List.range 8).map (dK r ((lo23 x : Nat) : Int))))])) (fun _ => bin_eqT (xs := [.int .i64 (jK ((List.range 8).map (dK r x))), .int .i64 (djoin_0 ((List.range 8).map (dK r x)))]) (ys := [.int .i64 (jK ((List.range 8).map (dK r ((lo23 x : Nat) : Int)))), .int .i64 (djoin_0 ((List.range 8).map (dK r ((lo23 x : Nat) : Int))))]) (by kernel_rfl) (by rfl)),
      .pk (.bool (((decide (encT 9 (eW1 l x p) 8 = encT 9 (eW1 l ((lo23 x : Nat) : Int) p) 8)) && (decide ((dDec1_0 r x) = (dDec1_0 r ((lo23 x : Nat) : Int))))) && ((jK ((List.range 8).map (dK r x))) == (jK ((List.range 8).map (dK r ((lo23 x : Nat) : Int)))) && ((djoin_0 ((List.range 8).map (dK r x))) == (djoin_0 ((List.range 8).map (dK r ((lo23 x : Nat) : Int)))) && true)))),
      .pv (.bool (((decide (encT 9 (eW1 l x p) 8 = encT 9 (eW1 l ((lo23 x : Nat) : Int) p) 8)) && (decide ((dDec1_0 r x) = (dDec1_0 r ((lo23 x : Nat) : Int))))) && ((jK ((List.range 8).map (dK r x))) == (jK ((List.range 8).map (dK r ((lo23 x : Nat) : Int)))) && ((djoin_0 ((List.range 8).map (dK r x))) == (djoin_0 ((List.range 8).map (dK r ((lo23 x : Nat) : Int)))) && true))))])
    (fun ηq7 L => L) (by kernel_rfl) OW (fun _ => by kernel_rfl) ?_
  clear OW; intro ηq7 ysq7 Wq7 OW
  simp only [↓putE_cons, ↓putE_nil, valE, Hint.val, Act.put, List.setIfInBounds_toArray, List.set_cons_succ, List.set_cons_zero]
  gi_wp2
  exact leavesS OW [.t (.bool (((decide (encT 9 (eW1 l x p) 8 = encT 9 (eW1 l ((lo23 x : Nat) : Int) p) 8)) && (decide ((dDec1_0 r x) = (dDec1_0 r ((lo23 x : Nat) : Int))))) && ((jK ((List.range 8).map (dK r x))) == (jK ((List.range 8).map (dK r ((lo23 x : Nat) : Int)))) && ((djoin_0 ((List.range 8).map (dK r x))) == (djoin_0 ((List.range 8).map (dK r ((lo23 x : Nat) : Int)))) && true))))] (by kernel_rfl) fun hO => ⟨(by simp [outV, RV.val, eW1_lo, dDec1_0, dW_lo, dK_lo]), hO.done⟩
set_option maxRecDepth 100000 in
set_option maxHeartbeats 1000000 in
theorem CodecIndex2_any (l : List UInt8) (hl : l.length = 64) (x : Int) (h0 : -9223372036854775808 ≤ x) (h1 : x ≤ 9223372036854775807) (p : Bool) (r : List UInt8) (hr : r.length = 72) (w : World) : Calls Try.prog 9 #[.int .i64 2, .agg (rB 64 l).toArray, .int .i64 x, .bool p, .agg (rB 72 r).toArray] w fun e w' => e = .returned (.bool true) ∧ Below w.heap.size w w' := by
  have HLO := lo23_lt x
  have HEN := fun (x : Int) (p : Bool) => encT_len (n := 36) (eW2_len hl x p) (k := 2) (by decide)
  have HDC : ∀ x, (dDec2_0 r x).length = 64 := fun x => by have h9 := halfT_len (hvT_len (cWx_len hr x) (Nat.le_refl 2)) (Nat.le_refl 2); unfold dDec2_0; cases (decide (2 ≤ jK ((List.range 2).map (cK r x)))) <;> simp [h9]
  have H : Has [] w := has_nil
  have OW : Hid (OwnS [] w [] w) := Lib.hid (OwnS.start H)
  refine (callsIn_wide (n := 6)).1 ?_
  refine callsIn_of_wp_marks Try.func9 rfl trivial ?_ rfl
  simp only [Try.ntmps9, List.size_toArray, List.length_cons, List.length_nil, Nat.reduceAdd, Nat.reduceSub, Array.replicate_succ, Array.replicate_zero, List.push_toArray, List.append_toArray, List.nil_append, List.cons_append]
  gi_upto_region 0 with fail
  refine wpIn_region_re 2 (fun ηq1 => [.bx 0 23 (.agg (rB 64 l).toArray),
      .bx 1 27 (.agg (rB 72 r).toArray),
      .pv (.bool false)])
    (fun ηq1 L => L ++ [((ηq1 0).blk 0, Obj.cells (rB 64 l).toArray 23 (0, 0)), ((ηq1 1).blk 0, Obj.cells (rB 72 r).toArray 27 (0, 0))]) (by kernel_rfl) OW (fun _ => by kernel_rfl) ?_
  clear OW; intro ηq1 ysq1 Wq1 OW
  simp only [↓putE_cons, ↓putE_nil, valE, Hint.val, Act.put, List.setIfInBounds_toArray, List.set_cons_succ, List.set_cons_zero]
  gi_upto_region 1 with fail
  refine wpIn_region_re 7 (fun ηq2 => [.cl 11 #[] (fun E => .pointer (some ⟨E.blk 0, 0, none⟩)) [] [] (fun E => [(2, (E.blk 0, Obj.cells #[.pointer (some ⟨E.blk 1, 0, none⟩), .pointer (some ⟨E.blk 2, 0, none⟩)] 61 (0, 0))), (3, (E.blk 1, Obj.cells hsN 102 (0, 0))), (4, (E.blk 2, Obj.cells #[.pointer (some ⟨E.blk 3, 0, none⟩), .slice (some ⟨E.blk 4, 0, none⟩) 5 (5 + (E.rest 0).length)] 109 (0, 0))), (5, (E.blk 3, Obj.cells fieldCells 137 (0, 0))), (6, (E.blk 4, Obj.cells (rowV genL (E.rest 0)) 5 (0, 0)))]) (enters_of Try.func11 (by kernel_rfl) rfl) (fun w' H => callsIn_wide.2 (dcoder_any  w' H)),
      .pv (.pointer (some ⟨(ηq2 0).blk 0, 0, none⟩))])
    (fun ηq2 L => L ++ [((ηq2 0).blk 0, Obj.cells #[.pointer (some ⟨(ηq2 0).blk 1, 0, none⟩), .pointer (some ⟨(ηq2 0).blk 2, 0, none⟩)] 61 (0, 0)), ((ηq2 0).blk 1, Obj.cells hsN 102 (0, 0)), ((ηq2 0).blk 2, Obj.cells #[.pointer (some ⟨(ηq2 0).blk 3, 0, none⟩), .slice (some ⟨(ηq2 0).blk 4, 0, none⟩) 5 (5 + ((ηq2 0).rest 0).length)] 109 (0, 0)), ((ηq2 0).blk 3, Obj.cells fieldCells 137 (0, 0)), ((ηq2 0).blk 4, Obj.cells (rowV genL ((ηq2 0).rest 0)) 5 (0, 0))]) (by kernel_rfl) OW (fun _ => by kernel_rfl) ?_
  clear OW; intro ηq2 ysq2 Wq2 OW
  simp only [↓putE_cons, ↓putE_nil, valE, Hint.val, Act.put, List.setIfInBounds_toArray, List.set_cons_succ, List.set_cons_zero]
  gi_upto_region 2 with fail
  refine wpIn_region_re 7 (fun ηq3 => [.pv (.pointer (some ⟨(ηq2 0).blk 0, 0, none⟩)),
      .pv (.bool false)])
    (fun ηq3 L => L) (by kernel_rfl) OW (fun _ => by kernel_rfl) ?_
  clear OW; intro ηq3 ysq3 Wq3 OW
  simp only [↓putE_cons, ↓putE_nil, valE, Hint.val, Act.put, List.setIfInBounds_toArray, List.set_cons_succ, List.set_cons_zero]
  gi_upto_region 4 with fail
  refine wpIn_region_re 7 (fun ηq4 => [.pv (.int .i64 x),
      .tv (.int .i64 ((lo23 x : Nat) : Int)) (sBin .and 3 (.tmp 20) (.const (.int .i64 8388607)) (.int .i64 x) (.int .i64 8388607)) (fun _ => and23 x),
      .pv (.int .i64 ((lo23 x : Nat) : Int))])
    (fun ηq4 L => L) (by kernel_rfl) OW (fun _ => by kernel_rfl) ?_
  clear OW; intro ηq4 ysq4 Wq4 OW
  simp only [↓putE_cons, ↓putE_nil, valE, Hint.val, Act.put, List.setIfInBounds_toArray, List.set_cons_succ, List.set_cons_zero]
  gi_upto_region 5 with fail
  refine wpIn_region_re 9 (fun ηq5 => [.pv (.pointer (some ⟨(ηq2 0).blk 0, 0, none⟩)),
      .pv (.int .i64 2),
      .ls (rB 72 r) 1 0,
      .pv (.int .i64 x),
      .cl 13 #[.pointer (some ⟨(ηq2 0).blk 0, 0, none⟩), .int .i64 2, .agg (rB 72 r).toArray, .int .i64 x] (fun E => .tuple #[.agg (rB 64 (dDec2_0 r x)).toArray, .agg #[.int .i64 (jK ((List.range 2).map (cK r x))), .int .i64 (djoin_0 ((List.range 2).map (cK r x)))]]) [(2, ((ηq2 0).blk 0, Obj.cells #[.pointer (some ⟨(ηq2 0).blk 1, 0, none⟩), .pointer (some ⟨(ηq2 0).blk 2, 0, none⟩)] 61 (0, 0))), (4, ((ηq2 0).blk 2, Obj.cells #[.pointer (some ⟨(ηq2 0).blk 3, 0, none⟩), .slice (some ⟨(ηq2 0).blk 4, 0, none⟩) 5 (5 + ((ηq2 0).rest 0).length)] 109 (0, 0))), (5, ((ηq2 0).blk 3, Obj.cells fieldCells 137 (0, 0))), (6, ((ηq2 0).blk 4, Obj.cells (rowV genL ((ηq2 0).rest 0)) 5 (0, 0)))] [] (fun E => []) (enters_of Try.func13 (by kernel_rfl) rfl) (fun w' H => cN (callsIn_wide.2 (dDec2_any ((ηq2 0).blk 0) ((ηq2 0).blk 1) ((ηq2 0).blk 2) ((ηq2 0).blk 3) ((ηq2 0).blk 4) ((ηq2 0).rest 0) r (by first | rfl | (simp only [List.length_set, List.length_append, List.length_replicate, List.length_cons, List.length_nil, List.length_map, List.length_range, List.length_take, List.length_drop, HEN, HDC, hl, hr]; done) | (simp only [List.length_set, List.length_append, List.length_replicate, List.length_cons, List.length_nil, List.length_map, List.length_range, List.length_take, List.length_drop, HEN, HDC, hl, hr]; omega)) x (by omega) (by omega) w' H))),
      .pv (.tuple #[.agg (rB 64 (dDec2_0 r x)).toArray, .agg #[.int .i64 (jK ((List.range 2).map (cK r x))), .int .i64 (djoin_0 ((List.range 2).map (cK r x)))]]),
      .pv (.agg (rB 64 (dDec2_0 r x)).toArray),
      .pv (.agg #[.int .i64 (jK ((List.range 2).map (cK r x))), .int .i64 (djoin_0 ((List.range 2).map (cK r x)))]),
      .al 7 23 (rB 64 (List.replicate 64 0)).toArray,
      .al 8 30 #[.int .i64 0, .int .i64 0],
      .ss 7 ((ηq5 8).blk 0) 0 23 (rB 64 (dDec2_0 r x)) (rB 64 (dDec2_0 r x)).toArray,
      .ss 8 ((ηq5 9).blk 0) 0 30 ([.int .i64 (jK ((List.range 2).map (cK r x))), .int .i64 (djoin_0 ((List.range 2).map (cK r x)))]) #[.int .i64 (jK ((List.range 2).map (cK r x))), .int .i64 (djoin_0 ((List.range 2).map (cK r x)))]])
    (fun ηq5 L => L ++ [((ηq5 8).blk 0, Obj.cells (rB 64 (dDec2_0 r x)).toArray 23 (0, 0)), ((ηq5 9).blk 0, Obj.cells #[.int .i64 (jK ((List.range 2).map (cK r x))), .int .i64 (djoin_0 ((List.range 2).map (cK r x)))] 30 (0, 0))]) (by kernel_rfl) OW (fun _ => by kernel_rfl) ?_
  clear OW; intro ηq5 ysq5 Wq5 OW
  simp only [↓putE_cons, ↓putE_nil, valE, Hint.val, Act.put, List.setIfInBounds_toArray, List.set_cons_succ, List.set_cons_zero]
  gi_upto_region 6 with fail
  refine wpIn_region_re 11 (fun ηq6 => [.pv (.pointer (some ⟨(ηq2 0).blk 0, 0, none⟩)),
      .pv (.int .i64 2),
      .ls (rB 72 r) 1 0,
      .pv (.int .i64 ((lo23 x : Nat) : Int)),
      .cl 13 #[.pointer (some ⟨(ηq2 0).blk 0, 0, none⟩), .int .i64 2, .agg (rB 72 r).toArray, .int .i64 ((lo23 x : Nat) : Int)] (fun E => .tuple #[.agg (rB 64 (dDec2_0 r ((lo23 x : Nat) : Int))).toArray, .agg #[.int .i64 (jK ((List.range 2).map (cK r ((lo23 x : Nat) : Int)))), .int .i64 (djoin_0 ((List.range 2).map (cK r ((lo23 x : Nat) : Int))))]]) [(2, ((ηq2 0).blk 0, Obj.cells #[.pointer (some ⟨(ηq2 0).blk 1, 0, none⟩), .pointer (some ⟨(ηq2 0).blk 2, 0, none⟩)] 61 (0, 0))), (4, ((ηq2 0).blk 2, Obj.cells #[.pointer (some ⟨(ηq2 0).blk 3, 0, none⟩), .slice (some ⟨(ηq2 0).blk 4, 0, none⟩) 5 (5 + ((ηq2 0).rest 0).length)] 109 (0, 0))), (5, ((ηq2 0).blk 3, Obj.cells fieldCells 137 (0, 0))), (6, ((ηq2 0).blk 4, Obj.cells (rowV genL ((ηq2 0).rest 0)) 5 (0, 0)))] [] (fun E => []) (enters_of Try.func13 (by kernel_rfl) rfl) (fun w' H => cN (callsIn_wide.2 (dDec2_any ((ηq2 0).blk 0) ((ηq2 0).blk 1) ((ηq2 0).blk 2) ((ηq2 0).blk 3) ((ηq2 0).blk 4) ((ηq2 0).rest 0) r (by first | rfl | (simp only [List.length_set, List.length_append, List.length_replicate, List.length_cons, List.length_nil, List.length_map, List.length_range, List.length_take, List.length_drop, HEN, HDC, hl, hr]; done) | (simp only [List.length_set, List.length_append, List.length_replicate, List.length_cons, List.length_nil, List.length_map, List.length_range, List.length_take, List.length_drop, HEN, HDC, hl, hr]; omega)) ((lo23 x : Nat) : Int) (by omega) (by omega) w' H))),
      .pv (.tuple #[.agg (rB 64 (dDec2_0 r ((lo23 x : Nat) : Int))).toArray, .agg #[.int .i64 (jK ((List.range 2).map (cK r ((lo23 x : Nat) : Int)))), .int .i64 (djoin_0 ((List.range 2).map (cK r ((lo23 x : Nat) : Int))))]]),
      .pv (.agg (rB 64 (dDec2_0 r ((lo23 x : Nat) : Int))).toArray),
      .pv (.agg #[.int .i64 (jK ((List.range 2).map (cK r ((lo23 x : Nat) : Int)))), .int .i64 (djoin_0 ((List.range 2).map (cK r ((lo23 x : Nat) : Int))))]),
      .al 9 23 (rB 64 (List.replicate 64 0)).toArray,
      .al 10 30 #[.int .i64 0, .int .i64 0],
      .ss 9 ((ηq6 8).blk 0) 0 23 (rB 64 (dDec2_0 r ((lo23 x : Nat) : Int))) (rB 64 (dDec2_0 r ((lo23 x : Nat) : Int))).toArray,
      .ss 10 ((ηq6 9).blk 0) 0 30 ([.int .i64 (jK ((List.range 2).map (cK r ((lo23 x : Nat) : Int)))), .int .i64 (djoin_0 ((List.range 2).map (cK r ((lo23 x : Nat) : Int))))]) #[.int .i64 (jK ((List.range 2).map (cK r ((lo23 x : Nat) : Int)))), .int .i64 (djoin_0 ((List.range 2).map (cK r ((lo23 x : Nat) : Int))))]])
    (fun ηq6 L => L ++ [((ηq6 8).blk 0, Obj.cells (rB 64 (dDec2_0 r ((lo23 x : Nat) : Int))).toArray 23 (0, 0)), ((ηq6 9).blk 0, Obj.cells #[.int .i64 (jK ((List.range 2).map (cK r ((lo23 x : Nat) : Int)))), .int .i64 (djoin_0 ((List.range 2).map (cK r ((lo23 x : Nat) : Int))))] 30 (0, 0))]) (by kernel_rfl) OW (fun _ => by kernel_rfl) ?_
  clear OW; intro ηq6 ysq6 Wq6 OW
  simp only [↓putE_cons, ↓putE_nil, valE, Hint.val, Act.put, List.setIfInBounds_toArray, List.set_cons_succ, List.set_cons_zero]
  gi_upto_region 7 with fail
  refine wpIn_region_re 11 (fun ηq7 => [.pv (.pointer (some ⟨(ηq2 0).blk 0, 0, none⟩)),
      .pv (.int .i64 2),
      .ls (rB 64 l) 0 0,
      .pv (.int .i64 x),
      .pv (.bool p),
      .cl 12 #[.pointer (some ⟨(ηq2 0).blk 0, 0, none⟩), .int .i64 2, .agg (rB 64 l).toArray, .int .i64 x, .bool p] (fun E => .agg (rB 72 (encT 36 (eW2 l x p) 2)).toArray) [(2, ((ηq2 0).blk 0, Obj.cells #[.pointer (some ⟨(ηq2 0).blk 1, 0, none⟩), .pointer (some ⟨(ηq2 0).blk 2, 0, none⟩)] 61 (0, 0))), (4, ((ηq2 0).blk 2, Obj.cells #[.pointer (some ⟨(ηq2 0).blk 3, 0, none⟩), .slice (some ⟨(ηq2 0).blk 4, 0, none⟩) 5 (5 + ((ηq2 0).rest 0).length)] 109 (0, 0))), (5, ((ηq2 0).blk 3, Obj.cells fieldCells 137 (0, 0))), (6, ((ηq2 0).blk 4, Obj.cells (rowV genL ((ηq2 0).rest 0)) 5 (0, 0)))] [] (fun E => []) (enters_of Try.func12 (by kernel_rfl) rfl) (fun w' H => cN (callsIn_wide.2 (dEnc2_any ((ηq2 0).blk 0) ((ηq2 0).blk 1) ((ηq2 0).blk 2) ((ηq2 0).blk 3) ((ηq2 0).blk 4) ((ηq2 0).rest 0) l (by first | rfl | (simp only [List.length_set, List.length_append, List.length_replicate, List.length_cons, List.length_nil, List.length_map, List.length_range, List.length_take, List.length_drop, HEN, HDC, hl, hr]; done) | (simp only [List.length_set, List.length_append, List.length_replicate, List.length_cons, List.length_nil, List.length_map, List.length_range, List.length_take, List.length_drop, HEN, HDC, hl, hr]; omega)) x (by omega) (by omega) p w' H))),
      .pv (.pointer (some ⟨(ηq2 0).blk 0, 0, none⟩)),
      .pv (.int .i64 2),
      .ls (rB 64 l) 0 0,
      .pv (.int .i64 ((lo23 x : Nat) : Int)),
      .pv (.bool p),
      .cl 12 #[.pointer (some ⟨(ηq2 0).blk 0, 0, none⟩), .int .i64 2, .agg (rB 64 l).toArray, .int .i64 ((lo23 x : Nat) : Int), .bool p] (fun E => .agg (rB 72 (encT 36 (eW2 l ((lo23 x : Nat) : Int) p) 2)).toArray) [(2, ((ηq2 0).blk 0, Obj.cells #[.pointer (some ⟨(ηq2 0).blk 1, 0, none⟩), .pointer (some ⟨(ηq2 0).blk 2, 0, none⟩)] 61 (0, 0))), (4, ((ηq2 0).blk 2, Obj.cells #[.pointer (some ⟨(ηq2 0).blk 3, 0, none⟩), .slice (some ⟨(ηq2 0).blk 4, 0, none⟩) 5 (5 + ((ηq2 0).rest 0).length)] 109 (0, 0))), (5, ((ηq2 0).blk 3, Obj.cells fieldCells 137 (0, 0))), (6, ((ηq2 0).blk 4, Obj.cells (rowV genL ((ηq2 0).rest 0)) 5 (0, 0)))] [] (fun E => []) (enters_of Try.func12 (by kernel_rfl) rfl) (fun w' H => cN (callsIn_wide.2 (dEnc2_any ((ηq2 0).blk 0) ((ηq2 0).blk 1) ((ηq2 0).blk 2) ((ηq2 0).blk 3) ((ηq2 0).blk 4) ((ηq2 0).rest 0) l (by first | rfl | (simp only [List.length_set, List.length_append, List.length_replicate, List.length_cons, List.length_nil, List.length_map, List.length_range, List.length_take, List.length_drop, HEN, HDC, hl, hr]; done) | (simp only [List.length_set, List.length_append, List.length_replicate, List.length_cons, List.length_nil, List.length_map, List.length_range, List.length_take, List.length_drop, HEN, HDC, hl, hr]; omega)) ((lo23 x : Nat) : Int) (by omega) (by omega) p w' H))),
      .tv (.bool (decide (encT 36 (eW2 l x p) 2 = encT 36 (eW2 l ((lo23 x : Nat) : Int) p) 2))) (sBin .eql 27 (.tmp 43) (.tmp 49) (.agg (rB 72 (encT 36 (eW2 l x p) 2)).toArray) (.agg (rB 72 (encT 36 (eW2 l ((lo23 x : Nat) : Int) p) 2)).toArray)) (fun _ => bin_eqT (xs := rB 72 (encT 36 (eW2 l x p) 2)) (ys := rB 72 (encT 36 (eW2 l ((lo23 x : Nat) : Int) p) 2)) (by kernel_rfl) (eqc_rB (show (encT 36 (eW2 l x p) 2).length = 72 by first | rfl | (simp only [List.length_set, List.length_append, List.length_replicate, List.length_cons, List.length_nil, List.length_map, List.length_range, List.length_take, List.length_drop, HEN, HDC, hl, hr]; done) | (simp only [List.length_set, List.length_append, List.length_replicate, List.length_cons, List.length_nil, List.length_map, List.length_range, List.length_take, List.length_drop, HEN, HDC, hl, hr]; omega)) (show (encT 36 (eW2 l ((lo23 x : Nat) : Int) p) 2).length = 72 by first | rfl | (simp only [List.length_set, List.length_append, List.length_replicate, List.length_cons, List.length_nil, List.length_map, List.length_range, List.length_take, List.length_drop, HEN, HDC, hl, hr]; done) | (simp only [List.length_set, List.length_append, List.length_replicate, List.length_cons, List.length_nil, List.length_map, List.length_range, List.length_take, List.length_drop, HEN, HDC, hl, hr]; omega)))),
      .pv (.bool (decide (encT 36 (eW2 l x p) 2 = encT 36 (eW2 l ((lo23 x : Nat) : Int) p) 2))),
      .ls (rB 64 (dDec2_0 r x)) 7 0,
      .ls (rB 64 (dDec2_0 r ((lo23 x : Nat) : Int))) 9 0,
      .tv (.bool (decide ((dDec2_0 r x) = (dDec2_0 r ((lo23 x : Nat) : Int))))) (sBin .eql 23 (.tmp 52) (.tmp 53) (.agg (rB 64 (dDec2_0 r x)).toArray) (.agg (rB 64 (dDec2_0 r ((lo23 x : Nat) : Int))).toArray)) (fun _ => bin_eqT (xs := rB 64 (dDec2_0 r x)) (ys := rB 64 (dDec2_0 r ((lo23 x : Nat) : Int))) (by kernel_rfl) (eqc_rB (show ((dDec2_0 r x)).length = 64 by first | rfl | (simp only [List.length_set, List.length_append, List.length_replicate, List.length_cons, List.length_nil, List.length_map, List.length_range, List.length_take, List.length_drop, HEN, HDC, hl, hr]; done) | (simp only [List.length_set, List.length_append, List.length_replicate, List.length_cons, List.length_nil, List.length_map, List.length_range, List.length_take, List.length_drop, HEN, HDC, hl, hr]; omega)) (show ((dDec2_0 r ((lo23 x : Nat) : Int))).length = 64 by first | rfl | (simp only [List.length_set, List.length_append, List.length_replicate, List.length_cons, List.length_nil, List.length_map, List.length_range, List.length_take, List.length_drop, HEN, HDC, hl, hr]; done) | (simp only [List.length_set, List.length_append, List.length_replicate, List.length_cons, List.length_nil, List.length_map, List.length_range, List.length_take, List.length_drop, HEN, HDC, hl, hr]; omega)))),
      .pk (.bool ((decide (encT 36 (eW2 l x p) 2 = encT 36 (eW2 l ((lo23 x : Nat) : Int) p) 2)) && (decide ((dDec2_0 r x) = (dDec2_0 r ((lo23 x : Nat) : Int)))))),
      .pv (.bool ((decide (encT 36 (eW2 l x p) 2 = encT 36 (eW2 l ((lo23 x : Nat) : Int) p) 2)) && (decide ((dDec2_0 r x) = (dDec2_0 r ((lo23 x : Nat) : Int)))))),
      .ls ([.int .i64 (jK ((List.range 2).map (cK r x))), .int .i64 (djoin_0 ((List.range 2).map (cK r x)))]) 8 0,
      .ls ([.int .i64 (jK ((List.range 2).map (cK r ((lo23 x : Nat) : Int)))), .int .i64 (djoin_0 ((List.range 2).map (cK r ((lo23 x : Nat) : Int))))]) 10 0,
      .tv (.bool ((jK ((List.range 2).map (cK r x))) == (jK ((List.range 2).map (cK r ((lo23 x : Nat) : Int)))) && ((djoin_0 ((List.range 2).map (cK r x))) == (djoin_0 ((List.range 2).map (cK r ((lo23 x : Nat) : Int)))) && true))) (sBin .eql 30 (.tmp 57) (.tmp 58) (.agg #[.int .i64 (jK ((List.range 2).map (cK r x))), .int .i64 (djoin_0 ((List.range 2).map (cK r x)))]) (.agg #[.int .i64 (jK ((List.range 2).map (cK r ((lo23 x : Nat) : Int)))), .int .i64 (djoin_0 ((List.range 2).map (cK r ((lo23 x : Nat) : Int))))])) (fun _ => bin_eqT (xs := [.int .i64 (jK ((List.range 2).map (cK r x))), .int .i64 (djoin_0 ((List.range 2).map (cK r x)))]) (ys := [.int .i64 (jK ((List.range 2).map (cK r ((lo23 x : Nat) : Int)))), .int .i64 (djoin_0 ((List.range 2).map (cK r ((lo23 x : Nat) : Int))))]) (by kernel_rfl) (by rfl)),
      .pk (.bool (((decide (encT 36 (eW2 l x p) 2 = encT 36 (eW2 l ((lo23 x : Nat) : Int) p) 2)) && (decide ((dDec2_0 r x) = (dDec2_0 r ((lo23 x : Nat) : Int))))) && ((jK ((List.range 2).map (cK r x))) == (jK ((List.range 2).map (cK r ((lo23 x : Nat) : Int)))) && ((djoin_0 ((List.range 2).map (cK r x))) == (djoin_0 ((List.range 2).map (cK r ((lo23 x : Nat) : Int)))) && true)))),
      .pv (.bool (((decide (encT 36 (eW2 l x p) 2 = encT 36 (eW2 l ((lo23 x : Nat) : Int) p) 2)) && (decide ((dDec2_0 r x) = (dDec2_0 r ((lo23 x : Nat) : Int))))) && ((jK ((List.range 2).map (cK r x))) == (jK ((List.range 2).map (cK r ((lo23 x : Nat) : Int)))) && ((djoin_0 ((List.range 2).map (cK r x))) == (djoin_0 ((List.range 2).map (cK r ((lo23 x : Nat) : Int)))) && true))))])
    (fun ηq7 L => L) (by kernel_rfl) OW (fun _ => by kernel_rfl) ?_
  clear OW; intro ηq7 ysq7 Wq7 OW
  simp only [↓putE_cons, ↓putE_nil, valE, Hint.val, Act.put, List.setIfInBounds_toArray, List.set_cons_succ, List.set_cons_zero]
  gi_wp2
  exact leavesS OW [.t (.bool (((decide (encT 36 (eW2 l x p) 2 = encT 36 (eW2 l ((lo23 x : Nat) : Int) p) 2)) && (decide ((dDec2_0 r x) = (dDec2_0 r ((lo23 x : Nat) : Int))))) && ((jK ((List.range 2).map (cK r x))) == (jK ((List.range 2).map (cK r ((lo23 x : Nat) : Int)))) && ((djoin_0 ((List.range 2).map (cK r x))) == (djoin_0 ((List.range 2).map (cK r ((lo23 x : Nat) : Int)))) && true))))] (by kernel_rfl) fun hO => ⟨(by simp [outV, RV.val, eW2_lo, dDec2_0, cWx_lo, cK_lo]), hO.done⟩
set_option maxRecDepth 100000 in
set_option maxHeartbeats 1000000 in
theorem CodecIndex0_any (m : Int) (hm1 : m ≠ 1) (hm2 : m ≠ 2) (l : List UInt8) (hl : l.length = 64) (x : Int) (h0 : -9223372036854775808 ≤ x) (h1 : x ≤ 9223372036854775807) (p : Bool) (r : List UInt8) (hr : r.length = 72) (w : World) : Calls Try.prog 9 #[.int .i64 m, .agg (rB 64 l).toArray, .int .i64 x, .bool p, .agg (rB 72 r).toArray] w fun e w' => e = .returned (.bool true) ∧ Below w.heap.size w w' := by
  have HLO := lo23_lt x
  have H : Has [] w := has_nil
  have OW : Hid (OwnS [] w [] w) := Lib.hid (OwnS.start H)
  refine (callsIn_wide (n := 6)).1 ?_
  refine callsIn_of_wp_marks Try.func9 rfl trivial ?_ rfl
  simp only [Try.ntmps9, List.size_toArray, List.length_cons, List.length_nil, Nat.reduceAdd, Nat.reduceSub, Array.replicate_succ, Array.replicate_zero, List.push_toArray, List.append_toArray, List.nil_append, List.cons_append]
  gi_upto_region 0 with fail
  refine wpIn_region_re 2 (fun ηq1 => [.bx 0 23 (.agg (rB 64 l).toArray),
      .bx 1 27 (.agg (rB 72 r).toArray),
      .pv (.bool false)])
    (fun ηq1 L => L ++ [((ηq1 0).blk 0, Obj.cells (rB 64 l).toArray 23 (0, 0)), ((ηq1 1).blk 0, Obj.cells (rB 72 r).toArray 27 (0, 0))]) (by kernel_rfl) OW (fun _ => by kernel_rfl) ?_
  clear OW; intro ηq1 ysq1 Wq1 OW
  simp only [↓putE_cons, ↓putE_nil, valE, Hint.val, Act.put, List.setIfInBounds_toArray, List.set_cons_succ, List.set_cons_zero]
  gi_upto_region 1 with fail
  refine wpIn_region_re 7 (fun ηq2 => [.cl 11 #[] (fun E => .pointer (some ⟨E.blk 0, 0, none⟩)) [] [] (fun E => [(2, (E.blk 0, Obj.cells #[.pointer (some ⟨E.blk 1, 0, none⟩), .pointer (some ⟨E.blk 2, 0, none⟩)] 61 (0, 0))), (3, (E.blk 1, Obj.cells hsN 102 (0, 0))), (4, (E.blk 2, Obj.cells #[.pointer (some ⟨E.blk 3, 0, none⟩), .slice (some ⟨E.blk 4, 0, none⟩) 5 (5 + (E.rest 0).length)] 109 (0, 0))), (5, (E.blk 3, Obj.cells fieldCells 137 (0, 0))), (6, (E.blk 4, Obj.cells (rowV genL (E.rest 0)) 5 (0, 0)))]) (enters_of Try.func11 (by kernel_rfl) rfl) (fun w' H => callsIn_wide.2 (dcoder_any  w' H)),
      .pv (.pointer (some ⟨(ηq2 0).blk 0, 0, none⟩))])
    (fun ηq2 L => L ++ [((ηq2 0).blk 0, Obj.cells #[.pointer (some ⟨(ηq2 0).blk 1, 0, none⟩), .pointer (some ⟨(ηq2 0).blk 2, 0, none⟩)] 61 (0, 0)), ((ηq2 0).blk 1, Obj.cells hsN 102 (0, 0)), ((ηq2 0).blk 2, Obj.cells #[.pointer (some ⟨(ηq2 0).blk 3, 0, none⟩), .slice (some ⟨(ηq2 0).blk 4, 0, none⟩) 5 (5 + ((ηq2 0).rest 0).length)] 109 (0, 0)), ((ηq2 0).blk 3, Obj.cells fieldCells 137 (0, 0)), ((ηq2 0).blk 4, Obj.cells (rowV genL ((ηq2 0).rest 0)) 5 (0, 0))]) (by kernel_rfl) OW (fun _ => by kernel_rfl) ?_
  clear OW; intro ηq2 ysq2 Wq2 OW
  simp only [↓putE_cons, ↓putE_nil, valE, Hint.val, Act.put, List.setIfInBounds_toArray, List.set_cons_succ, List.set_cons_zero]
  gi_upto_region 2 with fail
  refine wpIn_region_re 7 (fun ηq3 => [.pv (.pointer (some ⟨(ηq2 0).blk 0, 0, none⟩)),
      .pv (.bool false)])
    (fun ηq3 L => L) (by kernel_rfl) OW (fun _ => by kernel_rfl) ?_
  clear OW; intro ηq3 ysq3 Wq3 OW
  simp only [↓putE_cons, ↓putE_nil, valE, Hint.val, Act.put, List.setIfInBounds_toArray, List.set_cons_succ, List.set_cons_zero]
  gi_upto_region 4 with fail
  refine wpIn_region_re 7 (fun ηq4 => [.pv (.int .i64 x),
      .tv (.int .i64 ((lo23 x : Nat) : Int)) (sBin .and 3 (.tmp 20) (.const (.int .i64 8388607)) (.int .i64 x) (.int .i64 8388607)) (fun _ => and23 x),
      .pv (.int .i64 ((lo23 x : Nat) : Int))])
    (fun ηq4 L => L) (by kernel_rfl) OW (fun _ => by kernel_rfl) ?_
  clear OW; intro ηq4 ysq4 Wq4 OW
  simp only [↓putE_cons, ↓putE_nil, valE, Hint.val, Act.put, List.setIfInBounds_toArray, List.set_cons_succ, List.set_cons_zero]
  gi_upto_region 5 with fail
  refine wpIn_region_re 9 (fun ηq5 => [.pv (.pointer (some ⟨(ηq2 0).blk 0, 0, none⟩)),
      .pv (.int .i64 m),
      .ls (rB 72 r) 1 0,
      .pv (.int .i64 x),
      .cl 13 #[.pointer (some ⟨(ηq2 0).blk 0, 0, none⟩), .int .i64 m, .agg (rB 72 r).toArray, .int .i64 x] (fun E => .tuple #[.agg (rB 64 (List.replicate 64 0)).toArray, .agg #[.int .i64 3, .int .i64 0]]) [] [] (fun E => []) (enters_of Try.func13 (by kernel_rfl) rfl) (fun w' H => cB (callsIn_wide.2 (dDec0_any ((ηq2 0).blk 0) m r (by first | rfl | (simp only [List.length_set, List.length_append, List.length_replicate, List.length_cons, List.length_nil, List.length_map, List.length_range, List.length_take, List.length_drop, hl, hr]; done) | (simp only [List.length_set, List.length_append, List.length_replicate, List.length_cons, List.length_nil, List.length_map, List.length_range, List.length_take, List.length_drop, hl, hr]; omega)) x hm1 hm2 w'))),
      .pv (.tuple #[.agg (rB 64 (List.replicate 64 0)).toArray, .agg #[.int .i64 3, .int .i64 0]]),
      .pv (.agg (rB 64 (List.replicate 64 0)).toArray),
      .pv (.agg #[.int .i64 3, .int .i64 0]),
      .al 7 23 (rB 64 (List.replicate 64 0)).toArray,
      .al 8 30 #[.int .i64 0, .int .i64 0],
      .ss 7 ((ηq5 8).blk 0) 0 23 (rB 64 (List.replicate 64 0)) (rB 64 (List.replicate 64 0)).toArray,
      .ss 8 ((ηq5 9).blk 0) 0 30 ([.int .i64 3, .int .i64 0]) #[.int .i64 3, .int .i64 0]])
    (fun ηq5 L => L ++ [((ηq5 8).blk 0, Obj.cells (rB 64 (List.replicate 64 0)).toArray 23 (0, 0)), ((ηq5 9).blk 0, Obj.cells #[.int .i64 3, .int .i64 0] 30 (0, 0))]) (by kernel_rfl) OW (fun _ => by kernel_rfl) ?_
  clear OW; intro ηq5 ysq5 Wq5 OW
  simp only [↓putE_cons, ↓putE_nil, valE, Hint.val, Act.put, List.setIfInBounds_toArray, List.set_cons_succ, List.set_cons_zero]
  gi_upto_region 6 with fail
  refine wpIn_region_re 11 (fun ηq6 => [.pv (.pointer (some ⟨(ηq2 0).blk 0, 0, none⟩)),
      .pv (.int .i64 m),
      .ls (rB 72 r) 1 0,
      .pv (.int .i64 ((lo23 x : Nat) : Int)),
      .cl 13 #[.pointer (some ⟨(ηq2 0).blk 0, 0, none⟩), .int .i64 m, .agg (rB 72 r).toArray, .int .i64 ((lo23 x : Nat) : Int)] (fun E => .tuple #[.agg (rB 64 (List.replicate 64 0)).toArray, .agg #[.int .i64 3, .int .i64 0]]) [] [] (fun E => []) (enters_of Try.func13 (by kernel_rfl) rfl) (fun w' H => cB (callsIn_wide.2 (dDec0_any ((ηq2 0).blk 0) m r (by first | rfl | (simp only [List.length_set, List.length_append, List.length_replicate, List.length_cons, List.length_nil, List.length_map, List.length_range, List.length_take, List.length_drop, hl, hr]; done) | (simp only [List.length_set, List.length_append, List.length_replicate, List.length_cons, List.length_nil, List.length_map, List.length_range, List.length_take, List.length_drop, hl, hr]; omega)) ((lo23 x : Nat) : Int) hm1 hm2 w'))),
      .pv (.tuple #[.agg (rB 64 (List.replicate 64 0)).toArray, .agg #[.int .i64 3, .int .i64 0]]),
      .pv (.agg (rB 64 (List.replicate 64 0)).toArray),
      .pv (.agg #[.int .i64 3, .int .i64 0]),
      .al 9 23 (rB 64 (List.replicate 64 0)).toArray,
      .al 10 30 #[.int .i64 0, .int .i64 0],
      .ss 9 ((ηq6 8).blk 0) 0 23 (rB 64 (List.replicate 64 0)) (rB 64 (List.replicate 64 0)).toArray,
      .ss 10 ((ηq6 9).blk 0) 0 30 ([.int .i64 3, .int .i64 0]) #[.int .i64 3, .int .i64 0]])
    (fun ηq6 L => L ++ [((ηq6 8).blk 0, Obj.cells (rB 64 (List.replicate 64 0)).toArray 23 (0, 0)), ((ηq6 9).blk 0, Obj.cells #[.int .i64 3, .int .i64 0] 30 (0, 0))]) (by kernel_rfl) OW (fun _ => by kernel_rfl) ?_
  clear OW; intro ηq6 ysq6 Wq6 OW
  simp only [↓putE_cons, ↓putE_nil, valE, Hint.val, Act.put, List.setIfInBounds_toArray, List.set_cons_succ, List.set_cons_zero]
  gi_upto_region 7 with fail
  refine wpIn_region_re 11 (fun ηq7 => [.pv (.pointer (some ⟨(ηq2 0).blk 0, 0, none⟩)),
      .pv (.int .i64 m),
      .ls (rB 64 l) 0 0,
      .pv (.int .i64 x),
      .pv (.bool p),
      .cl 12 #[.pointer (some ⟨(ηq2 0).blk 0, 0, none⟩), .int .i64 m, .agg (rB 64 l).toArray, .int .i64 x, .bool p] (fun E => .agg (rB 72 (List.replicate 72 0)).toArray) [] [] (fun E => []) (enters_of Try.func12 (by kernel_rfl) rfl) (fun w' H => cB (callsIn_wide.2 (dEnc0_any ((ηq2 0).blk 0) m l (by first | rfl | (simp only [List.length_set, List.length_append, List.length_replicate, List.length_cons, List.length_nil, List.length_map, List.length_range, List.length_take, List.length_drop, hl, hr]; done) | (simp only [List.length_set, List.length_append, List.length_replicate, List.length_cons, List.length_nil, List.length_map, List.length_range, List.length_take, List.length_drop, hl, hr]; omega)) x p hm1 hm2 w'))),
      .pv (.pointer (some ⟨(ηq2 0).blk 0, 0, none⟩)),
      .pv (.int .i64 m),
      .ls (rB 64 l) 0 0,
      .pv (.int .i64 ((lo23 x : Nat) : Int)),
      .pv (.bool p),
      .cl 12 #[.pointer (some ⟨(ηq2 0).blk 0, 0, none⟩), .int .i64 m, .agg (rB 64 l).toArray, .int .i64 ((lo23 x : Nat) : Int), .bool p] (fun E => .agg (rB 72 (List.replicate 72 0)).toArray) [] [] (fun E => []) (enters_of Try.func12 (by kernel_rfl) rfl) (fun w' H => cB (callsIn_wide.2 (dEnc0_any ((ηq2 0).blk 0) m l (by first | rfl | (simp only [List.length_set, List.length_append, List.length_replicate, List.length_cons, List.length_nil, List.length_map, List.length_range, List.length_take, List.length_drop, hl, hr]; done) | (simp only [List.length_set, List.length_append, List.length_replicate, List.length_cons, List.length_nil, List.length_map, List.length_range, List.length_take, List.length_drop, hl, hr]; omega)) ((lo23 x : Nat) : Int) p hm1 hm2 w'))),
      .tv (.bool (decide (List.replicate 72 0 = List.replicate 72 0))) (sBin .eql 27 (.tmp 43) (.tmp 49) (.agg (rB 72 (List.replicate 72 0)).toArray) (.agg (rB 72 (List.replicate 72 0)).toArray)) (fun _ => bin_eqT (xs := rB 72 (List.replicate 72 0)) (ys := rB 72 (List.replicate 72 0)) (by kernel_rfl) (eqc_rB (show (List.replicate 72 0).length = 72 by first | rfl | (simp only [List.length_set, List.length_append, List.length_replicate, List.length_cons, List.length_nil, List.length_map, List.length_range, List.length_take, List.length_drop, hl, hr]; done) | (simp only [List.length_set, List.length_append, List.length_replicate, List.length_cons, List.length_nil, List.length_map, List.length_range, List.length_take, List.length_drop, hl, hr]; omega)) (show (List.replicate 72 0).length = 72 by first | rfl | (simp only [List.length_set, List.length_append, List.length_replicate, List.length_cons, List.length_nil, List.length_map, List.length_range, List.length_take, List.length_drop, hl, hr]; done) | (simp only [List.length_set, List.length_append, List.length_replicate, List.length_cons, List.length_nil, List.length_map, List.length_range, List.length_take, List.length_drop, hl, hr]; omega)))),
      .pv (.bool (decide (List.replicate 72 0 = List.replicate 72 0))),
      .ls (rB 64 (List.replicate 64 0)) 7 0,
      .ls (rB 64 (List.replicate 64 0)) 9 0,
      .tv (.bool (decide (List.replicate 64 0 = List.replicate 64 0))) (sBin .eql 23 (.tmp 52) (.tmp 53) (.agg (rB 64 (List.replicate 64 0)).toArray) (.agg (rB 64 (List.replicate 64 0)).toArray)) (fun _ => bin_eqT (xs := rB 64 (List.replicate 64 0)) (ys := rB 64 (List.replicate 64 0)) (by kernel_rfl) (eqc_rB (show (List.replicate 64 0).length = 64 by first | rfl | (simp only [List.length_set, List.length_append, List.length_replicate, List.length_cons, List.length_nil, List.length_map, List.length_range, List.length_take, List.length_drop, hl, hr]; done) | (simp only [List.length_set, List.length_append, List.length_replicate, List.length_cons, List.length_nil, List.length_map, List.length_range, List.length_take, List.length_drop, hl, hr]; omega)) (show (List.replicate 64 0).length = 64 by first | rfl | (simp only [List.length_set, List.length_append, List.length_replicate, List.length_cons, List.length_nil, List.length_map, List.length_range, List.length_take, List.length_drop, hl, hr]; done) | (simp only [List.length_set, List.length_append, List.length_replicate, List.length_cons, List.length_nil, List.length_map, List.length_range, List.length_take, List.length_drop, hl, hr]; omega)))),
      .pk (.bool ((decide (List.replicate 72 0 = List.replicate 72 0)) && (decide (List.replicate 64 0 = List.replicate 64 0)))),
      .pv (.bool ((decide (List.replicate 72 0 = List.replicate 72 0)) && (decide (List.replicate 64 0 = List.replicate 64 0)))),
      .ls ([.int .i64 3, .int .i64 0]) 8 0,
      .ls ([.int .i64 3, .int .i64 0]) 10 0,
      .tv (.bool (3 == 3 && (0 == 0 && true))) (sBin .eql 30 (.tmp 57) (.tmp 58) (.agg #[.int .i64 3, .int .i64 0]) (.agg #[.int .i64 3, .int .i64 0])) (fun _ => bin_eqT (xs := [.int .i64 3, .int .i64 0]) (ys := [.int .i64 3, .int .i64 0]) (by kernel_rfl) (by rfl)),
      .pk (.bool (((decide (List.replicate 72 0 = List.replicate 72 0)) && (decide (List.replicate 64 0 = List.replicate 64 0))) && (3 == 3 && (0 == 0 && true)))),
      .pv (.bool (((decide (List.replicate 72 0 = List.replicate 72 0)) && (decide (List.replicate 64 0 = List.replicate 64 0))) && (3 == 3 && (0 == 0 && true))))])
    (fun ηq7 L => L) (by kernel_rfl) OW (fun _ => by kernel_rfl) ?_
  clear OW; intro ηq7 ysq7 Wq7 OW
  simp only [↓putE_cons, ↓putE_nil, valE, Hint.val, Act.put, List.setIfInBounds_toArray, List.set_cons_succ, List.set_cons_zero]
  gi_wp2
  exact leavesS OW [.t (.bool (((decide (List.replicate 72 0 = List.replicate 72 0)) && (decide (List.replicate 64 0 = List.replicate 64 0))) && (3 == 3 && (0 == 0 && true))))] (by kernel_rfl) fun hO => ⟨(by simp [outV, RV.val]), hO.done⟩
theorem CodecIndex_any (m : Int) (l : List UInt8) (x : Int) (p : Bool) (r : List UInt8) (hl : l.length = 64) (h0 : -9223372036854775808 ≤ x) (h1 : x ≤ 9223372036854775807) (hr : r.length = 72) (w : World) : Calls Try.prog 9 #[.int .i64 m, .agg (rawV l), .int .i64 x, .bool p, .agg (rawV r)] w fun e w' => e = .returned (.bool true) ∧ Below w.heap.size w w' := by
  rw [← rB_raw hl, ← rB_raw hr]
  by_cases e1 : m = 1
  · subst e1; exact CodecIndex1_any l hl x h0 h1 p r hr w
  · by_cases e2 : m = 2
    · subst e2; exact CodecIndex2_any l hl x h0 h1 p r hr w
    · exact CodecIndex0_any m e1 e2 l hl x h0 h1 p r hr w
end Go.Proofs.Ytkeheickaogpiaa
