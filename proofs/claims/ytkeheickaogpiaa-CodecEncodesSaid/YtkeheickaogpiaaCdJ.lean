/- The codec: is there a mode? Virtual symbols by the document. -/
import Derived.Test.YtkeheickaogpiaaCdI
import Derived.Test.YtkeheickaogpiaaRv
import Derived.WalkKit
import Derived.Sort.CutIn
import Derived.IntWalk
namespace Go.Proofs.Ytkeheickaogpiaa
open Go Go.RowKit Go.Shelf
attribute [local go_sem] Oper.semAt_some
set_option linter.unusedVariables false
set_option linter.unusedSimpArgs false


set_option maxRecDepth 100000 in
set_option maxHeartbeats 1000000 in
theorem dmode_any (m : Int) (w : World) : Calls Try.prog 14 #[.int .i64 m] w fun e w' => e = .returned (.bool ((m == 1) || (m == 2))) ∧ Below w.heap.size w w' := by
  have H : Has [] w := has_nil
  have OW : Hid (OwnS [] w [] w) := Lib.hid (OwnS.start H)
  refine (callsIn_wide (n := 6)).1 ?_
  refine callsIn_of_wp_marks Try.func14 rfl trivial ?_ rfl
  simp only [Try.ntmps14, List.size_toArray, List.length_cons, List.length_nil, Nat.reduceAdd, Nat.reduceSub, Array.replicate_succ, Array.replicate_zero, List.push_toArray, List.append_toArray, List.nil_append, List.cons_append]
  gi_upto_region 0 with fail
  refine wpIn_region_re 0 (fun ηq1 => [.pv (.bool false)])
    (fun ηq1 L => L) (by kernel_rfl) OW (fun _ => by kernel_rfl) ?_
  clear OW; intro ηq1 ysq1 Wq1 OW
  simp only [↓putE_cons, ↓putE_nil, valE, Hint.val, Act.put, List.setIfInBounds_toArray, List.set_cons_succ, List.set_cons_zero]
  gi_upto_region 1 with fail
  refine wpIn_region_re 0 (fun ηq2 => [.pv (.int .i64 m),
      .pv (.bool (m == 1)),
      .pv (.bool (m == 1)),
      .pv (.int .i64 m),
      .pv (.bool (m == 2)),
      .pk (.bool ((m == 1) || (m == 2))),
      .pv (.bool ((m == 1) || (m == 2)))])
    (fun ηq2 L => L) (by kernel_rfl) OW (fun _ => by kernel_rfl) ?_
  clear OW; intro ηq2 ysq2 Wq2 OW
  simp only [↓putE_cons, ↓putE_nil, valE, Hint.val, Act.put, List.setIfInBounds_toArray, List.set_cons_succ, List.set_cons_zero]
  gi_wp2
  exact leavesS OW [.t (.bool ((m == 1) || (m == 2)))] (by kernel_rfl) fun hO => ⟨rfl, hO.done⟩
def rvirt_0 (x : Int) (p : Bool) : List UInt8 := (bif p then [UInt8.ofNat ((((u64N x) % 8388608) + 8388608) % 256), UInt8.ofNat (((((u64N x) % 8388608) + 8388608) / 256) % 256), UInt8.ofNat ((((u64N x) % 8388608) + 8388608) / 65536)] else [UInt8.ofNat (((u64N x) % 8388608) % 256), UInt8.ofNat ((((u64N x) % 8388608) / 256) % 256), UInt8.ofNat (((u64N x) % 8388608) / 65536)])
set_option maxRecDepth 100000 in
set_option maxHeartbeats 1000000 in
theorem rvirt_any (x : Int) (h0 : -9223372036854775808 ≤ x) (h1 : x ≤ 9223372036854775807) (p : Bool) (w : World) : Calls Try.prog 19 #[.int .i64 x, .bool p] w fun e w' => e = .returned (.agg (rB 3 (rvirt_0 x p)).toArray) ∧ Below w.heap.size w w' := by
  have HU := u64N_lt x
  have H : Has [] w := has_nil
  have OW : Hid (OwnS [] w [] w) := Lib.hid (OwnS.start H)
  refine (callsIn_wide (n := 6)).1 ?_
  refine callsIn_of_wp_marks Try.func19 rfl trivial ?_ rfl
  simp only [Try.ntmps19, List.size_toArray, List.length_cons, List.length_nil, Nat.reduceAdd, Nat.reduceSub, Array.replicate_succ, Array.replicate_zero, List.push_toArray, List.append_toArray, List.nil_append, List.cons_append]
  gi_upto_region 0 with fail
  refine wpIn_region_re 1 (fun ηq1 => [.al 0 43 (rB 3 (List.replicate 3 0)).toArray])
    (fun ηq1 L => L ++ [((ηq1 0).blk 0, Obj.cells (rB 3 (List.replicate 3 0)).toArray 43 (0, 0))]) (by kernel_rfl) OW (fun _ => by kernel_rfl) ?_
  clear OW; intro ηq1 ysq1 Wq1 OW
  simp only [↓putE_cons, ↓putE_nil, valE, Hint.val, Act.put, List.setIfInBounds_toArray, List.set_cons_succ, List.set_cons_zero]
  gi_upto_region 1 with fail
  refine wpIn_region_re 1 (fun ηq2 => [.pv (.int .i64 x),
      .tv (.int .u64 ((u64N x : Nat) : Int)) (convert 3 54 (.int .i64 x)) (fun _ => cvt_i64w Try.underlying3 Try.underlying54),
      .tv (.int .u64 (((u64N x) % 8388608 : Nat) : Int)) (sBin .rem 54 (.tmp 7) (.const (.int .u64 8388608)) (.int .u64 ((u64N x : Nat) : Int)) (.int .u64 8388608)) (fun _ => bin_rem_u64 (a := u64N x) (d := 8388608) (by decide)),
      .pv (.int .u64 (((u64N x) % 8388608 : Nat) : Int))])
    (fun ηq2 L => L) (by kernel_rfl) OW (fun _ => by kernel_rfl) ?_
  clear OW; intro ηq2 ysq2 Wq2 OW
  simp only [↓putE_cons, ↓putE_nil, valE, Hint.val, Act.put, List.setIfInBounds_toArray, List.set_cons_succ, List.set_cons_zero]
  gi_upto_region 2 with fail
  refine wpIn_region_re 1 (fun ηq3 => [.pv (.bool p)])
    (fun ηq3 L => L) (by kernel_rfl) OW (fun _ => by kernel_rfl) ?_
  clear OW; intro ηq3 ysq3 Wq3 OW
  simp only [↓putE_cons, ↓putE_nil, valE, Hint.val, Act.put, List.setIfInBounds_toArray, List.set_cons_succ, List.set_cons_zero]
  cases hB4 : (p)
  case true =>
    gi_upto_region 3 with fail
    refine wpIn_region_re 1 (fun ηq5 => [.pv (.int .u64 (((u64N x) % 8388608 : Nat) : Int)),
        .tv (.int .u64 ((((u64N x) % 8388608) + 8388608 : Nat) : Int)) (sBin .add 54 (.tmp 10) (.const (.int .u64 8388608)) (.int .u64 (((u64N x) % 8388608 : Nat) : Int)) (.int .u64 8388608)) (fun _ => bin_add_u64 (a := (u64N x) % 8388608) (b := 8388608) (by omega)),
        .pv (.int .u64 ((((u64N x) % 8388608) + 8388608 : Nat) : Int))])
      (fun ηq5 L => L) (by kernel_rfl) OW (fun _ => by kernel_rfl) ?_
    clear OW; intro ηq5 ysq5 Wq5 OW
    simp only [↓putE_cons, ↓putE_nil, valE, Hint.val, Act.put, List.setIfInBounds_toArray, List.set_cons_succ, List.set_cons_zero]
    gi_upto_region 4 with fail
    refine wpIn_region_re 1 (fun ηq6 => [.pv (.int .u64 ((((u64N x) % 8388608) + 8388608 : Nat) : Int)),
        .tv (.int .u64 (((((u64N x) % 8388608) + 8388608) % 256 : Nat) : Int)) (sBin .rem 54 (.tmp 12) (.const (.int .u64 256)) (.int .u64 ((((u64N x) % 8388608) + 8388608 : Nat) : Int)) (.int .u64 256)) (fun _ => bin_rem_u64 (a := ((u64N x) % 8388608) + 8388608) (d := 256) (by decide)),
        .tv (.int .u8 ((UInt8.ofNat ((((u64N x) % 8388608) + 8388608) % 256)).toNat : Int)) (convert 54 5 (.int .u64 (((((u64N x) % 8388608) + 8388608) % 256 : Nat) : Int))) (fun _ => cvt_u64u8 Try.underlying54 Try.underlying5),
        .pv (.int .u64 ((((u64N x) % 8388608) + 8388608 : Nat) : Int)),
        .tv (.int .u64 (((((u64N x) % 8388608) + 8388608) / 256 : Nat) : Int)) (sBin .quo 54 (.tmp 15) (.const (.int .u64 256)) (.int .u64 ((((u64N x) % 8388608) + 8388608 : Nat) : Int)) (.int .u64 256)) (fun _ => bin_quo_u64 (a := ((u64N x) % 8388608) + 8388608) (d := 256) (by decide) (by omega)),
        .tv (.int .u64 ((((((u64N x) % 8388608) + 8388608) / 256) % 256 : Nat) : Int)) (sBin .rem 54 (.tmp 16) (.const (.int .u64 256)) (.int .u64 (((((u64N x) % 8388608) + 8388608) / 256 : Nat) : Int)) (.int .u64 256)) (fun _ => bin_rem_u64 (a := (((u64N x) % 8388608) + 8388608) / 256) (d := 256) (by decide)),
        .tv (.int .u8 ((UInt8.ofNat (((((u64N x) % 8388608) + 8388608) / 256) % 256)).toNat : Int)) (convert 54 5 (.int .u64 ((((((u64N x) % 8388608) + 8388608) / 256) % 256 : Nat) : Int))) (fun _ => cvt_u64u8 Try.underlying54 Try.underlying5),
        .pv (.int .u64 ((((u64N x) % 8388608) + 8388608 : Nat) : Int)),
        .tv (.int .u64 (((((u64N x) % 8388608) + 8388608) / 65536 : Nat) : Int)) (sBin .quo 54 (.tmp 19) (.const (.int .u64 65536)) (.int .u64 ((((u64N x) % 8388608) + 8388608 : Nat) : Int)) (.int .u64 65536)) (fun _ => bin_quo_u64 (a := ((u64N x) % 8388608) + 8388608) (d := 65536) (by decide) (by omega)),
        .tv (.int .u8 ((UInt8.ofNat ((((u64N x) % 8388608) + 8388608) / 65536)).toNat : Int)) (convert 54 5 (.int .u64 (((((u64N x) % 8388608) + 8388608) / 65536 : Nat) : Int))) (fun _ => cvt_u64u8 Try.underlying54 Try.underlying5),
        .pv (.agg (rB 3 ([UInt8.ofNat ((((u64N x) % 8388608) + 8388608) % 256), UInt8.ofNat (((((u64N x) % 8388608) + 8388608) / 256) % 256), UInt8.ofNat ((((u64N x) % 8388608) + 8388608) / 65536)])).toArray),
        .ss 0 ((ηq1 0).blk 0) 0 43 (rB 3 ([UInt8.ofNat ((((u64N x) % 8388608) + 8388608) % 256), UInt8.ofNat (((((u64N x) % 8388608) + 8388608) / 256) % 256), UInt8.ofNat ((((u64N x) % 8388608) + 8388608) / 65536)])) (rB 3 ([UInt8.ofNat ((((u64N x) % 8388608) + 8388608) % 256), UInt8.ofNat (((((u64N x) % 8388608) + 8388608) / 256) % 256), UInt8.ofNat ((((u64N x) % 8388608) + 8388608) / 65536)])).toArray])
      (fun ηq6 L => L.set 0 ((ηq1 0).blk 0, Obj.cells (rB 3 ([UInt8.ofNat ((((u64N x) % 8388608) + 8388608) % 256), UInt8.ofNat (((((u64N x) % 8388608) + 8388608) / 256) % 256), UInt8.ofNat ((((u64N x) % 8388608) + 8388608) / 65536)])).toArray 43 (0, 0))) (by kernel_rfl) OW (fun _ => by kernel_rfl) ?_
    clear OW; intro ηq6 ysq6 Wq6 OW
    simp only [↓putE_cons, ↓putE_nil, valE, Hint.val, Act.put, List.setIfInBounds_toArray, List.set_cons_succ, List.set_cons_zero]
    gi_wp2
    exact leavesS OW [.s (rB 3 ([UInt8.ofNat ((((u64N x) % 8388608) + 8388608) % 256), UInt8.ofNat (((((u64N x) % 8388608) + 8388608) / 256) % 256), UInt8.ofNat ((((u64N x) % 8388608) + 8388608) / 65536)])) 0] (by kernel_rfl) fun hO => ⟨(by (try simp only [rvirt_0]); (repeat (first | rw [hB4] | rw [cond_true] | rw [cond_false])); try rfl), hO.done⟩
  gi_upto_region 4 with fail
  refine wpIn_region_re 1 (fun ηq7 => [.pv (.int .u64 (((u64N x) % 8388608 : Nat) : Int)),
      .tv (.int .u64 ((((u64N x) % 8388608) % 256 : Nat) : Int)) (sBin .rem 54 (.tmp 12) (.const (.int .u64 256)) (.int .u64 (((u64N x) % 8388608 : Nat) : Int)) (.int .u64 256)) (fun _ => bin_rem_u64 (a := (u64N x) % 8388608) (d := 256) (by decide)),
      .tv (.int .u8 ((UInt8.ofNat (((u64N x) % 8388608) % 256)).toNat : Int)) (convert 54 5 (.int .u64 ((((u64N x) % 8388608) % 256 : Nat) : Int))) (fun _ => cvt_u64u8 Try.underlying54 Try.underlying5),
      .pv (.int .u64 (((u64N x) % 8388608 : Nat) : Int)),
      .tv (.int .u64 ((((u64N x) % 8388608) / 256 : Nat) : Int)) (sBin .quo 54 (.tmp 15) (.const (.int .u64 256)) (.int .u64 (((u64N x) % 8388608 : Nat) : Int)) (.int .u64 256)) (fun _ => bin_quo_u64 (a := (u64N x) % 8388608) (d := 256) (by decide) (by omega)),
      .tv (.int .u64 (((((u64N x) % 8388608) / 256) % 256 : Nat) : Int)) (sBin .rem 54 (.tmp 16) (.const (.int .u64 256)) (.int .u64 ((((u64N x) % 8388608) / 256 : Nat) : Int)) (.int .u64 256)) (fun _ => bin_rem_u64 (a := ((u64N x) % 8388608) / 256) (d := 256) (by decide)),
      .tv (.int .u8 ((UInt8.ofNat ((((u64N x) % 8388608) / 256) % 256)).toNat : Int)) (convert 54 5 (.int .u64 (((((u64N x) % 8388608) / 256) % 256 : Nat) : Int))) (fun _ => cvt_u64u8 Try.underlying54 Try.underlying5),
      .pv (.int .u64 (((u64N x) % 8388608 : Nat) : Int)),
      .tv (.int .u64 ((((u64N x) % 8388608) / 65536 : Nat) : Int)) (sBin .quo 54 (.tmp 19) (.const (.int .u64 65536)) (.int .u64 (((u64N x) % 8388608 : Nat) : Int)) (.int .u64 65536)) (fun _ => bin_quo_u64 (a := (u64N x) % 8388608) (d := 65536) (by decide) (by omega)),
      .tv (.int .u8 ((UInt8.ofNat (((u64N x) % 8388608) / 65536)).toNat : Int)) (convert 54 5 (.int .u64 ((((u64N x) % 8388608) / 65536 : Nat) : Int))) (fun _ => cvt_u64u8 Try.underlying54 Try.underlying5),
      .pv (.agg (rB 3 ([UInt8.ofNat (((u64N x) % 8388608) % 256), UInt8.ofNat ((((u64N x) % 8388608) / 256) % 256), UInt8.ofNat (((u64N x) % 8388608) / 65536)])).toArray),
      .ss 0 ((ηq1 0).blk 0) 0 43 (rB 3 ([UInt8.ofNat (((u64N x) % 8388608) % 256), UInt8.ofNat ((((u64N x) % 8388608) / 256) % 256), UInt8.ofNat (((u64N x) % 8388608) / 65536)])) (rB 3 ([UInt8.ofNat (((u64N x) % 8388608) % 256), UInt8.ofNat ((((u64N x) % 8388608) / 256) % 256), UInt8.ofNat (((u64N x) % 8388608) / 65536)])).toArray])
    (fun ηq7 L => L.set 0 ((ηq1 0).blk 0, Obj.cells (rB 3 ([UInt8.ofNat (((u64N x) % 8388608) % 256), UInt8.ofNat ((((u64N x) % 8388608) / 256) % 256), UInt8.ofNat (((u64N x) % 8388608) / 65536)])).toArray 43 (0, 0))) (by kernel_rfl) OW (fun _ => by kernel_rfl) ?_
  clear OW; intro ηq7 ysq7 Wq7 OW
  simp only [↓putE_cons, ↓putE_nil, valE, Hint.val, Act.put, List.setIfInBounds_toArray, List.set_cons_succ, List.set_cons_zero]
  gi_wp2
  exact leavesS OW [.s (rB 3 ([UInt8.ofNat (((u64N x) % 8388608) % 256), UInt8.ofNat ((((u64N x) % 8388608) / 256) % 256), UInt8.ofNat (((u64N x) % 8388608) / 65536)])) 0] (by kernel_rfl) fun hO => ⟨(by (try simp only [rvirt_0]); (repeat (first | rw [hB4] | rw [cond_true] | rw [cond_false])); try rfl), hO.done⟩
end Go.Proofs.Ytkeheickaogpiaa
