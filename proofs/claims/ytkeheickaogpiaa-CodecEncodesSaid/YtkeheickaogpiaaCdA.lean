/- Small functions of the codec. -/
import Derived.Test.YtkeheickaogpiaaReK
import Derived.Test.YtkeheickaogpiaaRy
import Derived.Test.YtkeheickaogpiaaCoM
import Derived.Test.YtkeheickaogpiaaRsR
import Derived.Test.YtkeheickaogpiaaBtA
import Derived.WalkKit
import Derived.Sort.CutIn
import Derived.IntWalk
namespace Go.Proofs.Ytkeheickaogpiaa
open Go Go.RowKit Go.Shelf
attribute [local go_sem] Oper.semAt_some
set_option linter.unusedVariables false
set_option linter.unusedSimpArgs false


def dflag_0 (b : Bool) : Int := (bif b then 1 else 0)
set_option maxRecDepth 100000 in
set_option maxHeartbeats 1000000 in
theorem dflag_any (b : Bool) (w : World) : Calls Try.prog 28 #[.bool b] w fun e w' => e = .returned (.int .i64 (dflag_0 b)) ∧ Below w.heap.size w w' := by
  have H : Has [] w := has_nil
  have OW : Hid (OwnS [] w [] w) := Lib.hid (OwnS.start H)
  refine (callsIn_wide (n := 6)).1 ?_
  refine callsIn_of_wp_marks Try.func28 rfl trivial ?_ rfl
  simp only [Try.ntmps28, List.size_toArray, List.length_cons, List.length_nil, Nat.reduceAdd, Nat.reduceSub, Array.replicate_succ, Array.replicate_zero, List.push_toArray, List.append_toArray, List.nil_append, List.cons_append]
  gi_upto_region 0 with fail
  refine wpIn_region_re 0 (fun ηq1 => [.pv (.int .i64 0)])
    (fun ηq1 L => L) (by kernel_rfl) OW (fun _ => by kernel_rfl) ?_
  clear OW; intro ηq1 ysq1 Wq1 OW
  simp only [↓putE_cons, ↓putE_nil, valE, Hint.val, Act.put, List.setIfInBounds_toArray, List.set_cons_succ, List.set_cons_zero]
  gi_upto_region 1 with fail
  refine wpIn_region_re 0 (fun ηq2 => [.pv (.bool b)])
    (fun ηq2 L => L) (by kernel_rfl) OW (fun _ => by kernel_rfl) ?_
  clear OW; intro ηq2 ysq2 Wq2 OW
  simp only [↓putE_cons, ↓putE_nil, valE, Hint.val, Act.put, List.setIfInBounds_toArray, List.set_cons_succ, List.set_cons_zero]
  cases hB3 : (b)
  case true =>
    gi_upto_region 2 with fail
    refine wpIn_region_re 0 (fun ηq4 => [.pv (.int .i64 1)])
      (fun ηq4 L => L) (by kernel_rfl) OW (fun _ => by kernel_rfl) ?_
    clear OW; intro ηq4 ysq4 Wq4 OW
    simp only [↓putE_cons, ↓putE_nil, valE, Hint.val, Act.put, List.setIfInBounds_toArray, List.set_cons_succ, List.set_cons_zero]
    gi_wp2
    exact leavesS OW [.t (.int .i64 1)] (by kernel_rfl) fun hO => ⟨(by (try simp only [dflag_0]); (repeat (first | rw [hB3] | rw [cond_true] | rw [cond_false])); try rfl), hO.done⟩
  gi_upto_region 3 with fail
  refine wpIn_region_re 0 (fun ηq5 => [.pv (.int .i64 0)])
    (fun ηq5 L => L) (by kernel_rfl) OW (fun _ => by kernel_rfl) ?_
  clear OW; intro ηq5 ysq5 Wq5 OW
  simp only [↓putE_cons, ↓putE_nil, valE, Hint.val, Act.put, List.setIfInBounds_toArray, List.set_cons_succ, List.set_cons_zero]
  gi_wp2
  exact leavesS OW [.t (.int .i64 0)] (by kernel_rfl) fun hO => ⟨(by (try simp only [dflag_0]); (repeat (first | rw [hB3] | rw [cond_true] | rw [cond_false])); try rfl), hO.done⟩
set_option maxRecDepth 100000 in
set_option maxHeartbeats 1000000 in
theorem dbytes_any (x : Int) (h0 : -9223372036854775808 ≤ x) (h1 : x ≤ 9223372036854775807) (w : World) : Calls Try.prog 55 #[.int .i64 x] w fun e w' => e = .returned (.agg (rB 3 ([u8I x, u8I (x / 256), (u8I (x / 65536)) &&& (127 : UInt8)])).toArray) ∧ Below w.heap.size w w' := by
  have H : Has [] w := has_nil
  have OW : Hid (OwnS [] w [] w) := Lib.hid (OwnS.start H)
  refine (callsIn_wide (n := 6)).1 ?_
  refine callsIn_of_wp_marks Try.func55 rfl trivial ?_ rfl
  simp only [Try.ntmps55, List.size_toArray, List.length_cons, List.length_nil, Nat.reduceAdd, Nat.reduceSub, Array.replicate_succ, Array.replicate_zero, List.push_toArray, List.append_toArray, List.nil_append, List.cons_append]
  gi_upto_region 0 with fail
  refine wpIn_region_re 1 (fun ηq1 => [.al 0 43 (rB 3 (List.replicate 3 0)).toArray])
    (fun ηq1 L => L ++ [((ηq1 0).blk 0, Obj.cells (rB 3 (List.replicate 3 0)).toArray 43 (0, 0))]) (by kernel_rfl) OW (fun _ => by kernel_rfl) ?_
  clear OW; intro ηq1 ysq1 Wq1 OW
  simp only [↓putE_cons, ↓putE_nil, valE, Hint.val, Act.put, List.setIfInBounds_toArray, List.set_cons_succ, List.set_cons_zero]
  gi_upto_region 1 with fail
  refine wpIn_region_re 1 (fun ηq2 => [.pv (.int .i64 x),
      .tv (.int .u8 ((u8I x).toNat : Int)) (convert 3 5 (.int .i64 x)) (fun _ => cvt_u8 Try.underlying3 Try.underlying5),
      .pv (.int .i64 x),
      .tv (.int .i64 (x / 256)) (sBin .shr 3 (.tmp 5) (.const (.int .u64 8)) (.int .i64 x) (.int .u64 8)) (fun _ => bin_shr_i64 8 (by decide)),
      .tv (.int .u8 ((u8I (x / 256)).toNat : Int)) (convert 3 5 (.int .i64 (x / 256))) (fun _ => cvt_u8 Try.underlying3 Try.underlying5),
      .pv (.int .i64 x),
      .tv (.int .i64 (x / 65536)) (sBin .shr 3 (.tmp 8) (.const (.int .u64 16)) (.int .i64 x) (.int .u64 16)) (fun _ => bin_shr_i64 16 (by decide)),
      .tv (.int .u8 ((u8I (x / 65536)).toNat : Int)) (convert 3 5 (.int .i64 (x / 65536))) (fun _ => cvt_u8 Try.underlying3 Try.underlying5),
      .tv (.int .u8 (((u8I (x / 65536)) &&& (127 : UInt8)).toNat : Int)) (sBin .and 5 (.tmp 10) (.const (.int .u8 127)) (.int .u8 ((u8I (x / 65536)).toNat : Int)) (.int .u8 127)) (fun _ => bin_and_u8 (u8I (x / 65536)) ((127 : UInt8))),
      .pv (.agg (rB 3 ([u8I x, u8I (x / 256), (u8I (x / 65536)) &&& (127 : UInt8)])).toArray),
      .ss 0 ((ηq1 0).blk 0) 0 43 (rB 3 ([u8I x, u8I (x / 256), (u8I (x / 65536)) &&& (127 : UInt8)])) (rB 3 ([u8I x, u8I (x / 256), (u8I (x / 65536)) &&& (127 : UInt8)])).toArray])
    (fun ηq2 L => L.set 0 ((ηq1 0).blk 0, Obj.cells (rB 3 ([u8I x, u8I (x / 256), (u8I (x / 65536)) &&& (127 : UInt8)])).toArray 43 (0, 0))) (by kernel_rfl) OW (fun _ => by kernel_rfl) ?_
  clear OW; intro ηq2 ysq2 Wq2 OW
  simp only [↓putE_cons, ↓putE_nil, valE, Hint.val, Act.put, List.setIfInBounds_toArray, List.set_cons_succ, List.set_cons_zero]
  gi_wp2
  exact leavesS OW [.s (rB 3 ([u8I x, u8I (x / 256), (u8I (x / 65536)) &&& (127 : UInt8)])) 0] (by kernel_rfl) fun hO => ⟨rfl, hO.done⟩
def dvirt_0 (x : Int) (b : Bool) : List UInt8 := (bif b then ([u8I x, u8I (x / 256), (u8I (x / 65536)) &&& (127 : UInt8)]).set 2 (((u8I (x / 65536)) &&& (127 : UInt8)) ||| (128 : UInt8)) else [u8I x, u8I (x / 256), (u8I (x / 65536)) &&& (127 : UInt8)])
set_option maxRecDepth 100000 in
set_option maxHeartbeats 1000000 in
theorem dvirt_any (x : Int) (h0 : -9223372036854775808 ≤ x) (h1 : x ≤ 9223372036854775807) (b : Bool) (w : World) : Calls Try.prog 29 #[.int .i64 x, .bool b] w fun e w' => e = .returned (.agg (rB 3 (dvirt_0 x b)).toArray) ∧ Below w.heap.size w w' := by
  have H : Has [] w := has_nil
  have OW : Hid (OwnS [] w [] w) := Lib.hid (OwnS.start H)
  refine (callsIn_wide (n := 6)).1 ?_
  refine callsIn_of_wp_marks Try.func29 rfl trivial ?_ rfl
  simp only [Try.ntmps29, List.size_toArray, List.length_cons, List.length_nil, Nat.reduceAdd, Nat.reduceSub, Array.replicate_succ, Array.replicate_zero, List.push_toArray, List.append_toArray, List.nil_append, List.cons_append]
  gi_upto_region 0 with fail
  refine wpIn_region_re 1 (fun ηq1 => [.al 0 43 (rB 3 (List.replicate 3 0)).toArray])
    (fun ηq1 L => L ++ [((ηq1 0).blk 0, Obj.cells (rB 3 (List.replicate 3 0)).toArray 43 (0, 0))]) (by kernel_rfl) OW (fun _ => by kernel_rfl) ?_
  clear OW; intro ηq1 ysq1 Wq1 OW
  simp only [↓putE_cons, ↓putE_nil, valE, Hint.val, Act.put, List.setIfInBounds_toArray, List.set_cons_succ, List.set_cons_zero]
  gi_upto_region 1 with fail
  refine wpIn_region_re 2 (fun ηq2 => [.pv (.int .i64 x),
      .cl 55 #[.int .i64 x] (fun E => .agg (rB 3 ([u8I x, u8I (x / 256), (u8I (x / 65536)) &&& (127 : UInt8)])).toArray) [] [] (fun E => []) (enters_of Try.func55 (by kernel_rfl) rfl) (fun w' H => cB (callsIn_wide.2 (dbytes_any x (by omega) (by omega) w'))),
      .al 1 43 (rB 3 (List.replicate 3 0)).toArray,
      .ss 1 ((ηq2 2).blk 0) 0 43 (rB 3 ([u8I x, u8I (x / 256), (u8I (x / 65536)) &&& (127 : UInt8)])) (rB 3 ([u8I x, u8I (x / 256), (u8I (x / 65536)) &&& (127 : UInt8)])).toArray])
    (fun ηq2 L => L ++ [((ηq2 2).blk 0, Obj.cells (rB 3 ([u8I x, u8I (x / 256), (u8I (x / 65536)) &&& (127 : UInt8)])).toArray 43 (0, 0))]) (by kernel_rfl) OW (fun _ => by kernel_rfl) ?_
  clear OW; intro ηq2 ysq2 Wq2 OW
  simp only [↓putE_cons, ↓putE_nil, valE, Hint.val, Act.put, List.setIfInBounds_toArray, List.set_cons_succ, List.set_cons_zero]
  gi_upto_region 2 with fail
  refine wpIn_region_re 2 (fun ηq3 => [.pv (.bool b)])
    (fun ηq3 L => L) (by kernel_rfl) OW (fun _ => by kernel_rfl) ?_
  clear OW; intro ηq3 ysq3 Wq3 OW
  simp only [↓putE_cons, ↓putE_nil, valE, Hint.val, Act.put, List.setIfInBounds_toArray, List.set_cons_succ, List.set_cons_zero]
  cases hB4 : (b)
  case true =>
    gi_upto_region 3 with fail
    refine wpIn_region_re 2 (fun ηq5 => [.pv (.pointer (some ⟨(ηq2 2).blk 0, 2, none⟩)),
        .ld (.int .u8 (((u8I (x / 65536)) &&& (127 : UInt8)).toNat : Int)) 1 2,
        .tv (.int .u8 ((((u8I (x / 65536)) &&& (127 : UInt8)) ||| (128 : UInt8)).toNat : Int)) (sBin .or 5 (.tmp 10) (.const (.int .u8 128)) (.int .u8 (((u8I (x / 65536)) &&& (127 : UInt8)).toNat : Int)) (.int .u8 128)) (fun _ => bin_or_u8 ((u8I (x / 65536)) &&& (127 : UInt8)) ((128 : UInt8))),
        .pv (.pointer (some ⟨(ηq2 2).blk 0, 2, none⟩)),
        .sw 1 ((ηq2 2).blk 0) 2 43 (.int .u8 ((((u8I (x / 65536)) &&& (127 : UInt8)) ||| (128 : UInt8)).toNat : Int)) (rB 3 ([u8I x, u8I (x / 256), (u8I (x / 65536)) &&& (127 : UInt8)])).toArray (rB 3 (([u8I x, u8I (x / 256), (u8I (x / 65536)) &&& (127 : UInt8)]).set 2 (((u8I (x / 65536)) &&& (127 : UInt8)) ||| (128 : UInt8)))).toArray (rB_set (show ([u8I x, u8I (x / 256), (u8I (x / 65536)) &&& (127 : UInt8)]).length = 3 by first | rfl | simp only [List.length_set, List.length_append, List.length_replicate, List.length_cons, List.length_nil, List.length_map, List.length_range, List.length_take, List.length_drop] | (simp only [List.length_set, List.length_append, List.length_replicate, List.length_cons, List.length_nil, List.length_map, List.length_range, List.length_take, List.length_drop]; omega))) (rL_lt (by decide))])
      (fun ηq5 L => L.set 1 ((ηq2 2).blk 0, Obj.cells (rB 3 (([u8I x, u8I (x / 256), (u8I (x / 65536)) &&& (127 : UInt8)]).set 2 (((u8I (x / 65536)) &&& (127 : UInt8)) ||| (128 : UInt8)))).toArray 43 (0, 0))) (by kernel_rfl) OW (fun _ => by kernel_rfl) ?_
    clear OW; intro ηq5 ysq5 Wq5 OW
    simp only [↓putE_cons, ↓putE_nil, valE, Hint.val, Act.put, List.setIfInBounds_toArray, List.set_cons_succ, List.set_cons_zero]
    gi_upto_region 4 with fail
    refine wpIn_region_re 2 (fun ηq6 => [.ls (rB 3 (([u8I x, u8I (x / 256), (u8I (x / 65536)) &&& (127 : UInt8)]).set 2 (((u8I (x / 65536)) &&& (127 : UInt8)) ||| (128 : UInt8)))) 1 0,
        .ss 0 ((ηq1 0).blk 0) 0 43 (rB 3 (([u8I x, u8I (x / 256), (u8I (x / 65536)) &&& (127 : UInt8)]).set 2 (((u8I (x / 65536)) &&& (127 : UInt8)) ||| (128 : UInt8)))) (rB 3 (([u8I x, u8I (x / 256), (u8I (x / 65536)) &&& (127 : UInt8)]).set 2 (((u8I (x / 65536)) &&& (127 : UInt8)) ||| (128 : UInt8)))).toArray])
      (fun ηq6 L => L.set 0 ((ηq1 0).blk 0, Obj.cells (rB 3 (([u8I x, u8I (x / 256), (u8I (x / 65536)) &&& (127 : UInt8)]).set 2 (((u8I (x / 65536)) &&& (127 : UInt8)) ||| (128 : UInt8)))).toArray 43 (0, 0))) (by kernel_rfl) OW (fun _ => by kernel_rfl) ?_
    clear OW; intro ηq6 ysq6 Wq6 OW
    simp only [↓putE_cons, ↓putE_nil, valE, Hint.val, Act.put, List.setIfInBounds_toArray, List.set_cons_succ, List.set_cons_zero]
    gi_wp2
    exact leavesS OW [.s (rB 3 (([u8I x, u8I (x / 256), (u8I (x / 65536)) &&& (127 : UInt8)]).set 2 (((u8I (x / 65536)) &&& (127 : UInt8)) ||| (128 : UInt8)))) 0] (by kernel_rfl) fun hO => ⟨(by (try simp only [dvirt_0]); (repeat (first | rw [hB4] | rw [cond_true] | rw [cond_false])); try rfl), hO.done⟩
  gi_upto_region 4 with fail
  refine wpIn_region_re 2 (fun ηq7 => [.ls (rB 3 ([u8I x, u8I (x / 256), (u8I (x / 65536)) &&& (127 : UInt8)])) 1 0,
      .ss 0 ((ηq1 0).blk 0) 0 43 (rB 3 ([u8I x, u8I (x / 256), (u8I (x / 65536)) &&& (127 : UInt8)])) (rB 3 ([u8I x, u8I (x / 256), (u8I (x / 65536)) &&& (127 : UInt8)])).toArray])
    (fun ηq7 L => L.set 0 ((ηq1 0).blk 0, Obj.cells (rB 3 ([u8I x, u8I (x / 256), (u8I (x / 65536)) &&& (127 : UInt8)])).toArray 43 (0, 0))) (by kernel_rfl) OW (fun _ => by kernel_rfl) ?_
  clear OW; intro ηq7 ysq7 Wq7 OW
  simp only [↓putE_cons, ↓putE_nil, valE, Hint.val, Act.put, List.setIfInBounds_toArray, List.set_cons_succ, List.set_cons_zero]
  gi_wp2
  exact leavesS OW [.s (rB 3 ([u8I x, u8I (x / 256), (u8I (x / 65536)) &&& (127 : UInt8)])) 0] (by kernel_rfl) fun hO => ⟨(by (try simp only [dvirt_0]); (repeat (first | rw [hB4] | rw [cond_true] | rw [cond_false])); try rfl), hO.done⟩
/-- A number's bytes, the lowest first. -/
def lowL (x : Nat) : Nat → List UInt8
  | 0 => []
  | k + 1 => lowL x k ++ [UInt8.ofNat (x / 256 ^ k)]
theorem lowL_succ (x k : Nat) : lowL x (k + 1) = lowL x k ++ [UInt8.ofNat (x / 256 ^ k)] := rfl
theorem lowL_len (x k : Nat) : (lowL x k).length = k := by
  induction k with
  | zero => rfl
  | succ k ih => rw [lowL_succ, List.length_append, ih]; rfl
theorem dpow_succ (x k : Nat) : x / 256 ^ (k + 1) = x / 256 ^ k / 2 ^ 8 := by rw [Nat.pow_succ, Nat.div_div_eq_div_mul]
set_option maxRecDepth 100000 in
set_option maxHeartbeats 1000000 in
theorem dlow_any (x : Nat) (hx : x < 18446744073709551616) (w : World) (H : Has [] w) : Calls Try.prog 26 #[.int .u64 (x : Int)] w fun e w' => ∃ E : Env, e = .returned (.slice (some ⟨E.blk 0, 0, none⟩) 8 (8 + (E.num 0))) ∧ Step [] [(E.blk 0, Obj.cells (rowZ (slF eB (lowL x 8)) [.int .u8 0] (E.num 0)) 5 (0, 0))] w w' := by
  have OW : Hid (OwnS [] w [] w) := Lib.hid (OwnS.start H)
  refine (callsIn_wide (n := 6)).1 ?_
  refine callsIn_of_wp_marks Try.func26 rfl trivial ?_ rfl
  simp only [Try.ntmps26, List.size_toArray, List.length_cons, List.length_nil, Nat.reduceAdd, Nat.reduceSub, Array.replicate_succ, Array.replicate_zero, List.push_toArray, List.append_toArray, List.nil_append, List.cons_append]
  gi_upto_region 0 with fail
  refine wpIn_region_re 0 (fun ηq1 => [.pv (.slice none 0 0)])
    (fun ηq1 L => L) (by kernel_rfl) OW (fun _ => by kernel_rfl) ?_
  clear OW; intro ηq1 ysq1 Wq1 OW
  simp only [↓putE_cons, ↓putE_nil, valE, Hint.val, Act.put, List.setIfInBounds_toArray, List.set_cons_succ, List.set_cons_zero]
  gi_upto_region 1 with fail
  refine wpIn_region_re 0 (fun ηq2 => [.pv (.slice none 0 0)])
    (fun ηq2 L => L) (by kernel_rfl) OW (fun _ => by kernel_rfl) ?_
  clear OW; intro ηq2 ysq2 Wq2 OW
  simp only [↓putE_cons, ↓putE_nil, valE, Hint.val, Act.put, List.setIfInBounds_toArray, List.set_cons_succ, List.set_cons_zero]
  gi_upto_region 2 with fail
  refine wpIn_region_re 0 (fun ηq3 => [.pv (.int .i64 0)])
    (fun ηq3 L => L) (by kernel_rfl) OW (fun _ => by kernel_rfl) ?_
  clear OW; intro ηq3 ysq3 Wq3 OW
  simp only [↓putE_cons, ↓putE_nil, valE, Hint.val, Act.put, List.setIfInBounds_toArray, List.set_cons_succ, List.set_cons_zero]
  gi_wp2
  gi_loopw [0, 4, 3] (fun z0 z4 z3 wr => ∃ k : Nat, k ≤ 8 ∧ z0 = .int .u64 ((x / 256 ^ k : Nat) : Int) ∧ z4 = .int .i64 (k : Int) ∧ ((k = 0 ∧ z3 = .slice none 0 0 ∧ OwnS [] w [] wr) ∨ (∃ bN rN : Nat, z3 = .slice (some ⟨bN, 0, none⟩) k (k + rN) ∧ OwnS [] w [(bN, Obj.cells (rowZ (slF eB (lowL x k)) [.int .u8 0] rN) 5 (0, 0))] wr))) (fun z0 z4 z3 _ => 8 - (intOf (z4)).toNat)
  case atStart => exact ⟨0, by omega, by rw [Nat.pow_zero, Nat.div_one], rfl, .inl ⟨rfl, rfl, (by skip; exact OwnS.cast OW.out (by kernel_rfl))⟩⟩
  case round =>
    obtain ⟨k, hk5, rfl, rfl, hO⟩ := hrel
    clear OW
    rcases hO with ⟨hnil, rfl, hO⟩ | ⟨bN, rN, rfl, hO⟩
    ·
      subst hnil
      have OW := Lib.hid hO
      clear hO
      gi_upto_region 3 with fail
      refine wpIn_region_re 0 (fun ηq7 => [.pv (.bool true)])
        (fun ηq7 L => L) (by kernel_rfl) OW (fun _ => by kernel_rfl) ?_
      clear OW; intro ηq7 ysq7 Wq7 OW
      simp only [↓putE_cons, ↓putE_nil, valE, Hint.val, Act.put, List.setIfInBounds_toArray, List.set_cons_succ, List.set_cons_zero]
      gi_upto_region 4 with fail
      refine wpIn_region_re 2 (fun ηq8 => [.pv (.slice none 0 0),
          .pv (.int .u64 ((x / 256 ^ 0 : Nat) : Int)),
          .tv (.int .u8 ((UInt8.ofNat (x / 256 ^ 0)).toNat : Int)) (convert 54 5 (.int .u64 ((x / 256 ^ 0 : Nat) : Int))) (fun _ => cvt_u64u8 Try.underlying54 Try.underlying5),
          .gn (vS (Instr.buildSlice 56 1 #[(0, .int .u8 ((UInt8.ofNat (x / 256 ^ 0)).toNat : Int))])) (fun E => .slice (some ⟨E.blk 0, 0, none⟩) 1 1) [] [] (fun E => [(0, (E.blk 0, Obj.cells #[.int .u8 ((UInt8.ofNat (x / 256 ^ 0)).toNat : Int)] 5 (0, 0)))]) (acts_new (v := fun g => .slice (some ⟨g, 0, none⟩) 1 1) (fun _ => by kernel_rfl)),
          .gn (sApp 56 56 (.slice none 0 0) (.slice (some ⟨(ηq8 3).blk 0, 0, none⟩) 1 1)) (fun E => .slice (some ⟨E.blk 0, 0, none⟩) 1 (1 + E.num 0)) [(0, ((ηq8 3).blk 0, Obj.cells #[.int .u8 ((UInt8.ofNat (x / 256 ^ 0)).toNat : Int)] 5 (0, 0)))] [] (fun E => [(1, (E.blk 0, Obj.cells (rowZ (slF eB ([UInt8.ofNat (x / 256 ^ 0)])) [.int .u8 0] (E.num 0)) 5 (0, 0)))]) (acts_app0 (news := slF eB ([UInt8.ofNat (x / 256 ^ 0)])) slT_B (slF_lenk (k := 1) (fun _ => rfl) (by first | rfl | omega | (simp only [List.length_set, List.length_append, List.length_replicate, List.length_cons, List.length_nil, List.length_map, List.length_range, List.length_take, List.length_drop, lowL_len]; try omega))) (by kernel_rfl) (by first | omega | decide) (by first | omega | decide)),
          .pv (.slice (some ⟨(ηq8 4).blk 0, 0, none⟩) 1 (1 + (ηq8 4).num 0))])
        (fun ηq8 L => L ++ [((ηq8 3).blk 0, Obj.cells #[.int .u8 ((UInt8.ofNat (x / 256 ^ 0)).toNat : Int)] 5 (0, 0)), ((ηq8 4).blk 0, Obj.cells (rowZ (slF eB ([UInt8.ofNat (x / 256 ^ 0)])) [.int .u8 0] ((ηq8 4).num 0)) 5 (0, 0))]) (by kernel_rfl) OW (fun _ => by kernel_rfl) ?_
      clear OW; intro ηq8 ysq8 Wq8 OW
      simp only [↓putE_cons, ↓putE_nil, valE, Hint.val, Act.put, List.setIfInBounds_toArray, List.set_cons_succ, List.set_cons_zero]
      gi_upto_region 5 with fail
      refine wpIn_region_re 2 (fun ηq9 => [.pv (.int .u64 ((x / 256 ^ 0 : Nat) : Int)),
          .tv (.int .u64 ((x / 256 ^ 0 / 2 ^ 8 : Nat) : Int)) (sBin .shr 54 (.tmp 11) (.const (.int .u64 8)) (.int .u64 ((x / 256 ^ 0 : Nat) : Int)) (.int .u64 8)) (fun _ => bin_shr_u64 8 (by decide)),
          .pv (.int .u64 ((x / 256 ^ 0 / 2 ^ 8 : Nat) : Int))])
        (fun ηq9 L => L) (by kernel_rfl) OW (fun _ => by kernel_rfl) ?_
      clear OW; intro ηq9 ysq9 Wq9 OW
      simp only [↓putE_cons, ↓putE_nil, valE, Hint.val, Act.put, List.setIfInBounds_toArray, List.set_cons_succ, List.set_cons_zero]
      gi_upto_region 6 with fail
      refine wpIn_region_re 2 (fun ηq10 => [.pv (.int .i64 1),
          .pv (.int .i64 1)])
        (fun ηq10 L => L) (by kernel_rfl) OW (fun _ => by kernel_rfl) ?_
      clear OW; intro ηq10 ysq10 Wq10 OW
      simp only [↓putE_cons, ↓putE_nil, valE, Hint.val, Act.put, List.setIfInBounds_toArray, List.set_cons_succ, List.set_cons_zero]
      gi_wp2
      go_roundw
      case rel => exact ⟨0 + 1, by omega, by rw [dpow_succ], by go_num, .inr ⟨((ηq8 4).blk 0), ((ηq8 4).num 0), rfl, (by rw [lowL_succ]; exact OwnS.pick OW.out [1] _ (by kernel_rfl))⟩⟩
      case measure => (simp [intOf] <;> omega)
    ·
      have OW := Lib.hid hO
      clear hO
      gi_upto_region 3 with fail
      refine wpIn_region_re 1 (fun ηq11 => [.pv (.bool (decide ((k : Int) < 8)))])
        (fun ηq11 L => L) (by kernel_rfl) OW (fun _ => by kernel_rfl) ?_
      clear OW; intro ηq11 ysq11 Wq11 OW
      simp only [↓putE_cons, ↓putE_nil, valE, Hint.val, Act.put, List.setIfInBounds_toArray, List.set_cons_succ, List.set_cons_zero]
      cases hB12 : (decide ((k : Int) < 8))
      case true =>
        have dhB12 := of_decide_eq_true hB12
        gi_upto_region 4 with fail
        refine wpIn_region_re 2 (fun ηq13 => [.pv (.slice (some ⟨bN, 0, none⟩) k (k + rN)),
            .pv (.int .u64 ((x / 256 ^ k : Nat) : Int)),
            .tv (.int .u8 ((UInt8.ofNat (x / 256 ^ k)).toNat : Int)) (convert 54 5 (.int .u64 ((x / 256 ^ k : Nat) : Int))) (fun _ => cvt_u64u8 Try.underlying54 Try.underlying5),
            .gn (vS (Instr.buildSlice 56 1 #[(0, .int .u8 ((UInt8.ofNat (x / 256 ^ k)).toNat : Int))])) (fun E => .slice (some ⟨E.blk 0, 0, none⟩) 1 1) [] [] (fun E => [(1, (E.blk 0, Obj.cells #[.int .u8 ((UInt8.ofNat (x / 256 ^ k)).toNat : Int)] 5 (0, 0)))]) (acts_new (v := fun g => .slice (some ⟨g, 0, none⟩) 1 1) (fun _ => by kernel_rfl)),
            .gn (sApp 56 56 (.slice (some ⟨bN, 0, none⟩) k (k + rN)) (.slice (some ⟨(ηq13 3).blk 0, 0, none⟩) 1 1)) (fun E => .slice (some ⟨E.blk 0, 0, none⟩) (k + 1) ((k + 1) + E.num 0)) [(0, (bN, Obj.cells (rowZ (slF eB (lowL x k)) [.int .u8 0] rN) 5 (0, 0))), (1, ((ηq13 3).blk 0, Obj.cells #[.int .u8 ((UInt8.ofNat (x / 256 ^ k)).toNat : Int)] 5 (0, 0)))] [bN] (fun E => [(0, (E.blk 0, Obj.cells (rowZ (slF eB (lowL x k ++ [UInt8.ofNat (x / 256 ^ k)])) [.int .u8 0] (E.num 0)) 5 (0, 0)))]) (acts_appF (n := k) (m := 1) (xs := (lowL x k)) (ys := ([UInt8.ofNat (x / 256 ^ k)])) slT_B (slF_lenk (k := 1) (fun _ => rfl) (by first | rfl | omega | (simp only [List.length_set, List.length_append, List.length_replicate, List.length_cons, List.length_nil, List.length_map, List.length_range, List.length_take, List.length_drop, lowL_len]; try omega))) (slF_lenk (k := 1) (fun _ => rfl) (by first | rfl | omega | (simp only [List.length_set, List.length_append, List.length_replicate, List.length_cons, List.length_nil, List.length_map, List.length_range, List.length_take, List.length_drop, lowL_len]; try omega))) (by kernel_rfl) (slF_one (fun _ => rfl) ([UInt8.ofNat (x / 256 ^ k)])) (by omega)),
            .pv (.slice (some ⟨(ηq13 4).blk 0, 0, none⟩) (k + 1) ((k + 1) + (ηq13 4).num 0))])
          (fun ηq13 L => L.set 0 ((ηq13 4).blk 0, Obj.cells (rowZ (slF eB (lowL x k ++ [UInt8.ofNat (x / 256 ^ k)])) [.int .u8 0] ((ηq13 4).num 0)) 5 (0, 0)) ++ [((ηq13 3).blk 0, Obj.cells #[.int .u8 ((UInt8.ofNat (x / 256 ^ k)).toNat : Int)] 5 (0, 0))]) (by kernel_rfl) OW (fun _ => by kernel_rfl) ?_
        clear OW; intro ηq13 ysq13 Wq13 OW
        simp only [↓putE_cons, ↓putE_nil, valE, Hint.val, Act.put, List.setIfInBounds_toArray, List.set_cons_succ, List.set_cons_zero]
        gi_upto_region 5 with fail
        refine wpIn_region_re 2 (fun ηq14 => [.pv (.int .u64 ((x / 256 ^ k : Nat) : Int)),
            .tv (.int .u64 ((x / 256 ^ k / 2 ^ 8 : Nat) : Int)) (sBin .shr 54 (.tmp 11) (.const (.int .u64 8)) (.int .u64 ((x / 256 ^ k : Nat) : Int)) (.int .u64 8)) (fun _ => bin_shr_u64 8 (by decide)),
            .pv (.int .u64 ((x / 256 ^ k / 2 ^ 8 : Nat) : Int))])
          (fun ηq14 L => L) (by kernel_rfl) OW (fun _ => by kernel_rfl) ?_
        clear OW; intro ηq14 ysq14 Wq14 OW
        simp only [↓putE_cons, ↓putE_nil, valE, Hint.val, Act.put, List.setIfInBounds_toArray, List.set_cons_succ, List.set_cons_zero]
        gi_upto_region 6 with fail
        refine wpIn_region_re 2 (fun ηq15 => [.tv (.int .i64 ((k + 1 : Nat) : Int)) (sBin .add 3 (.tmp 4) (.const (.int .i64 1)) (.int .i64 (k : Int)) (.int .i64 1)) (fun _ => bin_add_nat (a := k) (b := 1) (by omega)),
            .pv (.int .i64 ((k + 1 : Nat) : Int))])
          (fun ηq15 L => L) (by kernel_rfl) OW (fun _ => by kernel_rfl) ?_
        clear OW; intro ηq15 ysq15 Wq15 OW
        simp only [↓putE_cons, ↓putE_nil, valE, Hint.val, Act.put, List.setIfInBounds_toArray, List.set_cons_succ, List.set_cons_zero]
        gi_wp2
        go_roundw
        case rel => exact ⟨k + 1, by omega, by rw [dpow_succ], by go_num, .inr ⟨((ηq13 4).blk 0), ((ηq13 4).num 0), rfl, (by rw [lowL_succ]; exact OwnS.pick OW.out [0] _ (by kernel_rfl))⟩⟩
        case measure => (simp [intOf] <;> omega)
      have dhB12 := of_decide_eq_false hB12
      obtain rfl : k = 8 := by omega
      gi_upto_region 7 with fail
      refine wpIn_region_re 1 (fun ηq16 => [.pv (.slice (some ⟨bN, 0, none⟩) 8 (8 + rN)),
          .pv (.slice (some ⟨bN, 0, none⟩) 8 (8 + rN))])
        (fun ηq16 L => L) (by kernel_rfl) OW (fun _ => by kernel_rfl) ?_
      clear OW; intro ηq16 ysq16 Wq16 OW
      simp only [↓putE_cons, ↓putE_nil, valE, Hint.val, Act.put, List.setIfInBounds_toArray, List.set_cons_succ, List.set_cons_zero]
      gi_wp2
      exact leavesS OW [.t (.slice (some ⟨bN, 0, none⟩) 8 (8 + rN))] (by kernel_rfl) fun hO => ⟨⟨fun k => ([bN] : List Nat).getD k 0, fun k => ([] : List (List Value)).getD k [], fun k => ([rN] : List Nat).getD k 0⟩, rfl, OwnS.fin H hO [] [(bN, Obj.cells (rowZ (slF eB (lowL x 8)) [.int .u8 0] rN) 5 (0, 0))] [0] [] (by kernel_rfl)⟩
end Go.Proofs.Ytkeheickaogpiaa
