/- Words and halves of lines, words of raw bytes: walks. -/
import Derived.Test.YtkeheickaogpiaaCdA
import Derived.Test.YtkeheickaogpiaaRz
import Derived.WalkKit
import Derived.Sort.CutIn
import Derived.IntWalk
namespace Go.Proofs.Ytkeheickaogpiaa
open Go Go.RowKit Go.Shelf
attribute [local go_sem] Oper.semAt_some
set_option linter.unusedVariables false
set_option linter.unusedSimpArgs false


set_option maxRecDepth 100000 in
set_option maxHeartbeats 1000000 in
theorem dnum_any (a c r : Nat) (ys : List UInt8) (hy : 8 ≤ ys.length) (w : World) (H : Has [(a, Obj.cells (rowZ (slF eB ys) [.int .u8 0] r) 5 (0, 0))] w) : Calls Try.prog 83 #[.slice (some ⟨a, 0, none⟩) 8 c] w fun e w' => e = .returned (.int .u64 ((numO ys 0 8 : Nat) : Int)) ∧ Step [] [] w w' := by
  have OW : Hid (OwnS [a] w [(a, Obj.cells (rowZ (slF eB ys) [.int .u8 0] r) 5 (0, 0))] w) := Lib.hid (OwnS.start H)
  refine (callsIn_wide (n := 6)).1 ?_
  refine callsIn_of_wp_marks Try.func83 rfl trivial ?_ rfl
  simp only [Try.ntmps83, List.size_toArray, List.length_cons, List.length_nil, Nat.reduceAdd, Nat.reduceSub, Array.replicate_succ, Array.replicate_zero, List.push_toArray, List.append_toArray, List.nil_append, List.cons_append]
  gi_upto_region 0 with fail
  refine wpIn_region_re 1 (fun ηq1 => [.pv (.int .u64 0)])
    (fun ηq1 L => L) (by kernel_rfl) OW (fun _ => by kernel_rfl) ?_
  clear OW; intro ηq1 ysq1 Wq1 OW
  simp only [↓putE_cons, ↓putE_nil, valE, Hint.val, Act.put, List.setIfInBounds_toArray, List.set_cons_succ, List.set_cons_zero]
  gi_upto_region 1 with fail
  refine wpIn_region_re 1 (fun ηq2 => [.pv (.int .u64 0)])
    (fun ηq2 L => L) (by kernel_rfl) OW (fun _ => by kernel_rfl) ?_
  clear OW; intro ηq2 ysq2 Wq2 OW
  simp only [↓putE_cons, ↓putE_nil, valE, Hint.val, Act.put, List.setIfInBounds_toArray, List.set_cons_succ, List.set_cons_zero]
  gi_upto_region 2 with fail
  refine wpIn_region_re 1 (fun ηq3 => [.pv (.slice (some ⟨a, 0, none⟩) 8 c),
      .pv (.int .i64 8),
      .pv (.int .i64 0)])
    (fun ηq3 L => L) (by kernel_rfl) OW (fun _ => by kernel_rfl) ?_
  clear OW; intro ηq3 ysq3 Wq3 OW
  simp only [↓putE_cons, ↓putE_nil, valE, Hint.val, Act.put, List.setIfInBounds_toArray, List.set_cons_succ, List.set_cons_zero]
  gi_wp2
  gi_loopw [3, 8] (fun z3 z8 wr => ∃ k : Nat, k ≤ 8 ∧ z3 = .int .u64 ((numO ys 0 k : Nat) : Int) ∧ z8 = .int .i64 (k : Int) ∧ OwnS [a] w [(a, Obj.cells (rowZ (slF eB ys) [.int .u8 0] r) 5 (0, 0))] wr) (fun z3 z8 _ => 8 - (intOf (z8)).toNat)
  case atStart => exact ⟨0, by omega, rfl, rfl, (by skip; exact OwnS.cast OW.out (by kernel_rfl))⟩
  case round =>
    obtain ⟨k, hk5, rfl, rfl, hO⟩ := hrel
    clear OW
    have OW := Lib.hid hO
    clear hO
    gi_upto_region 3 with fail
    refine wpIn_region_re 1 (fun ηq7 => [.pv (.bool (decide ((k : Int) < 8)))])
      (fun ηq7 L => L) (by kernel_rfl) OW (fun _ => by kernel_rfl) ?_
    clear OW; intro ηq7 ysq7 Wq7 OW
    simp only [↓putE_cons, ↓putE_nil, valE, Hint.val, Act.put, List.setIfInBounds_toArray, List.set_cons_succ, List.set_cons_zero]
    cases hB8 : (decide ((k : Int) < 8))
    case true =>
      have dhB8 := of_decide_eq_true hB8
      gi_upto_region 4 with fail
      refine wpIn_region_re 1 (fun ηq9 => [.pv (.int .i64 (k : Int)),
          .tv (.pointer (some ⟨a, 0 + k * 1, none⟩)) (Instr.indexAt 56 (.slice (some ⟨a, 0, none⟩) 8 c) (.int .i64 (k : Int))) (fun _ => idx_sl (k := k) (by kernel_rfl) (by omega)),
          .lt (.int .u8 ((ys.getD k 0).toNat : Int)) 0 (0 + k * 1) a (rowZ (slF eB ys) [.int .u8 0] r) 5 (zcell (k := 1) (f := 0) (fun _ => rfl) (by omega) (by decide) rfl),
          .pv (.int .i64 (k : Int)),
          .pv (.int .u8 ((ys.getD k 0).toNat : Int))])
        (fun ηq9 L => L) (by kernel_rfl) OW (fun _ => by kernel_rfl) ?_
      clear OW; intro ηq9 ysq9 Wq9 OW
      simp only [↓putE_cons, ↓putE_nil, valE, Hint.val, Act.put, List.setIfInBounds_toArray, List.set_cons_succ, List.set_cons_zero]
      gi_upto_region 5 with fail
      refine wpIn_region_re 1 (fun ηq10 => [.pv (.int .u64 ((numO ys 0 k : Nat) : Int)),
          .pv (.int .u8 ((ys.getD k 0).toNat : Int)),
          .tv (.int .u64 ((ys.getD k 0).toNat : Int)) (convert 5 54 (.int .u8 ((ys.getD k 0).toNat : Int))) (fun _ => cvt_u8u64 Try.underlying5 Try.underlying54),
          .pv (.int .i64 (k : Int)),
          .tv (.int .i64 ((8 * k : Nat) : Int)) (sBin .mul 3 (.const (.int .i64 8)) (.tmp 16) (.int .i64 8) (.int .i64 (k : Int))) (fun _ => bin_mul_nat (a := 8) (b := k) (by omega)),
          .tv (.int .u64 ((8 * k : Nat) : Int)) (convert 3 90 (.int .i64 ((8 * k : Nat) : Int))) (fun _ => cvt_i64u Try.underlying3 Try.underlying90 (by omega)),
          .tv (.int .u64 (((ys.getD (0 + k) 0).toNat * 2 ^ (8 * k) : Nat) : Int)) (sBin .shl 54 (.tmp 15) (.tmp 18) (.int .u64 ((ys.getD k 0).toNat : Int)) (.int .u64 ((8 * k : Nat) : Int))) (fun _ => by rw [Nat.zero_add]; exact bin_shl_u64 (8 * k) (by omega) (byte_sh (by omega))),
          .tv (.int .u64 ((numO ys 0 (k + 1) : Nat) : Int)) (sBin .or 54 (.tmp 13) (.tmp 19) (.int .u64 ((numO ys 0 k : Nat) : Int)) (.int .u64 (((ys.getD (0 + k) 0).toNat * 2 ^ (8 * k) : Nat) : Int))) (fun _ => bin_or_u64 (numO_lt64 _ _ (by omega)) (by rw [Nat.zero_add]; exact byte_sh (by omega))),
          .pv (.int .u64 ((numO ys 0 (k + 1) : Nat) : Int))])
        (fun ηq10 L => L) (by kernel_rfl) OW (fun _ => by kernel_rfl) ?_
      clear OW; intro ηq10 ysq10 Wq10 OW
      simp only [↓putE_cons, ↓putE_nil, valE, Hint.val, Act.put, List.setIfInBounds_toArray, List.set_cons_succ, List.set_cons_zero]
      gi_upto_region 6 with fail
      refine wpIn_region_re 1 (fun ηq11 => [.tv (.int .i64 ((k + 1 : Nat) : Int)) (sBin .add 3 (.tmp 8) (.const (.int .i64 1)) (.int .i64 (k : Int)) (.int .i64 1)) (fun _ => bin_add_nat (a := k) (b := 1) (by omega)),
          .pv (.int .i64 ((k + 1 : Nat) : Int))])
        (fun ηq11 L => L) (by kernel_rfl) OW (fun _ => by kernel_rfl) ?_
      clear OW; intro ηq11 ysq11 Wq11 OW
      simp only [↓putE_cons, ↓putE_nil, valE, Hint.val, Act.put, List.setIfInBounds_toArray, List.set_cons_succ, List.set_cons_zero]
      gi_wp2
      go_roundw
      case rel => exact ⟨k + 1, by omega, rfl, by go_num, (by skip; exact OwnS.cast OW.out (by kernel_rfl))⟩
      case measure => (simp [intOf] <;> omega)
    have dhB8 := of_decide_eq_false hB8
    obtain rfl : k = 8 := by omega
    gi_upto_region 7 with fail
    refine wpIn_region_re 1 (fun ηq12 => [.pv (.int .u64 ((numO ys 0 8 : Nat) : Int)),
        .pv (.int .u64 ((numO ys 0 8 : Nat) : Int))])
      (fun ηq12 L => L) (by kernel_rfl) OW (fun _ => by kernel_rfl) ?_
    clear OW; intro ηq12 ysq12 Wq12 OW
    simp only [↓putE_cons, ↓putE_nil, valE, Hint.val, Act.put, List.setIfInBounds_toArray, List.set_cons_succ, List.set_cons_zero]
    gi_wp2
    exact leavesS OW [.t (.int .u64 ((numO ys 0 8 : Nat) : Int))] (by kernel_rfl) fun hO => ⟨rfl, OwnS.fin H hO [] [] [] [0] (by kernel_rfl)⟩
set_option maxRecDepth 100000 in
set_option maxHeartbeats 1000000 in
theorem dword_any (l : List UInt8) (hl : l.length = 64) (q : Nat) (hq : q < 8) (w : World) : Calls Try.prog 51 #[.agg (rB 64 l).toArray, .int .i64 (q : Int)] w fun e w' => e = .returned (.int .u64 ((numO l (8 * q) 8 : Nat) : Int)) ∧ Below w.heap.size w w' := by
  have H : Has [] w := has_nil
  have OW : Hid (OwnS [] w [] w) := Lib.hid (OwnS.start H)
  refine (callsIn_wide (n := 6)).1 ?_
  refine callsIn_of_wp_marks Try.func51 rfl trivial ?_ rfl
  simp only [Try.ntmps51, List.size_toArray, List.length_cons, List.length_nil, Nat.reduceAdd, Nat.reduceSub, Array.replicate_succ, Array.replicate_zero, List.push_toArray, List.append_toArray, List.nil_append, List.cons_append]
  gi_upto_region 0 with fail
  refine wpIn_region_re 1 (fun ηq1 => [.bx 0 23 (.agg (rB 64 l).toArray),
      .pv (.int .u64 0)])
    (fun ηq1 L => L ++ [((ηq1 0).blk 0, Obj.cells (rB 64 l).toArray 23 (0, 0))]) (by kernel_rfl) OW (fun _ => by kernel_rfl) ?_
  clear OW; intro ηq1 ysq1 Wq1 OW
  simp only [↓putE_cons, ↓putE_nil, valE, Hint.val, Act.put, List.setIfInBounds_toArray, List.set_cons_succ, List.set_cons_zero]
  gi_upto_region 1 with fail
  refine wpIn_region_re 1 (fun ηq2 => [.pv (.int .u64 0)])
    (fun ηq2 L => L) (by kernel_rfl) OW (fun _ => by kernel_rfl) ?_
  clear OW; intro ηq2 ysq2 Wq2 OW
  simp only [↓putE_cons, ↓putE_nil, valE, Hint.val, Act.put, List.setIfInBounds_toArray, List.set_cons_succ, List.set_cons_zero]
  gi_upto_region 2 with fail
  refine wpIn_region_re 1 (fun ηq3 => [.pv (.int .i64 0)])
    (fun ηq3 L => L) (by kernel_rfl) OW (fun _ => by kernel_rfl) ?_
  clear OW; intro ηq3 ysq3 Wq3 OW
  simp only [↓putE_cons, ↓putE_nil, valE, Hint.val, Act.put, List.setIfInBounds_toArray, List.set_cons_succ, List.set_cons_zero]
  gi_wp2
  gi_loopw [5, 7] (fun z5 z7 wr => ∃ k : Nat, k ≤ 8 ∧ z5 = .int .u64 ((numO l (8 * q) k : Nat) : Int) ∧ z7 = .int .i64 (k : Int) ∧ OwnS [] w [((ηq1 0).blk 0, Obj.cells (rB 64 l).toArray 23 (0, 0))] wr) (fun z5 z7 _ => 8 - (intOf (z7)).toNat)
  case atStart => exact ⟨0, by omega, rfl, rfl, (by skip; exact OwnS.cast OW.out (by kernel_rfl))⟩
  case round =>
    obtain ⟨k, hk5, rfl, rfl, hO⟩ := hrel
    clear OW
    have OW := Lib.hid hO
    clear hO
    gi_upto_region 3 with fail
    refine wpIn_region_re 1 (fun ηq7 => [.pv (.bool (decide ((k : Int) < 8)))])
      (fun ηq7 L => L) (by kernel_rfl) OW (fun _ => by kernel_rfl) ?_
    clear OW; intro ηq7 ysq7 Wq7 OW
    simp only [↓putE_cons, ↓putE_nil, valE, Hint.val, Act.put, List.setIfInBounds_toArray, List.set_cons_succ, List.set_cons_zero]
    cases hB8 : (decide ((k : Int) < 8))
    case true =>
      have dhB8 := of_decide_eq_true hB8
      gi_upto_region 4 with fail
      refine wpIn_region_re 1 (fun ηq9 => [.pv (.int .i64 (k : Int)),
          .pv (.int .i64 (k : Int))])
        (fun ηq9 L => L) (by kernel_rfl) OW (fun _ => by kernel_rfl) ?_
      clear OW; intro ηq9 ysq9 Wq9 OW
      simp only [↓putE_cons, ↓putE_nil, valE, Hint.val, Act.put, List.setIfInBounds_toArray, List.set_cons_succ, List.set_cons_zero]
      gi_upto_region 5 with fail
      refine wpIn_region_re 1 (fun ηq10 => [.pv (.int .u64 ((numO l (8 * q) k : Nat) : Int)),
          .pv (.int .i64 (q : Int)),
          .tv (.int .i64 ((8 * q : Nat) : Int)) (sBin .mul 3 (.const (.int .i64 8)) (.tmp 11) (.int .i64 8) (.int .i64 (q : Int))) (fun _ => bin_mul_nat (a := 8) (b := q) (by omega)),
          .pv (.int .i64 (k : Int)),
          .tv (.int .i64 (((8 * q) + k : Nat) : Int)) (sBin .add 3 (.tmp 12) (.tmp 13) (.int .i64 ((8 * q : Nat) : Int)) (.int .i64 (k : Int))) (fun _ => bin_add_nat (a := 8 * q) (b := k) (by omega)),
          .tv (.pointer (some ⟨(ηq1 0).blk 0, 0 + ((8 * q) + k) * 1, none⟩)) (Instr.indexAt 23 (.pointer (some ⟨(ηq1 0).blk 0, 0, none⟩)) (.int .i64 (((8 * q) + k : Nat) : Int))) (fun _ => idx_ar (N := 64) (k := (8 * q) + k) (by kernel_rfl) (by omega)),
          .lt (.int .u8 ((l.getD ((8 * q) + k) 0).toNat : Int)) 0 (0 + ((8 * q) + k) * 1) ((ηq1 0).blk 0) (rB 64 l).toArray 23 (by simpa only [Nat.zero_add, Nat.mul_one] using rB_get (by omega)),
          .tv (.int .u64 ((l.getD ((8 * q) + k) 0).toNat : Int)) (convert 5 54 (.int .u8 ((l.getD ((8 * q) + k) 0).toNat : Int))) (fun _ => cvt_u8u64 Try.underlying5 Try.underlying54),
          .pv (.int .i64 (k : Int)),
          .tv (.int .i64 ((8 * k : Nat) : Int)) (sBin .mul 3 (.const (.int .i64 8)) (.tmp 18) (.int .i64 8) (.int .i64 (k : Int))) (fun _ => bin_mul_nat (a := 8) (b := k) (by omega)),
          .tv (.int .u64 ((8 * k : Nat) : Int)) (convert 3 90 (.int .i64 ((8 * k : Nat) : Int))) (fun _ => cvt_i64u Try.underlying3 Try.underlying90 (by omega)),
          .tv (.int .u64 (((l.getD (8 * q + k) 0).toNat * 2 ^ (8 * k) : Nat) : Int)) (sBin .shl 54 (.tmp 17) (.tmp 20) (.int .u64 ((l.getD ((8 * q) + k) 0).toNat : Int)) (.int .u64 ((8 * k : Nat) : Int))) (fun _ => bin_shl_u64 (8 * k) (by omega) (byte_sh (by omega))),
          .tv (.int .u64 ((numO l (8 * q) (k + 1) : Nat) : Int)) (sBin .or 54 (.tmp 10) (.tmp 21) (.int .u64 ((numO l (8 * q) k : Nat) : Int)) (.int .u64 (((l.getD (8 * q + k) 0).toNat * 2 ^ (8 * k) : Nat) : Int))) (fun _ => bin_or_u64 (numO_lt64 _ _ (by omega)) (byte_sh (by omega))),
          .pv (.int .u64 ((numO l (8 * q) (k + 1) : Nat) : Int))])
        (fun ηq10 L => L) (by kernel_rfl) OW (fun _ => by kernel_rfl) ?_
      clear OW; intro ηq10 ysq10 Wq10 OW
      simp only [↓putE_cons, ↓putE_nil, valE, Hint.val, Act.put, List.setIfInBounds_toArray, List.set_cons_succ, List.set_cons_zero]
      gi_upto_region 6 with fail
      refine wpIn_region_re 1 (fun ηq11 => [.tv (.int .i64 ((k + 1 : Nat) : Int)) (sBin .add 3 (.tmp 7) (.const (.int .i64 1)) (.int .i64 (k : Int)) (.int .i64 1)) (fun _ => bin_add_nat (a := k) (b := 1) (by omega)),
          .pv (.int .i64 ((k + 1 : Nat) : Int))])
        (fun ηq11 L => L) (by kernel_rfl) OW (fun _ => by kernel_rfl) ?_
      clear OW; intro ηq11 ysq11 Wq11 OW
      simp only [↓putE_cons, ↓putE_nil, valE, Hint.val, Act.put, List.setIfInBounds_toArray, List.set_cons_succ, List.set_cons_zero]
      gi_wp2
      go_roundw
      case rel => exact ⟨k + 1, by omega, rfl, by go_num, (by skip; exact OwnS.cast OW.out (by kernel_rfl))⟩
      case measure => (simp [intOf] <;> omega)
    have dhB8 := of_decide_eq_false hB8
    obtain rfl : k = 8 := by omega
    gi_upto_region 7 with fail
    refine wpIn_region_re 1 (fun ηq12 => [.pv (.int .u64 ((numO l (8 * q) 8 : Nat) : Int)),
        .pv (.int .u64 ((numO l (8 * q) 8 : Nat) : Int))])
      (fun ηq12 L => L) (by kernel_rfl) OW (fun _ => by kernel_rfl) ?_
    clear OW; intro ηq12 ysq12 Wq12 OW
    simp only [↓putE_cons, ↓putE_nil, valE, Hint.val, Act.put, List.setIfInBounds_toArray, List.set_cons_succ, List.set_cons_zero]
    gi_wp2
    exact leavesS OW [.t (.int .u64 ((numO l (8 * q) 8 : Nat) : Int))] (by kernel_rfl) fun hO => ⟨rfl, hO.done⟩
/-- The bytes of words. -/
def fwB (ws : List Nat) (i : Nat) : UInt8 := UInt8.ofNat (ws.getD (i / 8) 0 / 2 ^ (8 * (i % 8)))
theorem fwB_at {ws : List Nat} {k j : Nat} (hj : j < 8) : fwB ws (8 * k + j) = UInt8.ofNat (ws.getD k 0 / 2 ^ (8 * j)) := by
  unfold fwB
  rw [show (8 * k + j) / 8 = k by omega, show (8 * k + j) % 8 = j by omega]
set_option maxRecDepth 100000 in
set_option maxHeartbeats 1000000 in
theorem dfrom_any (ws : List Nat) (hw : ws.length = 8) (hb : ∀ i, ws.getD i 0 < 18446744073709551616) (w : World) : Calls Try.prog 60 #[.agg (rW 8 ws).toArray] w fun e w' => e = .returned (.agg (rB 64 (fillL 64 (fwB ws) (8 * 8))).toArray) ∧ Below w.heap.size w w' := by
  have H : Has [] w := has_nil
  have OW : Hid (OwnS [] w [] w) := Lib.hid (OwnS.start H)
  refine (callsIn_wide (n := 6)).1 ?_
  refine callsIn_of_wp_marks Try.func60 rfl trivial ?_ rfl
  simp only [Try.ntmps60, List.size_toArray, List.length_cons, List.length_nil, Nat.reduceAdd, Nat.reduceSub, Array.replicate_succ, Array.replicate_zero, List.push_toArray, List.append_toArray, List.nil_append, List.cons_append]
  gi_upto_region 0 with fail
  refine wpIn_region_re 2 (fun ηq1 => [.bx 0 110 (.agg (rW 8 ws).toArray),
      .al 1 23 (rB 64 (List.replicate 64 0)).toArray])
    (fun ηq1 L => L ++ [((ηq1 0).blk 0, Obj.cells (rW 8 ws).toArray 110 (0, 0)), ((ηq1 1).blk 0, Obj.cells (rB 64 (List.replicate 64 0)).toArray 23 (0, 0))]) (by kernel_rfl) OW (fun _ => by kernel_rfl) ?_
  clear OW; intro ηq1 ysq1 Wq1 OW
  simp only [↓putE_cons, ↓putE_nil, valE, Hint.val, Act.put, List.setIfInBounds_toArray, List.set_cons_succ, List.set_cons_zero]
  gi_upto_region 1 with fail
  refine wpIn_region_re 3 (fun ηq2 => [.al 2 23 (rB 64 (List.replicate 64 0)).toArray])
    (fun ηq2 L => L ++ [((ηq2 0).blk 0, Obj.cells (rB 64 (List.replicate 64 0)).toArray 23 (0, 0))]) (by kernel_rfl) OW (fun _ => by kernel_rfl) ?_
  clear OW; intro ηq2 ysq2 Wq2 OW
  simp only [↓putE_cons, ↓putE_nil, valE, Hint.val, Act.put, List.setIfInBounds_toArray, List.set_cons_succ, List.set_cons_zero]
  gi_upto_region 2 with fail
  refine wpIn_region_re 3 (fun ηq3 => [.ls (rW 8 ws) 0 0,
      .pv (.int .i64 0)])
    (fun ηq3 L => L) (by kernel_rfl) OW (fun _ => by kernel_rfl) ?_
  clear OW; intro ηq3 ysq3 Wq3 OW
  simp only [↓putE_cons, ↓putE_nil, valE, Hint.val, Act.put, List.setIfInBounds_toArray, List.set_cons_succ, List.set_cons_zero]
  gi_wp2
  gi_loopw [8] (fun z8 wr => ∃ k : Nat, k ≤ 8 ∧ z8 = .int .i64 (k : Int) ∧ OwnS [] w [((ηq1 0).blk 0, Obj.cells (rW 8 ws).toArray 110 (0, 0)), ((ηq1 1).blk 0, Obj.cells (rB 64 (List.replicate 64 0)).toArray 23 (0, 0)), ((ηq2 0).blk 0, Obj.cells (rB 64 (fillL 64 (fwB ws) (8 * k))).toArray 23 (0, 0))] wr) (fun z8 _ => 8 - (intOf (z8)).toNat)
  case atStart => exact ⟨0, by omega, rfl, (by rw [Nat.mul_zero, fillL_zero]; exact OwnS.cast OW.out (by kernel_rfl))⟩
  case round =>
    obtain ⟨k, hk5, rfl, hO⟩ := hrel
    clear OW
    have OW := Lib.hid hO
    clear hO
    gi_upto_region 3 with fail
    refine wpIn_region_re 3 (fun ηq7 => [.pv (.bool (decide ((k : Int) < 8)))])
      (fun ηq7 L => L) (by kernel_rfl) OW (fun _ => by kernel_rfl) ?_
    clear OW; intro ηq7 ysq7 Wq7 OW
    simp only [↓putE_cons, ↓putE_nil, valE, Hint.val, Act.put, List.setIfInBounds_toArray, List.set_cons_succ, List.set_cons_zero]
    cases hB8 : (decide ((k : Int) < 8))
    case true =>
      have dhB8 := of_decide_eq_true hB8
      gi_upto_region 4 with fail
      refine wpIn_region_re 3 (fun ηq9 => [.pv (.int .i64 (k : Int)),
          .tv (.int .u64 ((ws.getD k 0 : Nat) : Int)) (Instr.index 110 (.agg (rW 8 ws).toArray) (.int .i64 (k : Int))) (fun _ => run_index_agg (n := 8) (e := 54) Try.underlying110 (by omega) (fun _ => by kernel_rfl) (by kernel_rfl) (rW_get (by omega))),
          .pv (.int .i64 (k : Int)),
          .pv (.int .u64 ((ws.getD k 0 : Nat) : Int))])
        (fun ηq9 L => L) (by kernel_rfl) OW (fun _ => by kernel_rfl) ?_
      clear OW; intro ηq9 ysq9 Wq9 OW
      simp only [↓putE_cons, ↓putE_nil, valE, Hint.val, Act.put, List.setIfInBounds_toArray, List.set_cons_succ, List.set_cons_zero]
      gi_upto_region 5 with fail
      refine wpIn_region_re 3 (fun ηq10 => [.pv (.int .i64 0)])
        (fun ηq10 L => L) (by kernel_rfl) OW (fun _ => by kernel_rfl) ?_
      clear OW; intro ηq10 ysq10 Wq10 OW
      simp only [↓putE_cons, ↓putE_nil, valE, Hint.val, Act.put, List.setIfInBounds_toArray, List.set_cons_succ, List.set_cons_zero]
      gi_wp2
      gi_loopw [12] (fun z12 wr => ∃ j : Nat, j ≤ 8 ∧ z12 = .int .i64 (j : Int) ∧ OwnS [] w [((ηq1 0).blk 0, Obj.cells (rW 8 ws).toArray 110 (0, 0)), ((ηq1 1).blk 0, Obj.cells (rB 64 (List.replicate 64 0)).toArray 23 (0, 0)), ((ηq2 0).blk 0, Obj.cells (rB 64 (fillL 64 (fwB ws) (8 * k + j))).toArray 23 (0, 0))] wr) (fun z12 _ => 8 - (intOf (z12)).toNat)
      case atStart => exact ⟨0, by omega, rfl, (by skip; exact OwnS.cast OW.out (by kernel_rfl))⟩
      case round =>
        obtain ⟨j, hk12, rfl, hO⟩ := hrel
        clear OW
        have OW := Lib.hid hO
        clear hO
        gi_upto_region 6 with fail
        refine wpIn_region_re 3 (fun ηq14 => [.pv (.bool (decide ((j : Int) < 8)))])
          (fun ηq14 L => L) (by kernel_rfl) OW (fun _ => by kernel_rfl) ?_
        clear OW; intro ηq14 ysq14 Wq14 OW
        simp only [↓putE_cons, ↓putE_nil, valE, Hint.val, Act.put, List.setIfInBounds_toArray, List.set_cons_succ, List.set_cons_zero]
        cases hB15 : (decide ((j : Int) < 8))
        case true =>
          have dhB15 := of_decide_eq_true hB15
          gi_upto_region 7 with fail
          refine wpIn_region_re 3 (fun ηq16 => [.pv (.int .i64 (j : Int)),
              .pv (.int .i64 (j : Int))])
            (fun ηq16 L => L) (by kernel_rfl) OW (fun _ => by kernel_rfl) ?_
          clear OW; intro ηq16 ysq16 Wq16 OW
          simp only [↓putE_cons, ↓putE_nil, valE, Hint.val, Act.put, List.setIfInBounds_toArray, List.set_cons_succ, List.set_cons_zero]
          gi_upto_region 8 with fail
          refine wpIn_region_re 3 (fun ηq17 => [.pv (.int .i64 (k : Int)),
              .tv (.int .i64 ((8 * k : Nat) : Int)) (sBin .mul 3 (.const (.int .i64 8)) (.tmp 15) (.int .i64 8) (.int .i64 (k : Int))) (fun _ => bin_mul_nat (a := 8) (b := k) (by omega)),
              .pv (.int .i64 (j : Int)),
              .tv (.int .i64 (((8 * k) + j : Nat) : Int)) (sBin .add 3 (.tmp 16) (.tmp 17) (.int .i64 ((8 * k : Nat) : Int)) (.int .i64 (j : Int))) (fun _ => bin_add_nat (a := 8 * k) (b := j) (by omega)),
              .pv (.int .u64 ((ws.getD k 0 : Nat) : Int)),
              .pv (.int .i64 (j : Int)),
              .tv (.int .i64 ((8 * j : Nat) : Int)) (sBin .mul 3 (.const (.int .i64 8)) (.tmp 20) (.int .i64 8) (.int .i64 (j : Int))) (fun _ => bin_mul_nat (a := 8) (b := j) (by omega)),
              .tv (.int .u64 ((8 * j : Nat) : Int)) (convert 3 90 (.int .i64 ((8 * j : Nat) : Int))) (fun _ => cvt_i64u Try.underlying3 Try.underlying90 (by omega)),
              .tv (.int .u64 ((ws.getD k 0 / 2 ^ (8 * j) : Nat) : Int)) (sBin .shr 54 (.tmp 19) (.tmp 22) (.int .u64 ((ws.getD k 0 : Nat) : Int)) (.int .u64 ((8 * j : Nat) : Int))) (fun _ => bin_shr_u64 (8 * j) (by omega)),
              .tv (.int .u8 ((UInt8.ofNat (ws.getD k 0 / 2 ^ (8 * j))).toNat : Int)) (convert 54 5 (.int .u64 ((ws.getD k 0 / 2 ^ (8 * j) : Nat) : Int))) (fun _ => cvt_u64u8 Try.underlying54 Try.underlying5),
              .tv (.pointer (some ⟨(ηq2 0).blk 0, 0 + ((8 * k) + j) * 1, none⟩)) (Instr.indexAt 23 (.pointer (some ⟨(ηq2 0).blk 0, 0, none⟩)) (.int .i64 (((8 * k) + j : Nat) : Int))) (fun _ => idx_ar (N := 64) (k := (8 * k) + j) (by kernel_rfl) (by omega)),
              .sw 2 ((ηq2 0).blk 0) (0 + ((8 * k) + j) * 1) 23 (.int .u8 ((UInt8.ofNat (ws.getD k 0 / 2 ^ (8 * j))).toNat : Int)) (rB 64 (fillL 64 (fwB ws) (8 * k + j))).toArray (rB 64 ((fillL 64 (fwB ws) (8 * k + j)).set ((8 * k) + j) (UInt8.ofNat (ws.getD k 0 / 2 ^ (8 * j))))).toArray (by rw [Nat.zero_add, Nat.mul_one]; exact rB_set (show (fillL 64 (fwB ws) (8 * k + j)).length = 64 by first | rfl | (simp only [List.length_set, List.length_append, List.length_replicate, List.length_cons, List.length_nil, List.length_map, List.length_range, List.length_take, List.length_drop, fillL_len, hw]; done) | (simp only [List.length_set, List.length_append, List.length_replicate, List.length_cons, List.length_nil, List.length_map, List.length_range, List.length_take, List.length_drop, fillL_len, hw]; omega))) (by rw [Nat.zero_add, Nat.mul_one]; exact rL_lt (by omega))])
            (fun ηq17 L => L.set 2 ((ηq2 0).blk 0, Obj.cells (rB 64 ((fillL 64 (fwB ws) (8 * k + j)).set ((8 * k) + j) (UInt8.ofNat (ws.getD k 0 / 2 ^ (8 * j))))).toArray 23 (0, 0))) (by kernel_rfl) OW (fun _ => by kernel_rfl) ?_
          clear OW; intro ηq17 ysq17 Wq17 OW
          simp only [↓putE_cons, ↓putE_nil, valE, Hint.val, Act.put, List.setIfInBounds_toArray, List.set_cons_succ, List.set_cons_zero]
          gi_upto_region 9 with fail
          refine wpIn_region_re 3 (fun ηq18 => [.tv (.int .i64 ((j + 1 : Nat) : Int)) (sBin .add 3 (.tmp 12) (.const (.int .i64 1)) (.int .i64 (j : Int)) (.int .i64 1)) (fun _ => bin_add_nat (a := j) (b := 1) (by omega)),
              .pv (.int .i64 ((j + 1 : Nat) : Int))])
            (fun ηq18 L => L) (by kernel_rfl) OW (fun _ => by kernel_rfl) ?_
          clear OW; intro ηq18 ysq18 Wq18 OW
          simp only [↓putE_cons, ↓putE_nil, valE, Hint.val, Act.put, List.setIfInBounds_toArray, List.set_cons_succ, List.set_cons_zero]
          gi_wp2
          go_roundw
          case rel => exact ⟨j + 1, by omega, by go_num, (by rw [← Nat.add_assoc, ← fillL_set (by omega), fwB_at (by omega)]; exact OwnS.cast OW.out (by kernel_rfl))⟩
          case measure => (simp [intOf] <;> omega)
        have dhB15 := of_decide_eq_false hB15
        obtain rfl : j = 8 := by omega
        gi_upto_region 10 with fail
        refine wpIn_region_re 3 (fun ηq19 => [.tv (.int .i64 ((k + 1 : Nat) : Int)) (sBin .add 3 (.tmp 8) (.const (.int .i64 1)) (.int .i64 (k : Int)) (.int .i64 1)) (fun _ => bin_add_nat (a := k) (b := 1) (by omega)),
            .pv (.int .i64 ((k + 1 : Nat) : Int))])
          (fun ηq19 L => L) (by kernel_rfl) OW (fun _ => by kernel_rfl) ?_
        clear OW; intro ηq19 ysq19 Wq19 OW
        simp only [↓putE_cons, ↓putE_nil, valE, Hint.val, Act.put, List.setIfInBounds_toArray, List.set_cons_succ, List.set_cons_zero]
        gi_wp2
        go_roundw
        case rel => exact ⟨k + 1, by omega, by go_num, (by skip; exact OwnS.cast OW.out (by kernel_rfl))⟩
        case measure => (simp [intOf] <;> omega)
    have dhB8 := of_decide_eq_false hB8
    obtain rfl : k = 8 := by omega
    gi_upto_region 11 with fail
    refine wpIn_region_re 3 (fun ηq20 => [.ls (rB 64 (fillL 64 (fwB ws) (8 * 8))) 2 0,
        .ss 1 ((ηq1 1).blk 0) 0 23 (rB 64 (fillL 64 (fwB ws) (8 * 8))) (rB 64 (fillL 64 (fwB ws) (8 * 8))).toArray])
      (fun ηq20 L => L.set 1 ((ηq1 1).blk 0, Obj.cells (rB 64 (fillL 64 (fwB ws) (8 * 8))).toArray 23 (0, 0))) (by kernel_rfl) OW (fun _ => by kernel_rfl) ?_
    clear OW; intro ηq20 ysq20 Wq20 OW
    simp only [↓putE_cons, ↓putE_nil, valE, Hint.val, Act.put, List.setIfInBounds_toArray, List.set_cons_succ, List.set_cons_zero]
    gi_wp2
    exact leavesS OW [.s (rB 64 (fillL 64 (fwB ws) (8 * 8))) 1] (by kernel_rfl) fun hO => ⟨rfl, hO.done⟩
/-- Halves put together. -/
def halfT (h : List UInt8) (k : Nat) : List UInt8 := h.take (32 * k) ++ List.replicate (64 - 32 * k) 0
theorem halfT_len {h : List UInt8} (hh : h.length = 64) {k : Nat} (hk : k ≤ 2) : (halfT h k).length = 64 := by unfold halfT; rw [List.length_append, List.length_take, List.length_replicate, hh]; omega
theorem halfT_zero (h : List UInt8) : halfT h 0 = List.replicate 64 0 := rfl
theorem halfT_two {h : List UInt8} (hh : h.length = 64) : halfT h 2 = h := by unfold halfT; rw [List.take_of_length_le (by omega), show 64 - 32 * 2 = 0 from rfl, List.replicate_zero, List.append_nil]
theorem halfT_succ {h : List UInt8} (hh : h.length = 64) {k : Nat} (hk : k < 2) : (halfT h k).take (32 * k) ++ (h.drop (k * 32)).take 32 ++ (halfT h k).drop (32 * k + 32) = halfT h (k + 1) := by
  unfold halfT
  have h1 : (h.take (32 * k)).length = 32 * k := by rw [List.length_take]; omega
  rw [List.take_left' h1, ← List.drop_drop, List.drop_left' h1, List.drop_replicate, Nat.mul_comm k 32, ← List.take_add, show 32 * k + 32 = 32 * (k + 1) by omega, show 64 - 32 * k - 32 = 64 - 32 * (k + 1) by omega]
set_option maxRecDepth 100000 in
set_option maxHeartbeats 1000000 in
theorem dfromh_any (h : List UInt8) (hh : h.length = 64) (w : World) : Calls Try.prog 62 #[.agg (rB 64 h).toArray] w fun e w' => e = .returned (.agg (rB 64 (halfT h 2)).toArray) ∧ Below w.heap.size w w' := by
  have H : Has [] w := has_nil
  have OW : Hid (OwnS [] w [] w) := Lib.hid (OwnS.start H)
  refine (callsIn_wide (n := 6)).1 ?_
  refine callsIn_of_wp_marks Try.func62 rfl trivial ?_ rfl
  simp only [Try.ntmps62, List.size_toArray, List.length_cons, List.length_nil, Nat.reduceAdd, Nat.reduceSub, Array.replicate_succ, Array.replicate_zero, List.push_toArray, List.append_toArray, List.nil_append, List.cons_append]
  gi_upto_region 0 with fail
  refine wpIn_region_re 2 (fun ηq1 => [.bx 0 114 (.agg (rB 64 h).toArray),
      .al 1 23 (rB 64 (List.replicate 64 0)).toArray])
    (fun ηq1 L => L ++ [((ηq1 0).blk 0, Obj.cells (rB 64 h).toArray 114 (0, 0)), ((ηq1 1).blk 0, Obj.cells (rB 64 (List.replicate 64 0)).toArray 23 (0, 0))]) (by kernel_rfl) OW (fun _ => by kernel_rfl) ?_
  clear OW; intro ηq1 ysq1 Wq1 OW
  simp only [↓putE_cons, ↓putE_nil, valE, Hint.val, Act.put, List.setIfInBounds_toArray, List.set_cons_succ, List.set_cons_zero]
  gi_upto_region 1 with fail
  refine wpIn_region_re 3 (fun ηq2 => [.al 2 23 (rB 64 (List.replicate 64 0)).toArray])
    (fun ηq2 L => L ++ [((ηq2 0).blk 0, Obj.cells (rB 64 (List.replicate 64 0)).toArray 23 (0, 0))]) (by kernel_rfl) OW (fun _ => by kernel_rfl) ?_
  clear OW; intro ηq2 ysq2 Wq2 OW
  simp only [↓putE_cons, ↓putE_nil, valE, Hint.val, Act.put, List.setIfInBounds_toArray, List.set_cons_succ, List.set_cons_zero]
  gi_upto_region 2 with fail
  refine wpIn_region_re 3 (fun ηq3 => [.ls (rB 64 h) 0 0,
      .pv (.int .i64 0)])
    (fun ηq3 L => L) (by kernel_rfl) OW (fun _ => by kernel_rfl) ?_
  clear OW; intro ηq3 ysq3 Wq3 OW
  simp only [↓putE_cons, ↓putE_nil, valE, Hint.val, Act.put, List.setIfInBounds_toArray, List.set_cons_succ, List.set_cons_zero]
  gi_wp2
  gi_loopw [7] (fun z7 wr => ∃ k : Nat, k ≤ 2 ∧ z7 = .int .i64 (k : Int) ∧ OwnS [] w [((ηq1 0).blk 0, Obj.cells (rB 64 h).toArray 114 (0, 0)), ((ηq1 1).blk 0, Obj.cells (rB 64 (List.replicate 64 0)).toArray 23 (0, 0)), ((ηq2 0).blk 0, Obj.cells (rB 64 (halfT h k)).toArray 23 (0, 0))] wr) (fun z7 _ => 2 - (intOf (z7)).toNat)
  case atStart => exact ⟨0, by omega, rfl, (by rw [halfT_zero]; exact OwnS.cast OW.out (by kernel_rfl))⟩
  case round =>
    obtain ⟨k, hk5, rfl, hO⟩ := hrel
    clear OW
    have HTL := halfT_len hh hk5
    have OW := Lib.hid hO
    clear hO
    gi_upto_region 3 with fail
    refine wpIn_region_re 3 (fun ηq7 => [.pv (.bool (decide ((k : Int) < 2)))])
      (fun ηq7 L => L) (by kernel_rfl) OW (fun _ => by kernel_rfl) ?_
    clear OW; intro ηq7 ysq7 Wq7 OW
    simp only [↓putE_cons, ↓putE_nil, valE, Hint.val, Act.put, List.setIfInBounds_toArray, List.set_cons_succ, List.set_cons_zero]
    cases hB8 : (decide ((k : Int) < 2))
    case true =>
      have dhB8 := of_decide_eq_true hB8
      gi_upto_region 4 with fail
      refine wpIn_region_re 4 (fun ηq9 => [.pv (.int .i64 (k : Int)),
          .tv (.agg (rB 32 ((h.drop (k * 32)).take 32)).toArray) (Instr.index 114 (.agg (rB 64 h).toArray) (.int .i64 (k : Int))) (fun _ => index_sub (n := 2) (m := 32) (N := 64) (e := 67) (by kernel_rfl) (fun _ => rfl) (by omega) rfl (show (h).length = 64 by first | rfl | (simp only [List.length_set, List.length_append, List.length_replicate, List.length_cons, List.length_nil, List.length_map, List.length_range, List.length_take, List.length_drop, HTL, hh]; done) | (simp only [List.length_set, List.length_append, List.length_replicate, List.length_cons, List.length_nil, List.length_map, List.length_range, List.length_take, List.length_drop, HTL, hh]; omega))),
          .al 3 67 (rB 32 (List.replicate 32 0)).toArray,
          .pv (.int .i64 (k : Int)),
          .ss 3 ((ηq9 2).blk 0) 0 67 (rB 32 ((h.drop (k * 32)).take 32)) (rB 32 ((h.drop (k * 32)).take 32)).toArray])
        (fun ηq9 L => L ++ [((ηq9 2).blk 0, Obj.cells (rB 32 ((h.drop (k * 32)).take 32)).toArray 67 (0, 0))]) (by kernel_rfl) OW (fun _ => by kernel_rfl) ?_
      clear OW; intro ηq9 ysq9 Wq9 OW
      simp only [↓putE_cons, ↓putE_nil, valE, Hint.val, Act.put, List.setIfInBounds_toArray, List.set_cons_succ, List.set_cons_zero]
      gi_upto_region 5 with fail
      refine wpIn_region_re 4 (fun ηq10 => [.pv (.int .i64 (k : Int)),
          .tv (.int .i64 ((32 * k : Nat) : Int)) (sBin .mul 3 (.const (.int .i64 32)) (.tmp 11) (.int .i64 32) (.int .i64 (k : Int))) (fun _ => bin_mul_nat (a := 32) (b := k) (by omega)),
          .tv (.slice (some ⟨(ηq2 0).blk 0, (32 * k) * 1, none⟩) (64 - (32 * k)) (64 - (32 * k))) (Instr.sliceAt 23 (.pointer (some ⟨(ηq2 0).blk 0, 0, none⟩)) (some (.int .i64 ((32 * k : Nat) : Int))) none none) (fun _ => sl_arl (s := 1) (l := 32 * k) (by kernel_rfl) (by omega)),
          .tv (.slice (some ⟨(ηq9 2).blk 0, 0, none⟩) 32 32) (Instr.sliceAt 67 (.pointer (some ⟨(ηq9 2).blk 0, 0, none⟩)) none none none) (fun _ => sl_ara (s := 1) (by kernel_rfl) (by decide)),
          .gn (sCopy 56 56 56 (.slice (some ⟨(ηq2 0).blk 0, (32 * k) * 1, none⟩) (64 - (32 * k)) (64 - (32 * k))) (.slice (some ⟨(ηq9 2).blk 0, 0, none⟩) 32 32)) (fun _ => .int .i64 ((32 : Nat) : Int)) [(2, ((ηq2 0).blk 0, Obj.cells (rB 64 (halfT h k)).toArray 23 (0, 0))), (3, ((ηq9 2).blk 0, Obj.cells (rB 32 ((h.drop (k * 32)).take 32)).toArray 67 (0, 0)))] [(ηq2 0).blk 0] (fun _ => [(2, ((ηq2 0).blk 0, Obj.cells (rB 64 ((halfT h k).take (32 * k) ++ ((h.drop (k * 32)).take 32) ++ (halfT h k).drop ((32 * k) + 32))).toArray 23 (0, 0)))]) (acts_copyF (xs := halfT h k) (ys := (h.drop (k * 32)).take 32) (l := 32 * k) slT_B rfl (fun _ => rfl) (show (halfT h k).length = 64 by first | rfl | (simp only [List.length_set, List.length_append, List.length_replicate, List.length_cons, List.length_nil, List.length_map, List.length_range, List.length_take, List.length_drop, HTL, hh]; done) | (simp only [List.length_set, List.length_append, List.length_replicate, List.length_cons, List.length_nil, List.length_map, List.length_range, List.length_take, List.length_drop, HTL, hh]; omega)) (by rw [List.length_take, List.length_drop, (show (h).length = 64 by first | rfl | (simp only [List.length_set, List.length_append, List.length_replicate, List.length_cons, List.length_nil, List.length_map, List.length_range, List.length_take, List.length_drop, HTL, hh]; done) | (simp only [List.length_set, List.length_append, List.length_replicate, List.length_cons, List.length_nil, List.length_map, List.length_range, List.length_take, List.length_drop, HTL, hh]; omega))]; omega) (by omega) (by omega) (rL_whole (by rw [List.length_take, List.length_drop, (show (h).length = 64 by first | rfl | (simp only [List.length_set, List.length_append, List.length_replicate, List.length_cons, List.length_nil, List.length_map, List.length_range, List.length_take, List.length_drop, HTL, hh]; done) | (simp only [List.length_set, List.length_append, List.length_replicate, List.length_cons, List.length_nil, List.length_map, List.length_range, List.length_take, List.length_drop, HTL, hh]; omega))]; omega)) (slF_one (fun _ => rfl) _))])
        (fun ηq10 L => L.set 2 ((ηq2 0).blk 0, Obj.cells (rB 64 ((halfT h k).take (32 * k) ++ ((h.drop (k * 32)).take 32) ++ (halfT h k).drop ((32 * k) + 32))).toArray 23 (0, 0))) (by kernel_rfl) OW (fun _ => by kernel_rfl) ?_
      clear OW; intro ηq10 ysq10 Wq10 OW
      simp only [↓putE_cons, ↓putE_nil, valE, Hint.val, Act.put, List.setIfInBounds_toArray, List.set_cons_succ, List.set_cons_zero]
      gi_upto_region 6 with fail
      refine wpIn_region_re 4 (fun ηq11 => [.tv (.int .i64 ((k + 1 : Nat) : Int)) (sBin .add 3 (.tmp 7) (.const (.int .i64 1)) (.int .i64 (k : Int)) (.int .i64 1)) (fun _ => bin_add_nat (a := k) (b := 1) (by omega)),
          .pv (.int .i64 ((k + 1 : Nat) : Int))])
        (fun ηq11 L => L) (by kernel_rfl) OW (fun _ => by kernel_rfl) ?_
      clear OW; intro ηq11 ysq11 Wq11 OW
      simp only [↓putE_cons, ↓putE_nil, valE, Hint.val, Act.put, List.setIfInBounds_toArray, List.set_cons_succ, List.set_cons_zero]
      gi_wp2
      go_roundw
      case rel => exact ⟨k + 1, by omega, by go_num, (by rw [← halfT_succ hh (by omega)]; exact OwnS.pick OW.out [0, 1, 2] _ (by kernel_rfl))⟩
      case measure => (simp [intOf] <;> omega)
    have dhB8 := of_decide_eq_false hB8
    obtain rfl : k = 2 := by omega
    gi_upto_region 7 with fail
    refine wpIn_region_re 3 (fun ηq12 => [.ls (rB 64 (halfT h 2)) 2 0,
        .ss 1 ((ηq1 1).blk 0) 0 23 (rB 64 (halfT h 2)) (rB 64 (halfT h 2)).toArray])
      (fun ηq12 L => L.set 1 ((ηq1 1).blk 0, Obj.cells (rB 64 (halfT h 2)).toArray 23 (0, 0))) (by kernel_rfl) OW (fun _ => by kernel_rfl) ?_
    clear OW; intro ηq12 ysq12 Wq12 OW
    simp only [↓putE_cons, ↓putE_nil, valE, Hint.val, Act.put, List.setIfInBounds_toArray, List.set_cons_succ, List.set_cons_zero]
    gi_wp2
    exact leavesS OW [.s (rB 64 (halfT h 2)) 1] (by kernel_rfl) fun hO => ⟨rfl, hO.done⟩
end Go.Proofs.Ytkeheickaogpiaa
