/- The reference's checks: walked. -/
import Derived.Test.YtkeheickaogpiaaCdK
import Derived.WalkKit
import Derived.Sort.CutIn
import Derived.IntWalk
namespace Go.Proofs.Ytkeheickaogpiaa
open Go Go.RowKit Go.Shelf
attribute [local go_sem] Oper.semAt_some
set_option linter.unusedVariables false
set_option linter.unusedSimpArgs false


/-- A polynomial times z + a, place by place from above. -/
def gI (g : List UInt8) (a : UInt8) : Nat → List UInt8
  | 0 => g
  | j + 1 => if 0 < 4 - j then ((gI g a j).set (4 - j) (gm ((gI g a j).getD (4 - j) 0) a)).set (4 - j) (((gI g a j).set (4 - j) (gm ((gI g a j).getD (4 - j) 0) a)).getD (4 - j) 0 ^^^ ((gI g a j).set (4 - j) (gm ((gI g a j).getD (4 - j) 0) a)).getD (4 - j - 1) 0) else (gI g a j).set (4 - j) (gm ((gI g a j).getD (4 - j) 0) a)
theorem gI_pos {g : List UInt8} {a : UInt8} {j : Nat} (h : 0 < 4 - j) : gI g a (j + 1) = ((gI g a j).set (4 - j) (gm ((gI g a j).getD (4 - j) 0) a)).set (4 - j) (((gI g a j).set (4 - j) (gm ((gI g a j).getD (4 - j) 0) a)).getD (4 - j) 0 ^^^ ((gI g a j).set (4 - j) (gm ((gI g a j).getD (4 - j) 0) a)).getD (4 - j - 1) 0) := if_pos h
theorem gI_neg {g : List UInt8} {a : UInt8} {j : Nat} (h : ¬ 0 < 4 - j) : gI g a (j + 1) = (gI g a j).set (4 - j) (gm ((gI g a j).getD (4 - j) 0) a) := if_neg h
theorem gI_len (g : List UInt8) (a : UInt8) : ∀ j, (gI g a j).length = g.length
  | 0 => rfl
  | j + 1 => by
    have h := gI_len g a j
    rw [gI]
    split <;> simp only [List.length_set, h]
def rTr : Nat → UInt8
  | 0 => 1
  | k + 1 => gm (rTr k) 2
def gT : Nat → List UInt8
  | 0 => [1, 0, 0, 0, 0]
  | k + 1 => gI (gT k) (rTr k) 5
theorem gT_len : ∀ k, (gT k).length = 5
  | 0 => rfl
  | k + 1 => by rw [gT, gI_len, gT_len k]
/-- One round of the division. -/
def wE (w : List UInt8) (i : Nat) : Nat → List UInt8
  | 0 => w
  | t + 1 => (wE w i t).set (i - 4 + t) ((wE w i t).getD (i - 4 + t) 0 ^^^ gm (w.getD i 0) ((gT 4).getD t 0))
theorem wE_len (w : List UInt8) (i : Nat) : ∀ t, (wE w i t).length = w.length
  | 0 => rfl
  | t + 1 => by rw [wE, List.length_set, wE_len w i t]
def wD (w : List UInt8) : Nat → List UInt8
  | 0 => w
  | n + 1 => wE (wD w n) (38 - n) 5
theorem wD_len (w : List UInt8) : ∀ n, (wD w n).length = w.length
  | 0 => rfl
  | n + 1 => by rw [wD, wE_len, wD_len w n]
def rchk (w : List UInt8) : List UInt8 := [(wD w 35).getD 0 0, (wD w 35).getD 1 0, (wD w 35).getD 2 0, (wD w 35).getD 3 0]
theorem sub_nat {P : Program} {T : TypeId} {x y : Operand} {w : World} {a b : Nat} (ha : a < 1000) (hb : b ≤ a) : (sBin .sub T x y (.int .i64 (a : Int)) (.int .i64 (b : Int))).run P w = .ok (.int .i64 ((a - b : Nat) : Int)) w := by
  rw [show ((a - b : Nat) : Int) = (a : Int) - (b : Int) by omega]
  exact bin_sub_in (by omega) (by omega)
set_option maxRecDepth 100000 in
set_option maxHeartbeats 1000000 in
theorem rchk10_any (w0 : List UInt8) (hw : w0.length = 39) (w : World) : Calls Try.prog 41 #[.agg (rB 39 w0).toArray] w fun e w' => e = .returned (.agg (rB 4 (rchk w0)).toArray) ∧ Below w.heap.size w w' := by
  have H : Has [] w := has_nil
  have OW : Hid (OwnS [] w [] w) := Lib.hid (OwnS.start H)
  refine (callsIn_wide (n := 6)).1 ?_
  refine callsIn_of_wp_marks Try.func41 rfl trivial ?_ rfl
  simp only [Try.ntmps41, List.size_toArray, List.length_cons, List.length_nil, Nat.reduceAdd, Nat.reduceSub, Array.replicate_succ, Array.replicate_zero, List.push_toArray, List.append_toArray, List.nil_append, List.cons_append]
  gi_upto_region 0 with fail
  refine wpIn_region_re 2 (fun ηq1 => [.bx 0 81 (.agg (rB 39 w0).toArray),
      .al 1 68 (rB 4 (List.replicate 4 0)).toArray])
    (fun ηq1 L => L ++ [((ηq1 0).blk 0, Obj.cells (rB 39 w0).toArray 81 (0, 0)), ((ηq1 1).blk 0, Obj.cells (rB 4 (List.replicate 4 0)).toArray 68 (0, 0))]) (by kernel_rfl) OW (fun _ => by kernel_rfl) ?_
  clear OW; intro ηq1 ysq1 Wq1 OW
  simp only [↓putE_cons, ↓putE_nil, valE, Hint.val, Act.put, List.setIfInBounds_toArray, List.set_cons_succ, List.set_cons_zero]
  gi_upto_region 1 with fail
  refine wpIn_region_re 3 (fun ηq2 => [.pv (.agg (rB 5 ([(1 : UInt8), (0 : UInt8), (0 : UInt8), (0 : UInt8), (0 : UInt8)])).toArray),
      .al 2 119 (rB 5 (List.replicate 5 0)).toArray,
      .ss 2 ((ηq2 1).blk 0) 0 119 (rB 5 ([(1 : UInt8), (0 : UInt8), (0 : UInt8), (0 : UInt8), (0 : UInt8)])) (rB 5 ([(1 : UInt8), (0 : UInt8), (0 : UInt8), (0 : UInt8), (0 : UInt8)])).toArray])
    (fun ηq2 L => L ++ [((ηq2 1).blk 0, Obj.cells (rB 5 ([(1 : UInt8), (0 : UInt8), (0 : UInt8), (0 : UInt8), (0 : UInt8)])).toArray 119 (0, 0))]) (by kernel_rfl) OW (fun _ => by kernel_rfl) ?_
  clear OW; intro ηq2 ysq2 Wq2 OW
  simp only [↓putE_cons, ↓putE_nil, valE, Hint.val, Act.put, List.setIfInBounds_toArray, List.set_cons_succ, List.set_cons_zero]
  gi_upto_region 2 with fail
  refine wpIn_region_re 3 (fun ηq3 => [.pv (.int .u8 1)])
    (fun ηq3 L => L) (by kernel_rfl) OW (fun _ => by kernel_rfl) ?_
  clear OW; intro ηq3 ysq3 Wq3 OW
  simp only [↓putE_cons, ↓putE_nil, valE, Hint.val, Act.put, List.setIfInBounds_toArray, List.set_cons_succ, List.set_cons_zero]
  gi_upto_region 3 with fail
  refine wpIn_region_re 3 (fun ηq4 => [.pv (.int .i64 0)])
    (fun ηq4 L => L) (by kernel_rfl) OW (fun _ => by kernel_rfl) ?_
  clear OW; intro ηq4 ysq4 Wq4 OW
  simp only [↓putE_cons, ↓putE_nil, valE, Hint.val, Act.put, List.setIfInBounds_toArray, List.set_cons_succ, List.set_cons_zero]
  gi_wp2
  gi_loopw [5, 4] (fun z5 z4 wr => ∃ k : Nat, k ≤ 4 ∧ z5 = .int .i64 (k : Int) ∧ z4 = .int .u8 ((rTr k).toNat : Int) ∧ OwnS [] w [((ηq1 0).blk 0, Obj.cells (rB 39 w0).toArray 81 (0, 0)), ((ηq1 1).blk 0, Obj.cells (rB 4 (List.replicate 4 0)).toArray 68 (0, 0)), ((ηq2 1).blk 0, Obj.cells (rB 5 (gT k)).toArray 119 (0, 0))] wr) (fun z5 z4 _ => 4 - (intOf (z5)).toNat)
  case atStart => exact ⟨0, by omega, rfl, by rfl, (by skip; exact OwnS.cast OW.out (by kernel_rfl))⟩
  case round =>
    obtain ⟨k, hk6, rfl, rfl, hO⟩ := hrel
    clear OW
    have OW := Lib.hid hO
    clear hO
    gi_upto_region 4 with fail
    refine wpIn_region_re 3 (fun ηq8 => [.pv (.int .i64 (k : Int)),
        .pv (.bool (decide ((k : Int) < 4)))])
      (fun ηq8 L => L) (by kernel_rfl) OW (fun _ => by kernel_rfl) ?_
    clear OW; intro ηq8 ysq8 Wq8 OW
    simp only [↓putE_cons, ↓putE_nil, valE, Hint.val, Act.put, List.setIfInBounds_toArray, List.set_cons_succ, List.set_cons_zero]
    cases hB9 : (decide ((k : Int) < 4))
    case true =>
      have dhB9 := of_decide_eq_true hB9
      gi_upto_region 6 with fail
      refine wpIn_region_re 3 (fun ηq10 => [.pv (.int .i64 4)])
        (fun ηq10 L => L) (by kernel_rfl) OW (fun _ => by kernel_rfl) ?_
      clear OW; intro ηq10 ysq10 Wq10 OW
      simp only [↓putE_cons, ↓putE_nil, valE, Hint.val, Act.put, List.setIfInBounds_toArray, List.set_cons_succ, List.set_cons_zero]
      gi_wp2
      gi_loopw [6] (fun z6 wr => ∃ j : Nat, j ≤ 5 ∧ z6 = .int .i64 (4 - (j : Int)) ∧ OwnS [] w [((ηq1 0).blk 0, Obj.cells (rB 39 w0).toArray 81 (0, 0)), ((ηq1 1).blk 0, Obj.cells (rB 4 (List.replicate 4 0)).toArray 68 (0, 0)), ((ηq2 1).blk 0, Obj.cells (rB 5 (gI (gT k) (rTr k) j)).toArray 119 (0, 0))] wr) (fun z6 _ => (5 + intOf z6).toNat)
      case atStart => exact ⟨0, by omega, rfl, (by skip; exact OwnS.cast OW.out (by kernel_rfl))⟩
      case round =>
        obtain ⟨j, hk12, rfl, hO⟩ := hrel
        clear OW
        have OW := Lib.hid hO
        clear hO
        gi_upto_region 7 with fail
        refine wpIn_region_re 3 (fun ηq14 => [.pv (.int .i64 (4 - (j : Int))),
            .pv (.bool (decide (0 ≤ (4 - (j : Int)))))])
          (fun ηq14 L => L) (by kernel_rfl) OW (fun _ => by kernel_rfl) ?_
        clear OW; intro ηq14 ysq14 Wq14 OW
        simp only [↓putE_cons, ↓putE_nil, valE, Hint.val, Act.put, List.setIfInBounds_toArray, List.set_cons_succ, List.set_cons_zero]
        cases hB15 : (decide (0 ≤ (4 - (j : Int))))
        case true =>
          have dhB15 := of_decide_eq_true hB15
          gi_upto_region 9 with fail
          rw [show (4 - (j : Int)) = ((4 - j : Nat) : Int) by omega]
          refine wpIn_region_re 3 (fun ηq16 => [.pv (.int .i64 ((4 - j : Nat) : Int)),
              .pv (.int .i64 ((4 - j : Nat) : Int)),
              .tv (.pointer (some ⟨(ηq2 1).blk 0, 0 + (4 - j) * 1, none⟩)) (Instr.indexAt 119 (.pointer (some ⟨(ηq2 1).blk 0, 0, none⟩)) (.int .i64 ((4 - j : Nat) : Int))) (fun _ => idx_ar (N := 5) (k := 4 - j) (by kernel_rfl) (by omega)),
              .lt (.int .u8 (((gI (gT k) (rTr k) j).getD (4 - j) 0).toNat : Int)) 2 (0 + (4 - j) * 1) ((ηq2 1).blk 0) (rB 5 (gI (gT k) (rTr k) j)).toArray 119 (by simpa only [Nat.zero_add, Nat.mul_one] using rB_get (by omega)),
              .pv (.int .u8 ((rTr k).toNat : Int)),
              .cl 65 #[.int .u8 (((gI (gT k) (rTr k) j).getD (4 - j) 0).toNat : Int), .int .u8 ((rTr k).toNat : Int)] (fun _ => .int .u8 ((gm ((gI (gT k) (rTr k) j).getD (4 - j) 0) (rTr k)).toNat : Int)) [] [] (fun _ => []) (enters_of Try.func65 (by kernel_rfl) rfl) (fun w' _ => cS (callsIn_wide.2 (rmul_any ((gI (gT k) (rTr k) j).getD (4 - j) 0) (rTr k) _))),
              .tv (.pointer (some ⟨(ηq2 1).blk 0, 0 + (4 - j) * 1, none⟩)) (Instr.indexAt 119 (.pointer (some ⟨(ηq2 1).blk 0, 0, none⟩)) (.int .i64 ((4 - j : Nat) : Int))) (fun _ => idx_ar (N := 5) (k := 4 - j) (by kernel_rfl) (by omega)),
              .sw 2 ((ηq2 1).blk 0) (0 + (4 - j) * 1) 119 (.int .u8 ((gm ((gI (gT k) (rTr k) j).getD (4 - j) 0) (rTr k)).toNat : Int)) (rB 5 (gI (gT k) (rTr k) j)).toArray (rB 5 ((gI (gT k) (rTr k) j).set (4 - j) (gm ((gI (gT k) (rTr k) j).getD (4 - j) 0) (rTr k)))).toArray (by rw [Nat.zero_add, Nat.mul_one]; exact rB_set (show (gI (gT k) (rTr k) j).length = 5 by first | rfl | (simp only [List.length_set, List.length_append, List.length_replicate, List.length_cons, List.length_nil, List.length_map, List.length_range, List.length_take, List.length_drop, gI_len, gT_len, wE_len, wD_len, hw]; done) | (simp only [List.length_set, List.length_append, List.length_replicate, List.length_cons, List.length_nil, List.length_map, List.length_range, List.length_take, List.length_drop, gI_len, gT_len, wE_len, wD_len, hw]; omega))) (by rw [Nat.zero_add, Nat.mul_one]; exact rL_lt (by omega))])
            (fun ηq16 L => L.set 2 ((ηq2 1).blk 0, Obj.cells (rB 5 ((gI (gT k) (rTr k) j).set (4 - j) (gm ((gI (gT k) (rTr k) j).getD (4 - j) 0) (rTr k)))).toArray 119 (0, 0))) (by kernel_rfl) OW (fun _ => by kernel_rfl) ?_
          clear OW; intro ηq16 ysq16 Wq16 OW
          simp only [↓putE_cons, ↓putE_nil, valE, Hint.val, Act.put, List.setIfInBounds_toArray, List.set_cons_succ, List.set_cons_zero]
          gi_upto_region 10 with fail
          refine wpIn_region_re 3 (fun ηq17 => [.pv (.int .i64 ((4 - j : Nat) : Int)),
              .pv (.bool (decide (0 < ((4 - j : Nat) : Int))))])
            (fun ηq17 L => L) (by kernel_rfl) OW (fun _ => by kernel_rfl) ?_
          clear OW; intro ηq17 ysq17 Wq17 OW
          simp only [↓putE_cons, ↓putE_nil, valE, Hint.val, Act.put, List.setIfInBounds_toArray, List.set_cons_succ, List.set_cons_zero]
          cases hB18 : (decide (0 < ((4 - j : Nat) : Int)))
          case true =>
            have dhB18 := of_decide_eq_true hB18
            gi_upto_region 11 with fail
            refine wpIn_region_re 3 (fun ηq19 => [.pv (.int .i64 ((4 - j : Nat) : Int)),
                .pv (.int .i64 ((4 - j : Nat) : Int)),
                .tv (.pointer (some ⟨(ηq2 1).blk 0, 0 + (4 - j) * 1, none⟩)) (Instr.indexAt 119 (.pointer (some ⟨(ηq2 1).blk 0, 0, none⟩)) (.int .i64 ((4 - j : Nat) : Int))) (fun _ => idx_ar (N := 5) (k := 4 - j) (by kernel_rfl) (by omega)),
                .lt (.int .u8 ((((gI (gT k) (rTr k) j).set (4 - j) (gm ((gI (gT k) (rTr k) j).getD (4 - j) 0) (rTr k))).getD (4 - j) 0).toNat : Int)) 2 (0 + (4 - j) * 1) ((ηq2 1).blk 0) (rB 5 ((gI (gT k) (rTr k) j).set (4 - j) (gm ((gI (gT k) (rTr k) j).getD (4 - j) 0) (rTr k)))).toArray 119 (by simpa only [Nat.zero_add, Nat.mul_one] using rB_get (by omega)),
                .pv (.int .i64 ((4 - j : Nat) : Int)),
                .tv (.int .i64 ((4 - j - 1 : Nat) : Int)) (sBin .sub 3 (.tmp 32) (.const (.int .i64 1)) (.int .i64 ((4 - j : Nat) : Int)) (.int .i64 1)) (fun _ => sub_nat (b := 1) (by omega) (by omega)),
                .tv (.pointer (some ⟨(ηq2 1).blk 0, 0 + (4 - j - 1) * 1, none⟩)) (Instr.indexAt 119 (.pointer (some ⟨(ηq2 1).blk 0, 0, none⟩)) (.int .i64 ((4 - j - 1 : Nat) : Int))) (fun _ => idx_ar (N := 5) (k := 4 - j - 1) (by kernel_rfl) (by omega)),
                .lt (.int .u8 ((((gI (gT k) (rTr k) j).set (4 - j) (gm ((gI (gT k) (rTr k) j).getD (4 - j) 0) (rTr k))).getD (4 - j - 1) 0).toNat : Int)) 2 (0 + (4 - j - 1) * 1) ((ηq2 1).blk 0) (rB 5 ((gI (gT k) (rTr k) j).set (4 - j) (gm ((gI (gT k) (rTr k) j).getD (4 - j) 0) (rTr k)))).toArray 119 (by simpa only [Nat.zero_add, Nat.mul_one] using rB_get (by omega)),
                .tv (.int .u8 (((((gI (gT k) (rTr k) j).set (4 - j) (gm ((gI (gT k) (rTr k) j).getD (4 - j) 0) (rTr k))).getD (4 - j) 0) ^^^ (((gI (gT k) (rTr k) j).set (4 - j) (gm ((gI (gT k) (rTr k) j).getD (4 - j) 0) (rTr k))).getD (4 - j - 1) 0)).toNat : Int)) (sBin .xor 5 (.tmp 31) (.tmp 35) (.int .u8 ((((gI (gT k) (rTr k) j).set (4 - j) (gm ((gI (gT k) (rTr k) j).getD (4 - j) 0) (rTr k))).getD (4 - j) 0).toNat : Int)) (.int .u8 ((((gI (gT k) (rTr k) j).set (4 - j) (gm ((gI (gT k) (rTr k) j).getD (4 - j) 0) (rTr k))).getD (4 - j - 1) 0).toNat : Int))) (fun _ => bin_xor8 (a := ((gI (gT k) (rTr k) j).set (4 - j) (gm ((gI (gT k) (rTr k) j).getD (4 - j) 0) (rTr k))).getD (4 - j) 0) (b := ((gI (gT k) (rTr k) j).set (4 - j) (gm ((gI (gT k) (rTr k) j).getD (4 - j) 0) (rTr k))).getD (4 - j - 1) 0)),
                .tv (.pointer (some ⟨(ηq2 1).blk 0, 0 + (4 - j) * 1, none⟩)) (Instr.indexAt 119 (.pointer (some ⟨(ηq2 1).blk 0, 0, none⟩)) (.int .i64 ((4 - j : Nat) : Int))) (fun _ => idx_ar (N := 5) (k := 4 - j) (by kernel_rfl) (by omega)),
                .sw 2 ((ηq2 1).blk 0) (0 + (4 - j) * 1) 119 (.int .u8 (((((gI (gT k) (rTr k) j).set (4 - j) (gm ((gI (gT k) (rTr k) j).getD (4 - j) 0) (rTr k))).getD (4 - j) 0) ^^^ (((gI (gT k) (rTr k) j).set (4 - j) (gm ((gI (gT k) (rTr k) j).getD (4 - j) 0) (rTr k))).getD (4 - j - 1) 0)).toNat : Int)) (rB 5 ((gI (gT k) (rTr k) j).set (4 - j) (gm ((gI (gT k) (rTr k) j).getD (4 - j) 0) (rTr k)))).toArray (rB 5 (((gI (gT k) (rTr k) j).set (4 - j) (gm ((gI (gT k) (rTr k) j).getD (4 - j) 0) (rTr k))).set (4 - j) ((((gI (gT k) (rTr k) j).set (4 - j) (gm ((gI (gT k) (rTr k) j).getD (4 - j) 0) (rTr k))).getD (4 - j) 0) ^^^ (((gI (gT k) (rTr k) j).set (4 - j) (gm ((gI (gT k) (rTr k) j).getD (4 - j) 0) (rTr k))).getD (4 - j - 1) 0)))).toArray (by rw [Nat.zero_add, Nat.mul_one]; exact rB_set (by rw [List.length_set]; exact (show (gI (gT k) (rTr k) j).length = 5 by first | rfl | (simp only [List.length_set, List.length_append, List.length_replicate, List.length_cons, List.length_nil, List.length_map, List.length_range, List.length_take, List.length_drop, gI_len, gT_len, wE_len, wD_len, hw]; done) | (simp only [List.length_set, List.length_append, List.length_replicate, List.length_cons, List.length_nil, List.length_map, List.length_range, List.length_take, List.length_drop, gI_len, gT_len, wE_len, wD_len, hw]; omega)))) (by rw [Nat.zero_add, Nat.mul_one]; exact rL_lt (by omega))])
              (fun ηq19 L => L.set 2 ((ηq2 1).blk 0, Obj.cells (rB 5 (((gI (gT k) (rTr k) j).set (4 - j) (gm ((gI (gT k) (rTr k) j).getD (4 - j) 0) (rTr k))).set (4 - j) ((((gI (gT k) (rTr k) j).set (4 - j) (gm ((gI (gT k) (rTr k) j).getD (4 - j) 0) (rTr k))).getD (4 - j) 0) ^^^ (((gI (gT k) (rTr k) j).set (4 - j) (gm ((gI (gT k) (rTr k) j).getD (4 - j) 0) (rTr k))).getD (4 - j - 1) 0)))).toArray 119 (0, 0))) (by kernel_rfl) OW (fun _ => by kernel_rfl) ?_
            clear OW; intro ηq19 ysq19 Wq19 OW
            simp only [↓putE_cons, ↓putE_nil, valE, Hint.val, Act.put, List.setIfInBounds_toArray, List.set_cons_succ, List.set_cons_zero]
            gi_upto_region 8 with fail
            refine wpIn_region_re 3 (fun ηq20 => [.pv (.int .i64 ((4 - j : Nat) : Int)),
                .tv (.int .i64 (((4 - j : Nat) : Int) - 1)) (sBin .sub 3 (.tmp 17) (.const (.int .i64 1)) (.int .i64 ((4 - j : Nat) : Int)) (.int .i64 1)) (fun _ => bin_sub_in (a := ((4 - j : Nat) : Int)) (b := 1) (by omega) (by omega)),
                .pv (.int .i64 (((4 - j : Nat) : Int) - 1))])
              (fun ηq20 L => L) (by kernel_rfl) OW (fun _ => by kernel_rfl) ?_
            clear OW; intro ηq20 ysq20 Wq20 OW
            simp only [↓putE_cons, ↓putE_nil, valE, Hint.val, Act.put, List.setIfInBounds_toArray, List.set_cons_succ, List.set_cons_zero]
            gi_wp2
            have HME : (5 + (((4 - j : Nat) : Int) - 1)).toNat < (5 + (4 - (j : Int))).toNat := by omega
            go_roundw
            case rel => exact ⟨j + 1, by omega, congrArg (Value.int .i64) (by omega), (by (first | rw [gI_pos (j := j) (by omega)] | rw [gI_neg (j := j) (by omega)]); exact OwnS.cast OW.out (by kernel_rfl))⟩
            case measure => exact HME
          have dhB18 := of_decide_eq_false hB18
          gi_upto_region 8 with fail
          refine wpIn_region_re 3 (fun ηq21 => [.pv (.int .i64 ((4 - j : Nat) : Int)),
              .tv (.int .i64 (((4 - j : Nat) : Int) - 1)) (sBin .sub 3 (.tmp 17) (.const (.int .i64 1)) (.int .i64 ((4 - j : Nat) : Int)) (.int .i64 1)) (fun _ => bin_sub_in (a := ((4 - j : Nat) : Int)) (b := 1) (by omega) (by omega)),
              .pv (.int .i64 (((4 - j : Nat) : Int) - 1))])
            (fun ηq21 L => L) (by kernel_rfl) OW (fun _ => by kernel_rfl) ?_
          clear OW; intro ηq21 ysq21 Wq21 OW
          simp only [↓putE_cons, ↓putE_nil, valE, Hint.val, Act.put, List.setIfInBounds_toArray, List.set_cons_succ, List.set_cons_zero]
          gi_wp2
          have HME : (5 + (((4 - j : Nat) : Int) - 1)).toNat < (5 + (4 - (j : Int))).toNat := by omega
          go_roundw
          case rel => exact ⟨j + 1, by omega, congrArg (Value.int .i64) (by omega), (by (first | rw [gI_pos (j := j) (by omega)] | rw [gI_neg (j := j) (by omega)]); exact OwnS.cast OW.out (by kernel_rfl))⟩
          case measure => exact HME
        have dhB15 := of_decide_eq_false hB15
        obtain rfl : j = 5 := by omega
        gi_upto_region 12 with fail
        refine wpIn_region_re 3 (fun ηq22 => [.pv (.int .u8 ((rTr k).toNat : Int)),
            .cl 65 #[.int .u8 ((rTr k).toNat : Int), .int .u8 2] (fun _ => .int .u8 ((gm (rTr k) (2 : UInt8)).toNat : Int)) [] [] (fun _ => []) (enters_of Try.func65 (by kernel_rfl) rfl) (fun w' _ => cS (callsIn_wide.2 (rmul_any (rTr k) (2 : UInt8) _))),
            .pv (.int .u8 ((gm (rTr k) (2 : UInt8)).toNat : Int))])
          (fun ηq22 L => L) (by kernel_rfl) OW (fun _ => by kernel_rfl) ?_
        clear OW; intro ηq22 ysq22 Wq22 OW
        simp only [↓putE_cons, ↓putE_nil, valE, Hint.val, Act.put, List.setIfInBounds_toArray, List.set_cons_succ, List.set_cons_zero]
        gi_upto_region 5 with fail
        refine wpIn_region_re 3 (fun ηq23 => [.pv (.int .i64 (k : Int)),
            .tv (.int .i64 ((k + 1 : Nat) : Int)) (sBin .add 3 (.tmp 13) (.const (.int .i64 1)) (.int .i64 (k : Int)) (.int .i64 1)) (fun _ => bin_add_nat (a := k) (b := 1) (by omega)),
            .pv (.int .i64 ((k + 1 : Nat) : Int))])
          (fun ηq23 L => L) (by kernel_rfl) OW (fun _ => by kernel_rfl) ?_
        clear OW; intro ηq23 ysq23 Wq23 OW
        simp only [↓putE_cons, ↓putE_nil, valE, Hint.val, Act.put, List.setIfInBounds_toArray, List.set_cons_succ, List.set_cons_zero]
        gi_wp2
        go_roundw
        case rel => exact ⟨k + 1, by omega, by go_num, by rw [rTr], (by rw [gT]; exact OwnS.cast OW.out (by kernel_rfl))⟩
        case measure => (simp [intOf] <;> omega)
    have dhB9 := of_decide_eq_false hB9
    obtain rfl : k = 4 := by omega
    gi_upto_region 13 with fail
    refine wpIn_region_re 3 (fun ηq24 => [.pv (.int .i64 38)])
      (fun ηq24 L => L) (by kernel_rfl) OW (fun _ => by kernel_rfl) ?_
    clear OW; intro ηq24 ysq24 Wq24 OW
    simp only [↓putE_cons, ↓putE_nil, valE, Hint.val, Act.put, List.setIfInBounds_toArray, List.set_cons_succ, List.set_cons_zero]
    gi_wp2
    gi_loopw [7] (fun z7 wr => ∃ n : Nat, n ≤ 35 ∧ z7 = .int .i64 (38 - (n : Int)) ∧ OwnS [] w [((ηq1 0).blk 0, Obj.cells (rB 39 (wD w0 n)).toArray 81 (0, 0)), ((ηq1 1).blk 0, Obj.cells (rB 4 (List.replicate 4 0)).toArray 68 (0, 0)), ((ηq2 1).blk 0, Obj.cells (rB 5 (gT 4)).toArray 119 (0, 0))] wr) (fun z7 _ => (35 + intOf z7).toNat)
    case atStart => exact ⟨0, by omega, rfl, (by skip; exact OwnS.cast OW.out (by kernel_rfl))⟩
    case round =>
      obtain ⟨n, hk26, rfl, hO⟩ := hrel
      clear OW
      have OW := Lib.hid hO
      clear hO
      gi_upto_region 14 with fail
      refine wpIn_region_re 3 (fun ηq28 => [.pv (.int .i64 (38 - (n : Int))),
          .pv (.bool (decide (4 ≤ (38 - (n : Int)))))])
        (fun ηq28 L => L) (by kernel_rfl) OW (fun _ => by kernel_rfl) ?_
      clear OW; intro ηq28 ysq28 Wq28 OW
      simp only [↓putE_cons, ↓putE_nil, valE, Hint.val, Act.put, List.setIfInBounds_toArray, List.set_cons_succ, List.set_cons_zero]
      cases hB29 : (decide (4 ≤ (38 - (n : Int))))
      case true =>
        have dhB29 := of_decide_eq_true hB29
        gi_upto_region 16 with fail
        rw [show (38 - (n : Int)) = ((38 - n : Nat) : Int) by omega]
        refine wpIn_region_re 3 (fun ηq30 => [.pv (.int .i64 ((38 - n : Nat) : Int)),
            .tv (.pointer (some ⟨(ηq1 0).blk 0, 0 + (38 - n) * 1, none⟩)) (Instr.indexAt 81 (.pointer (some ⟨(ηq1 0).blk 0, 0, none⟩)) (.int .i64 ((38 - n : Nat) : Int))) (fun _ => idx_ar (N := 39) (k := 38 - n) (by kernel_rfl) (by omega)),
            .lt (.int .u8 (((wD w0 n).getD (38 - n) 0).toNat : Int)) 0 (0 + (38 - n) * 1) ((ηq1 0).blk 0) (rB 39 (wD w0 n)).toArray 81 (by simpa only [Nat.zero_add, Nat.mul_one] using rB_get (by omega)),
            .pv (.int .u8 (((wD w0 n).getD (38 - n) 0).toNat : Int))])
          (fun ηq30 L => L) (by kernel_rfl) OW (fun _ => by kernel_rfl) ?_
        clear OW; intro ηq30 ysq30 Wq30 OW
        simp only [↓putE_cons, ↓putE_nil, valE, Hint.val, Act.put, List.setIfInBounds_toArray, List.set_cons_succ, List.set_cons_zero]
        gi_upto_region 17 with fail
        refine wpIn_region_re 3 (fun ηq31 => [.pv (.int .i64 0)])
          (fun ηq31 L => L) (by kernel_rfl) OW (fun _ => by kernel_rfl) ?_
        clear OW; intro ηq31 ysq31 Wq31 OW
        simp only [↓putE_cons, ↓putE_nil, valE, Hint.val, Act.put, List.setIfInBounds_toArray, List.set_cons_succ, List.set_cons_zero]
        gi_wp2
        gi_loopw [9] (fun z9 wr => ∃ t : Nat, t ≤ 5 ∧ z9 = .int .i64 (t : Int) ∧ OwnS [] w [((ηq1 0).blk 0, Obj.cells (rB 39 (wE (wD w0 n) (38 - n) t)).toArray 81 (0, 0)), ((ηq1 1).blk 0, Obj.cells (rB 4 (List.replicate 4 0)).toArray 68 (0, 0)), ((ηq2 1).blk 0, Obj.cells (rB 5 (gT 4)).toArray 119 (0, 0))] wr) (fun z9 _ => 5 - (intOf (z9)).toNat)
        case atStart => exact ⟨0, by omega, rfl, (by skip; exact OwnS.cast OW.out (by kernel_rfl))⟩
        case round =>
          obtain ⟨t, hk33, rfl, hO⟩ := hrel
          clear OW
          have OW := Lib.hid hO
          clear hO
          gi_upto_region 18 with fail
          refine wpIn_region_re 3 (fun ηq35 => [.pv (.int .i64 (t : Int)),
              .pv (.bool (decide ((t : Int) ≤ 4)))])
            (fun ηq35 L => L) (by kernel_rfl) OW (fun _ => by kernel_rfl) ?_
          clear OW; intro ηq35 ysq35 Wq35 OW
          simp only [↓putE_cons, ↓putE_nil, valE, Hint.val, Act.put, List.setIfInBounds_toArray, List.set_cons_succ, List.set_cons_zero]
          cases hB36 : (decide ((t : Int) ≤ 4))
          case true =>
            have dhB36 := of_decide_eq_true hB36
            gi_upto_region 20 with fail
            refine wpIn_region_re 3 (fun ηq37 => [.pv (.int .i64 ((38 - n : Nat) : Int)),
                .tv (.int .i64 ((38 - n - 4 : Nat) : Int)) (sBin .sub 3 (.tmp 51) (.const (.int .i64 4)) (.int .i64 ((38 - n : Nat) : Int)) (.int .i64 4)) (fun _ => sub_nat (b := 4) (by omega) (by omega)),
                .pv (.int .i64 (t : Int)),
                .tv (.int .i64 (((38 - n - 4) + t : Nat) : Int)) (sBin .add 3 (.tmp 52) (.tmp 53) (.int .i64 ((38 - n - 4 : Nat) : Int)) (.int .i64 (t : Int))) (fun _ => bin_add_nat (a := 38 - n - 4) (b := t) (by omega)),
                .pv (.int .i64 ((38 - n : Nat) : Int)),
                .tv (.int .i64 ((38 - n - 4 : Nat) : Int)) (sBin .sub 3 (.tmp 55) (.const (.int .i64 4)) (.int .i64 ((38 - n : Nat) : Int)) (.int .i64 4)) (fun _ => sub_nat (b := 4) (by omega) (by omega)),
                .pv (.int .i64 (t : Int)),
                .tv (.int .i64 (((38 - n - 4) + t : Nat) : Int)) (sBin .add 3 (.tmp 56) (.tmp 57) (.int .i64 ((38 - n - 4 : Nat) : Int)) (.int .i64 (t : Int))) (fun _ => bin_add_nat (a := 38 - n - 4) (b := t) (by omega)),
                .tv (.pointer (some ⟨(ηq1 0).blk 0, 0 + ((38 - n - 4) + t) * 1, none⟩)) (Instr.indexAt 81 (.pointer (some ⟨(ηq1 0).blk 0, 0, none⟩)) (.int .i64 (((38 - n - 4) + t : Nat) : Int))) (fun _ => idx_ar (N := 39) (k := (38 - n - 4) + t) (by kernel_rfl) (by omega)),
                .lt (.int .u8 (((wE (wD w0 n) (38 - n) t).getD ((38 - n - 4) + t) 0).toNat : Int)) 0 (0 + ((38 - n - 4) + t) * 1) ((ηq1 0).blk 0) (rB 39 (wE (wD w0 n) (38 - n) t)).toArray 81 (by simpa only [Nat.zero_add, Nat.mul_one] using rB_get (by omega)),
                .pv (.int .u8 (((wD w0 n).getD (38 - n) 0).toNat : Int)),
                .pv (.int .i64 (t : Int)),
                .tv (.pointer (some ⟨(ηq2 1).blk 0, 0 + t * 1, none⟩)) (Instr.indexAt 119 (.pointer (some ⟨(ηq2 1).blk 0, 0, none⟩)) (.int .i64 (t : Int))) (fun _ => idx_ar (N := 5) (k := t) (by kernel_rfl) (by omega)),
                .lt (.int .u8 (((gT 4).getD t 0).toNat : Int)) 2 (0 + t * 1) ((ηq2 1).blk 0) (rB 5 (gT 4)).toArray 119 (by simpa only [Nat.zero_add, Nat.mul_one] using rB_get (by omega)),
                .cl 65 #[.int .u8 (((wD w0 n).getD (38 - n) 0).toNat : Int), .int .u8 (((gT 4).getD t 0).toNat : Int)] (fun _ => .int .u8 ((gm ((wD w0 n).getD (38 - n) 0) ((gT 4).getD t 0)).toNat : Int)) [] [] (fun _ => []) (enters_of Try.func65 (by kernel_rfl) rfl) (fun w' _ => cS (callsIn_wide.2 (rmul_any ((wD w0 n).getD (38 - n) 0) ((gT 4).getD t 0) _))),
                .tv (.int .u8 ((((wE (wD w0 n) (38 - n) t).getD ((38 - n - 4) + t) 0) ^^^ (gm ((wD w0 n).getD (38 - n) 0) ((gT 4).getD t 0))).toNat : Int)) (sBin .xor 5 (.tmp 60) (.tmp 65) (.int .u8 (((wE (wD w0 n) (38 - n) t).getD ((38 - n - 4) + t) 0).toNat : Int)) (.int .u8 ((gm ((wD w0 n).getD (38 - n) 0) ((gT 4).getD t 0)).toNat : Int))) (fun _ => bin_xor8 (a := (wE (wD w0 n) (38 - n) t).getD ((38 - n - 4) + t) 0) (b := (gm ((wD w0 n).getD (38 - n) 0) ((gT 4).getD t 0)))),
                .tv (.pointer (some ⟨(ηq1 0).blk 0, 0 + ((38 - n - 4) + t) * 1, none⟩)) (Instr.indexAt 81 (.pointer (some ⟨(ηq1 0).blk 0, 0, none⟩)) (.int .i64 (((38 - n - 4) + t : Nat) : Int))) (fun _ => idx_ar (N := 39) (k := (38 - n - 4) + t) (by kernel_rfl) (by omega)),
                .sw 0 ((ηq1 0).blk 0) (0 + ((38 - n - 4) + t) * 1) 81 (.int .u8 ((((wE (wD w0 n) (38 - n) t).getD ((38 - n - 4) + t) 0) ^^^ (gm ((wD w0 n).getD (38 - n) 0) ((gT 4).getD t 0))).toNat : Int)) (rB 39 (wE (wD w0 n) (38 - n) t)).toArray (rB 39 ((wE (wD w0 n) (38 - n) t).set ((38 - n - 4) + t) (((wE (wD w0 n) (38 - n) t).getD ((38 - n - 4) + t) 0) ^^^ (gm ((wD w0 n).getD (38 - n) 0) ((gT 4).getD t 0))))).toArray (by rw [Nat.zero_add, Nat.mul_one]; exact rB_set (show (wE (wD w0 n) (38 - n) t).length = 39 by first | rfl | (simp only [List.length_set, List.length_append, List.length_replicate, List.length_cons, List.length_nil, List.length_map, List.length_range, List.length_take, List.length_drop, gI_len, gT_len, wE_len, wD_len, hw]; done) | (simp only [List.length_set, List.length_append, List.length_replicate, List.length_cons, List.length_nil, List.length_map, List.length_range, List.length_take, List.length_drop, gI_len, gT_len, wE_len, wD_len, hw]; omega))) (by rw [Nat.zero_add, Nat.mul_one]; exact rL_lt (by omega))])
              (fun ηq37 L => L.set 0 ((ηq1 0).blk 0, Obj.cells (rB 39 ((wE (wD w0 n) (38 - n) t).set ((38 - n - 4) + t) (((wE (wD w0 n) (38 - n) t).getD ((38 - n - 4) + t) 0) ^^^ (gm ((wD w0 n).getD (38 - n) 0) ((gT 4).getD t 0))))).toArray 81 (0, 0))) (by kernel_rfl) OW (fun _ => by kernel_rfl) ?_
            clear OW; intro ηq37 ysq37 Wq37 OW
            simp only [↓putE_cons, ↓putE_nil, valE, Hint.val, Act.put, List.setIfInBounds_toArray, List.set_cons_succ, List.set_cons_zero]
            gi_upto_region 19 with fail
            refine wpIn_region_re 3 (fun ηq38 => [.pv (.int .i64 (t : Int)),
                .tv (.int .i64 ((t + 1 : Nat) : Int)) (sBin .add 3 (.tmp 49) (.const (.int .i64 1)) (.int .i64 (t : Int)) (.int .i64 1)) (fun _ => bin_add_nat (a := t) (b := 1) (by omega)),
                .pv (.int .i64 ((t + 1 : Nat) : Int))])
              (fun ηq38 L => L) (by kernel_rfl) OW (fun _ => by kernel_rfl) ?_
            clear OW; intro ηq38 ysq38 Wq38 OW
            simp only [↓putE_cons, ↓putE_nil, valE, Hint.val, Act.put, List.setIfInBounds_toArray, List.set_cons_succ, List.set_cons_zero]
            gi_wp2
            go_roundw
            case rel => exact ⟨t + 1, by omega, by go_num, (by rw [wE]; exact OwnS.cast OW.out (by kernel_rfl))⟩
            case measure => (simp [intOf] <;> omega)
          have dhB36 := of_decide_eq_false hB36
          obtain rfl : t = 5 := by omega
          gi_upto_region 15 with fail
          refine wpIn_region_re 3 (fun ηq39 => [.pv (.int .i64 ((38 - n : Nat) : Int)),
              .tv (.int .i64 (((38 - n : Nat) : Int) - 1)) (sBin .sub 3 (.tmp 42) (.const (.int .i64 1)) (.int .i64 ((38 - n : Nat) : Int)) (.int .i64 1)) (fun _ => bin_sub_in (a := ((38 - n : Nat) : Int)) (b := 1) (by omega) (by omega)),
              .pv (.int .i64 (((38 - n : Nat) : Int) - 1))])
            (fun ηq39 L => L) (by kernel_rfl) OW (fun _ => by kernel_rfl) ?_
          clear OW; intro ηq39 ysq39 Wq39 OW
          simp only [↓putE_cons, ↓putE_nil, valE, Hint.val, Act.put, List.setIfInBounds_toArray, List.set_cons_succ, List.set_cons_zero]
          gi_wp2
          have HME : (35 + (((38 - n : Nat) : Int) - 1)).toNat < (35 + (38 - (n : Int))).toNat := by omega
          go_roundw
          case rel => exact ⟨n + 1, by omega, congrArg (Value.int .i64) (by omega), (by rw [wD]; exact OwnS.cast OW.out (by kernel_rfl))⟩
          case measure => exact HME
      have dhB29 := of_decide_eq_false hB29
      obtain rfl : n = 35 := by omega
      gi_upto_region 21 with fail
      refine wpIn_region_re 3 (fun ηq40 => [.pv (.pointer (some ⟨(ηq1 0).blk 0, 0, none⟩)),
          .ld (.int .u8 (((wD w0 35).getD 0 0).toNat : Int)) 0 0,
          .pv (.pointer (some ⟨(ηq1 0).blk 0, 1, none⟩)),
          .ld (.int .u8 (((wD w0 35).getD 1 0).toNat : Int)) 0 1,
          .pv (.pointer (some ⟨(ηq1 0).blk 0, 2, none⟩)),
          .ld (.int .u8 (((wD w0 35).getD 2 0).toNat : Int)) 0 2,
          .pv (.pointer (some ⟨(ηq1 0).blk 0, 3, none⟩)),
          .ld (.int .u8 (((wD w0 35).getD 3 0).toNat : Int)) 0 3,
          .pv (.agg (rB 4 ([(wD w0 35).getD 0 0, (wD w0 35).getD 1 0, (wD w0 35).getD 2 0, (wD w0 35).getD 3 0])).toArray),
          .ss 1 ((ηq1 1).blk 0) 0 68 (rB 4 ([(wD w0 35).getD 0 0, (wD w0 35).getD 1 0, (wD w0 35).getD 2 0, (wD w0 35).getD 3 0])) (rB 4 ([(wD w0 35).getD 0 0, (wD w0 35).getD 1 0, (wD w0 35).getD 2 0, (wD w0 35).getD 3 0])).toArray])
        (fun ηq40 L => L.set 1 ((ηq1 1).blk 0, Obj.cells (rB 4 ([(wD w0 35).getD 0 0, (wD w0 35).getD 1 0, (wD w0 35).getD 2 0, (wD w0 35).getD 3 0])).toArray 68 (0, 0))) (by kernel_rfl) OW (fun _ => by kernel_rfl) ?_
      clear OW; intro ηq40 ysq40 Wq40 OW
      simp only [↓putE_cons, ↓putE_nil, valE, Hint.val, Act.put, List.setIfInBounds_toArray, List.set_cons_succ, List.set_cons_zero]
      gi_wp2
      exact leavesS OW [.s (rB 4 ([(wD w0 35).getD 0 0, (wD w0 35).getD 1 0, (wD w0 35).getD 2 0, (wD w0 35).getD 3 0])) 1] (by kernel_rfl) fun hO => ⟨(by rfl), hO.done⟩
end Go.Proofs.Ytkeheickaogpiaa
