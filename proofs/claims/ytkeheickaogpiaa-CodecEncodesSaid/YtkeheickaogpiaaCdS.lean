/- The reference's check of what was encoded, of chips. -/
import Derived.Test.YtkeheickaogpiaaCdQ
import Derived.Test.YtkeheickaogpiaaCdM
import Derived.WalkKit
import Derived.Sort.CutIn
import Derived.IntWalk
namespace Go.Proofs.Ytkeheickaogpiaa
open Go Go.RowKit Go.Shelf
attribute [local go_sem] Oper.semAt_some
set_option linter.unusedVariables false
set_option linter.unusedSimpArgs false


theorem and_neq {i : Nat} {a b : UInt8} (h : 4 ≤ i → a = b) : (decide (4 ≤ (i : Int)) && ((a.toNat : Int) != (b.toNat : Int))) = false := by
  by_cases h4 : 4 ≤ i
  · rw [h h4]; simp
  · rw [decide_eq_false (by omega), Bool.false_and]
theorem set_at {L : List UInt8} {i : Nat} {v : UInt8} (h : i < L.length) : (L.set i v).getD i 0 = v := by
  rw [List.getD_eq_getElem?_getD, List.getElem?_set_self h]; rfl
theorem own2_at {l : List UInt8} (hl : l.length = 64) {x : Int} {p : Bool} {k i : Nat} (hk : k < 2) (h4 : 4 ≤ i) (hi : i < 36) : (encT 36 (eW2 l x p) 2).getD (36 * k + i) 0 = l.getD (32 * k + i - 4) 0 := by
  have h := encT_get (eW2_len hl x p) (n := 2) (k := k) (j := i) hk hi
  rw [h]
  have e := e2_data (l := l) (x := x) (p := p) (k := k) (i := i - 4) hk (by omega)
  unfold e2B at e
  rw [show (36 * k + 4 + (i - 4)) / 36 = k by omega, show (36 * k + 4 + (i - 4)) % 36 = i by omega] at e
  rw [e, show 32 * k + (i - 4) = 32 * k + i - 4 by omega]
set_option maxRecDepth 100000 in
set_option maxHeartbeats 1000000 in
theorem rend2q_any (l : List UInt8) (hl : l.length = 64) (x : Int) (h0 : -9223372036854775808 ≤ x) (h1 : x ≤ 9223372036854775807) (p q : Bool) (hq : q = p) (w : World) : Calls Try.prog 15 #[.int .i64 2, .agg (rB 72 (encT 36 (eW2 l x p) 2)).toArray, .agg (rB 64 l).toArray, .int .i64 x, .bool q] w fun e w' => e = .returned (.bool true) ∧ Below w.heap.size w w' := by
  have HWL := True.intro
  have HEN := own2_len hl x p
  have HU := u64N_lt x
  have HPL := pc_le (u64N x % 8388608)
  have H : Has [] w := has_nil
  have OW : Hid (OwnS [] w [] w) := Lib.hid (OwnS.start H)
  refine (callsIn_wide (n := 6)).1 ?_
  refine callsIn_of_wp_marks Try.func15 rfl trivial ?_ rfl
  simp only [Try.ntmps15, List.size_toArray, List.length_cons, List.length_nil, Nat.reduceAdd, Nat.reduceSub, Array.replicate_succ, Array.replicate_zero, List.push_toArray, List.append_toArray, List.nil_append, List.cons_append]
  gi_upto_region 0 with fail
  refine wpIn_region_re 2 (fun ηq1 => [.bx 0 26 (.agg (rB 72 (encT 36 (eW2 l x p) 2)).toArray),
      .bx 1 22 (.agg (rB 64 l).toArray),
      .pv (.bool false)])
    (fun ηq1 L => L ++ [((ηq1 0).blk 0, Obj.cells (rB 72 (encT 36 (eW2 l x p) 2)).toArray 26 (0, 0)), ((ηq1 1).blk 0, Obj.cells (rB 64 l).toArray 22 (0, 0))]) (by kernel_rfl) OW (fun _ => by kernel_rfl) ?_
  clear OW; intro ηq1 ysq1 Wq1 OW
  simp only [↓putE_cons, ↓putE_nil, valE, Hint.val, Act.put, List.setIfInBounds_toArray, List.set_cons_succ, List.set_cons_zero]
  gi_upto_region 1 with fail
  refine wpIn_region_re 2 (fun ηq2 => [.pv (.int .i64 0)])
    (fun ηq2 L => L) (by kernel_rfl) OW (fun _ => by kernel_rfl) ?_
  clear OW; intro ηq2 ysq2 Wq2 OW
  simp only [↓putE_cons, ↓putE_nil, valE, Hint.val, Act.put, List.setIfInBounds_toArray, List.set_cons_succ, List.set_cons_zero]
  gi_upto_region 2 with fail
  refine wpIn_region_re 2 (fun ηq3 => [.pv (.bool q)])
    (fun ηq3 L => L) (by kernel_rfl) OW (fun _ => by kernel_rfl) ?_
  clear OW; intro ηq3 ysq3 Wq3 OW
  simp only [↓putE_cons, ↓putE_nil, valE, Hint.val, Act.put, List.setIfInBounds_toArray, List.set_cons_succ, List.set_cons_zero]
  gi_upto_if 19 with fail
  gi_cut [11, 4] from 19 (fun s11 s4 wx => s11 = .int .i64 (dflag_0 q) ∧ s4 = .bool q ∧ OwnS [] w [((ηq1 0).blk 0, Obj.cells (rB 72 (encT 36 (eW2 l x p) 2)).toArray 26 (0, 0)), ((ηq1 1).blk 0, Obj.cells (rB 64 l).toArray 22 (0, 0))] wx)
  case first =>
    cases hB4 : (q)
    case true =>
      gi_upto_region 3 with fail
      refine wpIn_region_re 2 (fun ηq5 => [.pv (.int .i64 1)])
        (fun ηq5 L => L) (by kernel_rfl) OW (fun _ => by kernel_rfl) ?_
      clear OW; intro ηq5 ysq5 Wq5 OW
      simp only [↓putE_cons, ↓putE_nil, valE, Hint.val, Act.put, List.setIfInBounds_toArray, List.set_cons_succ, List.set_cons_zero]
      gi_wp2_with fail
      gi_meet
      exact ⟨(by (try simp only [dflag_0]); (repeat (first | rw [hB4] | rw [cond_true] | rw [cond_false])); try rfl), (by (try simp only [dflag_0]); (repeat (first | rw [hB4] | rw [cond_true] | rw [cond_false])); try rfl), OwnS.cast OW.out (by kernel_rfl)⟩
    gi_wp2_with fail
    gi_meet
    exact ⟨(by (try simp only [dflag_0]); (repeat (first | rw [hB4] | rw [cond_true] | rw [cond_false])); try rfl), (by (try simp only [dflag_0]); (repeat (first | rw [hB4] | rw [cond_true] | rw [cond_false])); try rfl), OwnS.cast OW.out (by kernel_rfl)⟩
  case rest =>
    obtain ⟨rfl, rfl, hO⟩ := hcut
    clear OW; have OW := Lib.hid hO; clear hO
    gi_upto_region 4 with fail
    refine wpIn_region_re 3 (fun ηq6 => [.cl 35 #[] (fun E => .agg (rB 74 colsB).toArray) [] [] (fun E => []) (enters_of Try.func35 (by kernel_rfl) rfl) (fun w' H => cB (callsIn_wide.2 (rcols_any w'))),
        .al 2 74 (rB 74 (List.replicate 74 0)).toArray,
        .ss 2 ((ηq6 1).blk 0) 0 74 (rB 74 colsB) (rB 74 colsB).toArray])
      (fun ηq6 L => L ++ [((ηq6 1).blk 0, Obj.cells (rB 74 colsB).toArray 74 (0, 0))]) (by kernel_rfl) OW (fun _ => by kernel_rfl) ?_
    clear OW; intro ηq6 ysq6 Wq6 OW
    simp only [↓putE_cons, ↓putE_nil, valE, Hint.val, Act.put, List.setIfInBounds_toArray, List.set_cons_succ, List.set_cons_zero]
    gi_upto_region 5 with fail
    refine wpIn_region_re 3 (fun ηq7 => [.pv (.int .i64 x),
        .tv (.int .u64 ((u64N x : Nat) : Int)) (convert 3 54 (.int .i64 x)) (fun _ => cvt_i64w Try.underlying3 Try.underlying54),
        .tv (.int .u64 (((u64N x) % 8388608 : Nat) : Int)) (sBin .rem 54 (.tmp 22) (.const (.int .u64 8388608)) (.int .u64 ((u64N x : Nat) : Int)) (.int .u64 8388608)) (fun _ => bin_rem_u64 (a := u64N x) (d := 8388608) (by decide)),
        .cl 36 #[.int .u64 (((u64N x) % 8388608 : Nat) : Int)] (fun E => .int .i64 ((pc ((u64N x) % 8388608) : Nat) : Int)) [] [] (fun E => []) (enters_of Try.func36 (by kernel_rfl) rfl) (fun w' H => cB (callsIn_wide.2 (rweight_any ((u64N x) % 8388608) (by omega) w'))),
        .tv (.int .i64 (((pc ((u64N x) % 8388608)) % 2 : Nat) : Int)) (sBin .rem 3 (.tmp 24) (.const (.int .i64 2)) (.int .i64 ((pc ((u64N x) % 8388608) : Nat) : Int)) (.int .i64 2)) (fun _ => bin_rem_i64 (a := pc ((u64N x) % 8388608)) (d := 2) (by decide)),
        .pv (.int .i64 (((pc ((u64N x) % 8388608)) % 2 : Nat) : Int))])
      (fun ηq7 L => L) (by kernel_rfl) OW (fun _ => by kernel_rfl) ?_
    clear OW; intro ηq7 ysq7 Wq7 OW
    simp only [↓putE_cons, ↓putE_nil, valE, Hint.val, Act.put, List.setIfInBounds_toArray, List.set_cons_succ, List.set_cons_zero]
    gi_upto_region 6 with fail
    refine wpIn_region_re 3 (fun ηq8 => [.pv (.int .i64 0)])
      (fun ηq8 L => L) (by kernel_rfl) OW (fun _ => by kernel_rfl) ?_
    clear OW; intro ηq8 ysq8 Wq8 OW
    simp only [↓putE_cons, ↓putE_nil, valE, Hint.val, Act.put, List.setIfInBounds_toArray, List.set_cons_succ, List.set_cons_zero]
    gi_wp2
    gi_loopw [14] (fun z14 wr => ∃ j : Nat, j ≤ 8 ∧ z14 = .int .i64 (j : Int) ∧ OwnS [] w [((ηq1 0).blk 0, Obj.cells (rB 72 (encT 36 (eW2 l x p) 2)).toArray 26 (0, 0)), ((ηq1 1).blk 0, Obj.cells (rB 64 l).toArray 22 (0, 0)), ((ηq6 1).blk 0, Obj.cells (rB 74 colsB).toArray 74 (0, 0))] wr) (fun z14 _ => 8 - (intOf (z14)).toNat)
    case atStart => exact ⟨0, by omega, rfl, (by skip; exact OwnS.cast OW.out (by kernel_rfl))⟩
    case round =>
      obtain ⟨j, hk10, rfl, hO⟩ := hrel
      clear OW
      have OW := Lib.hid hO
      clear hO
      gi_upto_region 7 with fail
      refine wpIn_region_re 3 (fun ηq12 => [.pv (.int .i64 (j : Int)),
          .pv (.bool (decide ((j : Int) < 8))),
          .pv (.bool (decide ((j : Int) < 8))),
          .pv (.int .i64 2),
          .pv (.bool false),
          .pk (.bool ((decide ((j : Int) < 8)) && false))])
        (fun ηq12 L => L) (by kernel_rfl) OW (fun _ => by kernel_rfl) ?_
      clear OW; intro ηq12 ysq12 Wq12 OW
      simp only [↓putE_cons, ↓putE_nil, valE, Hint.val, Act.put, List.setIfInBounds_toArray, List.set_cons_succ, List.set_cons_zero]
      cases hB13 : ((decide ((j : Int) < 8)) && false)
      case true => exact absurd (hB13.symm.trans (show _ = false from Bool.and_false _)) (by decide)
      case false =>
        gi_upto_region 16 with fail
        refine wpIn_region_re 3 (fun ηq14 => [.pv (.int .i64 0)])
          (fun ηq14 L => L) (by kernel_rfl) OW (fun _ => by kernel_rfl) ?_
        clear OW; intro ηq14 ysq14 Wq14 OW
        simp only [↓putE_cons, ↓putE_nil, valE, Hint.val, Act.put, List.setIfInBounds_toArray, List.set_cons_succ, List.set_cons_zero]
        gi_wp2
        gi_loopw [16] (fun z16 wr => ∃ k : Nat, k ≤ 2 ∧ z16 = .int .i64 (k : Int) ∧ OwnS [] w [((ηq1 0).blk 0, Obj.cells (rB 72 (encT 36 (eW2 l x p) 2)).toArray 26 (0, 0)), ((ηq1 1).blk 0, Obj.cells (rB 64 l).toArray 22 (0, 0)), ((ηq6 1).blk 0, Obj.cells (rB 74 colsB).toArray 74 (0, 0))] wr) (fun z16 _ => 2 - (intOf (z16)).toNat)
        case atStart => exact ⟨0, by omega, rfl, (by skip; exact OwnS.cast OW.out (by kernel_rfl))⟩
        case round =>
          obtain ⟨k, hk16, rfl, hO⟩ := hrel
          clear OW
          have OW := Lib.hid hO
          clear hO
          gi_upto_region 17 with fail
          refine wpIn_region_re 3 (fun ηq18 => [.pv (.int .i64 (k : Int)),
              .pv (.bool (decide ((k : Int) < 2))),
              .pv (.bool (decide ((k : Int) < 2))),
              .pv (.int .i64 2),
              .pv (.bool true),
              .pk (.bool ((decide ((k : Int) < 2)) && true))])
            (fun ηq18 L => L) (by kernel_rfl) OW (fun _ => by kernel_rfl) ?_
          clear OW; intro ηq18 ysq18 Wq18 OW
          simp only [↓putE_cons, ↓putE_nil, valE, Hint.val, Act.put, List.setIfInBounds_toArray, List.set_cons_succ, List.set_cons_zero]
          cases hB19 : ((decide ((k : Int) < 2)) && true)
          case true =>
            have hB19 := (Bool.and_true _).symm.trans hB19
            have dhB19 := of_decide_eq_true hB19
            gi_upto_region 19 with fail
            refine wpIn_region_re 4 (fun ηq20 => [.al 3 79 (rB 36 (List.replicate 36 0)).toArray])
              (fun ηq20 L => L ++ [((ηq20 0).blk 0, Obj.cells (rB 36 (List.replicate 36 0)).toArray 79 (0, 0))]) (by kernel_rfl) OW (fun _ => by kernel_rfl) ?_
            clear OW; intro ηq20 ysq20 Wq20 OW
            simp only [↓putE_cons, ↓putE_nil, valE, Hint.val, Act.put, List.setIfInBounds_toArray, List.set_cons_succ, List.set_cons_zero]
            gi_upto_region 20 with fail
            refine wpIn_region_re 4 (fun ηq21 => [.pv (.int .i64 0)])
              (fun ηq21 L => L) (by kernel_rfl) OW (fun _ => by kernel_rfl) ?_
            clear OW; intro ηq21 ysq21 Wq21 OW
            simp only [↓putE_cons, ↓putE_nil, valE, Hint.val, Act.put, List.setIfInBounds_toArray, List.set_cons_succ, List.set_cons_zero]
            gi_wp2
            gi_loopw [18] (fun z18 wr => ∃ i : Nat, i ≤ 36 ∧ z18 = .int .i64 (i : Int) ∧ OwnS [] w [((ηq1 0).blk 0, Obj.cells (rB 72 (encT 36 (eW2 l x p) 2)).toArray 26 (0, 0)), ((ηq1 1).blk 0, Obj.cells (rB 64 l).toArray 22 (0, 0)), ((ηq6 1).blk 0, Obj.cells (rB 74 colsB).toArray 74 (0, 0)), ((ηq20 0).blk 0, Obj.cells (rB 36 (fillL 36 (fun s => (encT 36 (eW2 l x p) 2).getD (36 * k + s) 0) i)).toArray 79 (0, 0))] wr) (fun z18 _ => 36 - (intOf (z18)).toNat)
            case atStart => exact ⟨0, by omega, rfl, (by rw [fillL_zero]; exact OwnS.cast OW.out (by kernel_rfl))⟩
            case round =>
              obtain ⟨i, hk23, rfl, hO⟩ := hrel
              clear OW
              have OW := Lib.hid hO
              clear hO
              gi_upto_region 21 with fail
              refine wpIn_region_re 4 (fun ηq25 => [.pv (.int .i64 (i : Int)),
                  .pv (.bool (decide ((i : Int) < 36)))])
                (fun ηq25 L => L) (by kernel_rfl) OW (fun _ => by kernel_rfl) ?_
              clear OW; intro ηq25 ysq25 Wq25 OW
              simp only [↓putE_cons, ↓putE_nil, valE, Hint.val, Act.put, List.setIfInBounds_toArray, List.set_cons_succ, List.set_cons_zero]
              cases hB26 : (decide ((i : Int) < 36))
              case true =>
                have dhB26 := of_decide_eq_true hB26
                gi_upto_region 23 with fail
                refine wpIn_region_re 4 (fun ηq27 => [.pv (.int .i64 (i : Int)),
                    .pv (.int .i64 (k : Int)),
                    .tv (.int .i64 ((36 * k : Nat) : Int)) (sBin .mul 3 (.const (.int .i64 36)) (.tmp 77) (.int .i64 36) (.int .i64 (k : Int))) (fun _ => bin_mul_nat (a := 36) (b := k) (by omega)),
                    .pv (.int .i64 (i : Int)),
                    .tv (.int .i64 (((36 * k) + i : Nat) : Int)) (sBin .add 3 (.tmp 78) (.tmp 79) (.int .i64 ((36 * k : Nat) : Int)) (.int .i64 (i : Int))) (fun _ => bin_add_nat (a := 36 * k) (b := i) (by omega)),
                    .tv (.pointer (some ⟨(ηq1 0).blk 0, 0 + ((36 * k) + i) * 1, none⟩)) (Instr.indexAt 26 (.pointer (some ⟨(ηq1 0).blk 0, 0, none⟩)) (.int .i64 (((36 * k) + i : Nat) : Int))) (fun _ => idx_ar (N := 72) (k := (36 * k) + i) (by kernel_rfl) (by omega)),
                    .lt (.int .u8 (((encT 36 (eW2 l x p) 2).getD ((36 * k) + i) 0).toNat : Int)) 0 (0 + ((36 * k) + i) * 1) ((ηq1 0).blk 0) (rB 72 (encT 36 (eW2 l x p) 2)).toArray 26 (by simpa only [Nat.zero_add, Nat.mul_one] using rB_get (by omega)),
                    .tv (.pointer (some ⟨(ηq20 0).blk 0, 0 + i * 1, none⟩)) (Instr.indexAt 79 (.pointer (some ⟨(ηq20 0).blk 0, 0, none⟩)) (.int .i64 (i : Int))) (fun _ => idx_ar (N := 36) (k := i) (by kernel_rfl) (by omega)),
                    .sw 3 ((ηq20 0).blk 0) (0 + i * 1) 79 (.int .u8 (((encT 36 (eW2 l x p) 2).getD ((36 * k) + i) 0).toNat : Int)) (rB 36 (fillL 36 (fun s => (encT 36 (eW2 l x p) 2).getD (36 * k + s) 0) i)).toArray (rB 36 ((fillL 36 (fun s => (encT 36 (eW2 l x p) 2).getD (36 * k + s) 0) i).set i ((encT 36 (eW2 l x p) 2).getD ((36 * k) + i) 0))).toArray (by rw [Nat.zero_add, Nat.mul_one]; exact rB_set (show (fillL 36 (fun s => (encT 36 (eW2 l x p) 2).getD (36 * k + s) 0) i).length = 36 by first | rfl | (simp only [List.length_set, List.length_append, List.length_replicate, List.length_cons, List.length_nil, List.length_map, List.length_range, List.length_take, List.length_drop, colsB_len, HEN, fillL_len, rv_len3, HWL, hl]; done) | (simp only [List.length_set, List.length_append, List.length_replicate, List.length_cons, List.length_nil, List.length_map, List.length_range, List.length_take, List.length_drop, colsB_len, HEN, fillL_len, rv_len3, HWL, hl]; omega))) (by rw [Nat.zero_add, Nat.mul_one]; exact rL_lt (by omega))])
                  (fun ηq27 L => L.set 3 ((ηq20 0).blk 0, Obj.cells (rB 36 ((fillL 36 (fun s => (encT 36 (eW2 l x p) 2).getD (36 * k + s) 0) i).set i ((encT 36 (eW2 l x p) 2).getD ((36 * k) + i) 0))).toArray 79 (0, 0))) (by kernel_rfl) OW (fun _ => by kernel_rfl) ?_
                clear OW; intro ηq27 ysq27 Wq27 OW
                simp only [↓putE_cons, ↓putE_nil, valE, Hint.val, Act.put, List.setIfInBounds_toArray, List.set_cons_succ, List.set_cons_zero]
                gi_upto_region 24 with fail
                refine wpIn_region_re 4 (fun ηq28 => [.pv (.int .i64 (i : Int)),
                    .pv (.bool (decide (4 ≤ (i : Int)))),
                    .pv (.bool (decide (4 ≤ (i : Int)))),
                    .pv (.int .i64 (i : Int)),
                    .tv (.pointer (some ⟨(ηq20 0).blk 0, 0 + i * 1, none⟩)) (Instr.indexAt 79 (.pointer (some ⟨(ηq20 0).blk 0, 0, none⟩)) (.int .i64 (i : Int))) (fun _ => idx_ar (N := 36) (k := i) (by kernel_rfl) (by omega)),
                    .lt (.int .u8 ((((fillL 36 (fun s => (encT 36 (eW2 l x p) 2).getD (36 * k + s) 0) i).set i ((encT 36 (eW2 l x p) 2).getD ((36 * k) + i) 0)).getD i 0).toNat : Int)) 3 (0 + i * 1) ((ηq20 0).blk 0) (rB 36 ((fillL 36 (fun s => (encT 36 (eW2 l x p) 2).getD (36 * k + s) 0) i).set i ((encT 36 (eW2 l x p) 2).getD ((36 * k) + i) 0))).toArray 79 (by simpa only [Nat.zero_add, Nat.mul_one] using rB_get (by omega)),
                    .pv (.int .i64 (k : Int)),
                    .tv (.int .i64 ((32 * k : Nat) : Int)) (sBin .mul 3 (.const (.int .i64 32)) (.tmp 90) (.int .i64 32) (.int .i64 (k : Int))) (fun _ => bin_mul_nat (a := 32) (b := k) (by omega)),
                    .pv (.int .i64 (i : Int)),
                    .tv (.int .i64 (((32 * k) + i : Nat) : Int)) (sBin .add 3 (.tmp 91) (.tmp 92) (.int .i64 ((32 * k : Nat) : Int)) (.int .i64 (i : Int))) (fun _ => bin_add_nat (a := 32 * k) (b := i) (by omega)),
                    .tc (.int .i64 ((32 * k + i - 4 : Nat) : Int)) 2 (decide (4 ≤ (i : Int))) true (sBin .sub 3 (.tmp 93) (.const (.int .i64 4)) (.int .i64 (((32 * k) + i : Nat) : Int)) (.int .i64 4)) (fun hc _ => sub_nat (a := 32 * k + i) (b := 4) (by omega) (by have := of_decide_eq_true hc; omega)),
                    .tv (.pointer (some ⟨(ηq1 1).blk 0, 0 + (32 * k + i - 4) * 1, none⟩)) (Instr.indexAt 22 (.pointer (some ⟨(ηq1 1).blk 0, 0, none⟩)) (.int .i64 ((32 * k + i - 4 : Nat) : Int))) (fun _ => idx_ar (N := 64) (k := 32 * k + i - 4) (by kernel_rfl) (by omega)),
                    .lt (.int .u8 ((l.getD (32 * k + i - 4) 0).toNat : Int)) 1 (0 + (32 * k + i - 4) * 1) ((ηq1 1).blk 0) (rB 64 l).toArray 22 (by simpa only [Nat.zero_add, Nat.mul_one] using rB_get (by omega)),
                    .pv (.bool (((((fillL 36 (fun s => (encT 36 (eW2 l x p) 2).getD (36 * k + s) 0) i).set i ((encT 36 (eW2 l x p) 2).getD ((36 * k) + i) 0)).getD i 0).toNat : Int) != ((l.getD (32 * k + i - 4) 0).toNat : Int))),
                    .pk (.bool ((decide (4 ≤ (i : Int))) && (((((fillL 36 (fun s => (encT 36 (eW2 l x p) 2).getD (36 * k + s) 0) i).set i ((encT 36 (eW2 l x p) 2).getD ((36 * k) + i) 0)).getD i 0).toNat : Int) != ((l.getD (32 * k + i - 4) 0).toNat : Int))))])
                  (fun ηq28 L => L) (by kernel_rfl) OW (fun _ => by kernel_rfl) ?_
                clear OW; intro ηq28 ysq28 Wq28 OW
                simp only [↓putE_cons, ↓putE_nil, valE, Hint.val, Act.put, List.setIfInBounds_toArray, List.set_cons_succ, List.set_cons_zero]
                cases hB29 : ((decide (4 ≤ (i : Int))) && (((((fillL 36 (fun s => (encT 36 (eW2 l x p) 2).getD (36 * k + s) 0) i).set i ((encT 36 (eW2 l x p) 2).getD ((36 * k) + i) 0)).getD i 0).toNat : Int) != ((l.getD (32 * k + i - 4) 0).toNat : Int)))
                case true => exact absurd (hB29.symm.trans (show _ = false from and_neq (fun h4 => (set_at (by rw [fillL_len]; omega)).trans (own2_at hl (by omega) h4 (by omega))))) (by decide)
                case false =>
                  gi_upto_region 22 with fail
                  refine wpIn_region_re 4 (fun ηq30 => [.pv (.int .i64 (i : Int)),
                      .tv (.int .i64 ((i + 1 : Nat) : Int)) (sBin .add 3 (.tmp 74) (.const (.int .i64 1)) (.int .i64 (i : Int)) (.int .i64 1)) (fun _ => bin_add_nat (a := i) (b := 1) (by omega)),
                      .pv (.int .i64 ((i + 1 : Nat) : Int))])
                    (fun ηq30 L => L) (by kernel_rfl) OW (fun _ => by kernel_rfl) ?_
                  clear OW; intro ηq30 ysq30 Wq30 OW
                  simp only [↓putE_cons, ↓putE_nil, valE, Hint.val, Act.put, List.setIfInBounds_toArray, List.set_cons_succ, List.set_cons_zero]
                  gi_wp2
                  go_roundw
                  case rel => exact ⟨i + 1, by omega, by go_num, (by rw [← fillL_set (show i < 36 by omega)]; exact OwnS.cast OW.out (by kernel_rfl))⟩
                  case measure => (simp [intOf] <;> omega)
              have dhB26 := of_decide_eq_false hB26
              obtain rfl : i = 36 := by omega
              have OW := Lib.hid (OwnS.cast (L' := [((ηq1 0).blk 0, Obj.cells (rB 72 (encT 36 (eW2 l x p) 2)).toArray 26 (0, 0)), ((ηq1 1).blk 0, Obj.cells (rB 64 l).toArray 22 (0, 0)), ((ηq6 1).blk 0, Obj.cells (rB 74 colsB).toArray 74 (0, 0)), ((ηq20 0).blk 0, Obj.cells (rB 36 (wordL (hfL l k) (dvirt_0 x p))).toArray 79 (0, 0))]) OW.out (by rw [fill36 HEN (show k < 2 by omega), own2_w hl x p (show k < 2 by omega)]))
              gi_upto_region 26 with fail
              have HWL := wordL_len (hfL l k) (dvirt_0 x p) (hfL_len hl (show k < 2 by omega))
              refine wpIn_region_re 4 (fun ηq31 => [.ls (rB 36 (wordL (hfL l k) (dvirt_0 x p))) 3 0,
                  .pv (.int .i64 x),
                  .pv (.bool q),
                  .cl 19 #[.int .i64 x, .bool q] (fun E => .agg (rB 3 (rvirt_0 x q)).toArray) [] [] (fun E => []) (enters_of Try.func19 (by kernel_rfl) rfl) (fun w' H => cB (callsIn_wide.2 (rvirt_any x (by omega) (by omega) q w'))),
                  .cl 40 #[.agg (rB 36 (wordL (hfL l k) (dvirt_0 x p))).toArray, .agg (rB 3 (rvirt_0 x q)).toArray] (fun E => .agg (rB 39 ((wordL (hfL l k) (dvirt_0 x p)) ++ (rvirt_0 x q))).toArray) [] [] (fun E => []) (enters_of Try.func40 (by kernel_rfl) rfl) (fun w' H => cB (callsIn_wide.2 (rword5_any (wordL (hfL l k) (dvirt_0 x p)) (rvirt_0 x q) (by first | rfl | (simp only [List.length_set, List.length_append, List.length_replicate, List.length_cons, List.length_nil, List.length_map, List.length_range, List.length_take, List.length_drop, colsB_len, HEN, fillL_len, rv_len3, HWL, hl]; done) | (simp only [List.length_set, List.length_append, List.length_replicate, List.length_cons, List.length_nil, List.length_map, List.length_range, List.length_take, List.length_drop, colsB_len, HEN, fillL_len, rv_len3, HWL, hl]; omega)) (by first | rfl | (simp only [List.length_set, List.length_append, List.length_replicate, List.length_cons, List.length_nil, List.length_map, List.length_range, List.length_take, List.length_drop, colsB_len, HEN, fillL_len, rv_len3, HWL, hl]; done) | (simp only [List.length_set, List.length_append, List.length_replicate, List.length_cons, List.length_nil, List.length_map, List.length_range, List.length_take, List.length_drop, colsB_len, HEN, fillL_len, rv_len3, HWL, hl]; omega)) w'))),
                  .cl 39 #[.agg (rB 39 ((wordL (hfL l k) (dvirt_0 x p)) ++ (rvirt_0 x q))).toArray] (fun E => .agg (rB 4 (synL (wordL (hfL l k) (dvirt_0 x p)) (rvirt_0 x q))).toArray) [] [] (fun E => []) (enters_of Try.func39 (by kernel_rfl) rfl) (fun w' H => cB (callsIn_wide.2 (rvals_any (wordL (hfL l k) (dvirt_0 x p)) (rvirt_0 x q) (by first | rfl | (simp only [List.length_set, List.length_append, List.length_replicate, List.length_cons, List.length_nil, List.length_map, List.length_range, List.length_take, List.length_drop, colsB_len, HEN, fillL_len, rv_len3, HWL, hl]; done) | (simp only [List.length_set, List.length_append, List.length_replicate, List.length_cons, List.length_nil, List.length_map, List.length_range, List.length_take, List.length_drop, colsB_len, HEN, fillL_len, rv_len3, HWL, hl]; omega)) (by first | rfl | (simp only [List.length_set, List.length_append, List.length_replicate, List.length_cons, List.length_nil, List.length_map, List.length_range, List.length_take, List.length_drop, colsB_len, HEN, fillL_len, rv_len3, HWL, hl]; done) | (simp only [List.length_set, List.length_append, List.length_replicate, List.length_cons, List.length_nil, List.length_map, List.length_range, List.length_take, List.length_drop, colsB_len, HEN, fillL_len, rv_len3, HWL, hl]; omega)) w'))),
                  .pv (.agg (rB 4 (List.replicate 4 0)).toArray),
                  .tv (.bool (!(decide (synL (wordL (hfL l k) (dvirt_0 x p)) (rvirt_0 x q) = List.replicate 4 0)))) (sBin .neq 68 (.tmp 104) (.tmp 105) (.agg (rB 4 (synL (wordL (hfL l k) (dvirt_0 x p)) (rvirt_0 x q))).toArray) (.agg (rB 4 (List.replicate 4 0)).toArray)) (fun _ => bin_neT (xs := rB 4 (synL (wordL (hfL l k) (dvirt_0 x p)) (rvirt_0 x q))) (ys := rB 4 (List.replicate 4 0)) (by kernel_rfl) (eqc_rB (show (synL (wordL (hfL l k) (dvirt_0 x p)) (rvirt_0 x q)).length = 4 by first | rfl | (simp only [List.length_set, List.length_append, List.length_replicate, List.length_cons, List.length_nil, List.length_map, List.length_range, List.length_take, List.length_drop, colsB_len, HEN, fillL_len, rv_len3, HWL, hl]; done) | (simp only [List.length_set, List.length_append, List.length_replicate, List.length_cons, List.length_nil, List.length_map, List.length_range, List.length_take, List.length_drop, colsB_len, HEN, fillL_len, rv_len3, HWL, hl]; omega)) List.length_replicate))])
                (fun ηq31 L => L) (by kernel_rfl) OW (fun _ => by kernel_rfl) ?_
              clear OW; intro ηq31 ysq31 Wq31 OW
              simp only [↓putE_cons, ↓putE_nil, valE, Hint.val, Act.put, List.setIfInBounds_toArray, List.set_cons_succ, List.set_cons_zero]
              cases hB32 : (!(decide (synL (wordL (hfL l k) (dvirt_0 x p)) (rvirt_0 x q) = List.replicate 4 0)))
              case true => exact absurd (hB32.symm.trans (show _ = false from by rw [hq, rvirt_eq, syn_word _ _ (hfL_len hl (show k < 2 by omega)) (dvirt_len x p)]; rfl)) (by decide)
              case false =>
                have dhB32 := of_decide_eq_true (by simpa using hB32)
                gi_upto_region 18 with fail
                refine wpIn_region_re 4 (fun ηq33 => [.pv (.int .i64 (k : Int)),
                    .tv (.int .i64 ((k + 1 : Nat) : Int)) (sBin .add 3 (.tmp 70) (.const (.int .i64 1)) (.int .i64 (k : Int)) (.int .i64 1)) (fun _ => bin_add_nat (a := k) (b := 1) (by omega)),
                    .pv (.int .i64 ((k + 1 : Nat) : Int))])
                  (fun ηq33 L => L) (by kernel_rfl) OW (fun _ => by kernel_rfl) ?_
                clear OW; intro ηq33 ysq33 Wq33 OW
                simp only [↓putE_cons, ↓putE_nil, valE, Hint.val, Act.put, List.setIfInBounds_toArray, List.set_cons_succ, List.set_cons_zero]
                gi_wp2
                go_roundw
                case rel => exact ⟨k + 1, by omega, by go_num, (by skip; exact OwnS.pick OW.out [0, 1, 2] _ (by kernel_rfl))⟩
                case measure => (simp [intOf] <;> omega)
          have hB19 := (Bool.and_true _).symm.trans hB19
          have dhB19 := of_decide_eq_false hB19
          obtain rfl : k = 2 := by omega
          gi_upto_region 28 with fail
          refine wpIn_region_re 3 (fun ηq34 => [.pv (.bool true)])
            (fun ηq34 L => L) (by kernel_rfl) OW (fun _ => by kernel_rfl) ?_
          clear OW; intro ηq34 ysq34 Wq34 OW
          simp only [↓putE_cons, ↓putE_nil, valE, Hint.val, Act.put, List.setIfInBounds_toArray, List.set_cons_succ, List.set_cons_zero]
          gi_wp2
          exact leavesS OW [.t (.bool true)] (by kernel_rfl) fun hO => ⟨(by rfl), hO.done⟩
theorem rend2_any (l : List UInt8) (hl : l.length = 64) (x : Int) (h0 : -9223372036854775808 ≤ x) (h1 : x ≤ 9223372036854775807) (p : Bool) (w : World) : Calls Try.prog 15 #[.int .i64 2, .agg (rB 72 (encT 36 (eW2 l x p) 2)).toArray, .agg (rB 64 l).toArray, .int .i64 x, .bool p] w fun e w' => e = .returned (.bool true) ∧ Below w.heap.size w w' := rend2q_any l hl x h0 h1 p p rfl w
end Go.Proofs.Ytkeheickaogpiaa
