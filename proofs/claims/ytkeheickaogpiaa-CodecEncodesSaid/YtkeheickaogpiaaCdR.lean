/- The reference's check of what was encoded, of bits. -/
import Derived.Test.YtkeheickaogpiaaCdP
import Derived.WalkKit
import Derived.Sort.CutIn
import Derived.IntWalk
namespace Go.Proofs.Ytkeheickaogpiaa
open Go Go.RowKit Go.Shelf
attribute [local go_sem] Oper.semAt_some
set_option linter.unusedVariables false
set_option linter.unusedSimpArgs false


theorem e1_own {l : List UInt8} {x : Int} {p : Bool} {k i : Nat} (hk : k < 8) (hi : i < 8) : (encT 9 (eW1 l x p) 8).getD (9 * k + i) 0 = l.getD (8 * k + i) 0 := by
  rw [encT_get (eW1_len l x p) hk (show i < 9 by omega), ← e1_lo (x := x) (p := p) hi]
  unfold e1B
  rw [show (9 * k + i) / 9 = k by omega, show (9 * k + i) % 9 = i by omega]
theorem syn_own {l : List UInt8} {x : Int} {p : Bool} {k : Nat} {c : Int} (hk : k < 8) (hc : dflag_0 p = c) : rsyn (numO l (8 * k) 8) ((encT 9 (eW1 l x p) 8).getD (9 * k + 8) 0) ((pc (u64N x % 8388608) % 2 : Nat) : Int) c = 0 := by
  rw [encT_get (eW1_len l x p) hk (show 8 < 9 by omega), eW1_hi, ← hc, lo_u64]
  apply UInt8.toNat_inj.1
  rw [rsyn_nat, hck_nat]
  exact Nat.xor_self _
theorem neq_same {a b : UInt8} (h : a = b) : ((a.toNat : Int) != (b.toNat : Int)) = false := by rw [h]; simp
theorem neq_null {a : UInt8} (h : a = 0) : ((a.toNat : Int) != 0) = false := by rw [h]; rfl
set_option maxRecDepth 100000 in
set_option maxHeartbeats 1000000 in
theorem rend1q_any (l : List UInt8) (hl : l.length = 64) (x : Int) (h0 : -9223372036854775808 ≤ x) (h1 : x ≤ 9223372036854775807) (p q : Bool) (hq : q = p) (w : World) : Calls Try.prog 15 #[.int .i64 1, .agg (rB 72 (encT 9 (eW1 l x p) 8)).toArray, .agg (rB 64 l).toArray, .int .i64 x, .bool q] w fun e w' => e = .returned (.bool true) ∧ Below w.heap.size w w' := by
  have HEN := encT_len (n := 9) (eW1_len l x p) (k := 8) (by decide)
  have HU := u64N_lt x
  have HPL := pc_le (u64N x % 8388608)
  have H : Has [] w := has_nil
  have OW : Hid (OwnS [] w [] w) := Lib.hid (OwnS.start H)
  refine (callsIn_wide (n := 6)).1 ?_
  refine callsIn_of_wp_marks Try.func15 rfl trivial ?_ rfl
  simp only [Try.ntmps15, List.size_toArray, List.length_cons, List.length_nil, Nat.reduceAdd, Nat.reduceSub, Array.replicate_succ, Array.replicate_zero, List.push_toArray, List.append_toArray, List.nil_append, List.cons_append]
  gi_upto_region 0 with fail
  refine wpIn_region_re 2 (fun ηq1 => [.bx 0 26 (.agg (rB 72 (encT 9 (eW1 l x p) 8)).toArray),
      .bx 1 22 (.agg (rB 64 l).toArray),
      .pv (.bool false)])
    (fun ηq1 L => L ++ [((ηq1 0).blk 0, Obj.cells (rB 72 (encT 9 (eW1 l x p) 8)).toArray 26 (0, 0)), ((ηq1 1).blk 0, Obj.cells (rB 64 l).toArray 22 (0, 0))]) (by kernel_rfl) OW (fun _ => by kernel_rfl) ?_
  clear OW; intro ηq1 ysq1 Wq1 OW
  simp only [↓putE_cons, ↓putE_nil, valE, Hint.val, Act.put, List.setIfInBounds_toArray, List.set_cons_succ, List.set_cons_zero]
  gi_upto_region 1 with fail
  refine wpIn_region_re 2 (fun ηq2 => [.pv (.int .i64 0)])
    (fun ηq2 L => L) (by kernel_rfl) OW (fun _ => by kernel_rfl) ?_
  clear OW; intro ηq2 ysq2 Wq2 OW
  simp only [↓putE_cons, ↓putE_nil, valE, Hint.val, Act.put, List.setIfInBounds_toArray, List.set_cons_succ, List.set_cons_zero]
  gi_upto_region 2 with fail
  refine wpIn_region_re 2 (fun ηq3 => [.pv (.bool q)])
    (fun ηq3 L => L) (by kernel_rfl) OW (fun _ => by kernel_rfl) ?_
  clear OW; intro ηq3 ysq3 Wq3 OW
  simp only [↓putE_cons, ↓putE_nil, valE, Hint.val, Act.put, List.setIfInBounds_toArray, List.set_cons_succ, List.set_cons_zero]
  gi_upto_if 19 with fail
  gi_cut [11, 4] from 19 (fun s11 s4 wx => s11 = .int .i64 (dflag_0 q) ∧ s4 = .bool q ∧ OwnS [] w [((ηq1 0).blk 0, Obj.cells (rB 72 (encT 9 (eW1 l x p) 8)).toArray 26 (0, 0)), ((ηq1 1).blk 0, Obj.cells (rB 64 l).toArray 22 (0, 0))] wx)
  case first =>
    cases hB4 : (q)
    case true =>
      gi_upto_region 3 with fail
      refine wpIn_region_re 2 (fun ηq5 => [.pv (.int .i64 1)])
        (fun ηq5 L => L) (by kernel_rfl) OW (fun _ => by kernel_rfl) ?_
      clear OW; intro ηq5 ysq5 Wq5 OW
      simp only [↓putE_cons, ↓putE_nil, valE, Hint.val, Act.put, List.setIfInBounds_toArray, List.set_cons_succ, List.set_cons_zero]
      gi_wp2_with fail
      gi_meet
      exact ⟨(by (try simp only [dflag_0]); (repeat (first | rw [hB4] | rw [cond_true] | rw [cond_false])); try rfl), (by (try simp only [dflag_0]); (repeat (first | rw [hB4] | rw [cond_true] | rw [cond_false])); try rfl), OwnS.cast OW.out (by kernel_rfl)⟩
    gi_wp2_with fail
    gi_meet
    exact ⟨(by (try simp only [dflag_0]); (repeat (first | rw [hB4] | rw [cond_true] | rw [cond_false])); try rfl), (by (try simp only [dflag_0]); (repeat (first | rw [hB4] | rw [cond_true] | rw [cond_false])); try rfl), OwnS.cast OW.out (by kernel_rfl)⟩
  case rest =>
    obtain ⟨rfl, rfl, hO⟩ := hcut
    clear OW; have OW := Lib.hid hO; clear hO
    gi_upto_region 4 with fail
    refine wpIn_region_re 3 (fun ηq6 => [.cl 35 #[] (fun E => .agg (rB 74 colsB).toArray) [] [] (fun E => []) (enters_of Try.func35 (by kernel_rfl) rfl) (fun w' H => cB (callsIn_wide.2 (rcols_any w'))),
        .al 2 74 (rB 74 (List.replicate 74 0)).toArray,
        .ss 2 ((ηq6 1).blk 0) 0 74 (rB 74 colsB) (rB 74 colsB).toArray])
      (fun ηq6 L => L ++ [((ηq6 1).blk 0, Obj.cells (rB 74 colsB).toArray 74 (0, 0))]) (by kernel_rfl) OW (fun _ => by kernel_rfl) ?_
    clear OW; intro ηq6 ysq6 Wq6 OW
    simp only [↓putE_cons, ↓putE_nil, valE, Hint.val, Act.put, List.setIfInBounds_toArray, List.set_cons_succ, List.set_cons_zero]
    gi_upto_region 5 with fail
    refine wpIn_region_re 3 (fun ηq7 => [.pv (.int .i64 x),
        .tv (.int .u64 ((u64N x : Nat) : Int)) (convert 3 54 (.int .i64 x)) (fun _ => cvt_i64w Try.underlying3 Try.underlying54),
        .tv (.int .u64 (((u64N x) % 8388608 : Nat) : Int)) (sBin .rem 54 (.tmp 22) (.const (.int .u64 8388608)) (.int .u64 ((u64N x : Nat) : Int)) (.int .u64 8388608)) (fun _ => bin_rem_u64 (a := u64N x) (d := 8388608) (by decide)),
        .cl 36 #[.int .u64 (((u64N x) % 8388608 : Nat) : Int)] (fun E => .int .i64 ((pc ((u64N x) % 8388608) : Nat) : Int)) [] [] (fun E => []) (enters_of Try.func36 (by kernel_rfl) rfl) (fun w' H => cB (callsIn_wide.2 (rweight_any ((u64N x) % 8388608) (by omega) w'))),
        .tv (.int .i64 (((pc ((u64N x) % 8388608)) % 2 : Nat) : Int)) (sBin .rem 3 (.tmp 24) (.const (.int .i64 2)) (.int .i64 ((pc ((u64N x) % 8388608) : Nat) : Int)) (.int .i64 2)) (fun _ => bin_rem_i64 (a := pc ((u64N x) % 8388608)) (d := 2) (by decide)),
        .pv (.int .i64 (((pc ((u64N x) % 8388608)) % 2 : Nat) : Int))])
      (fun ηq7 L => L) (by kernel_rfl) OW (fun _ => by kernel_rfl) ?_
    clear OW; intro ηq7 ysq7 Wq7 OW
    simp only [↓putE_cons, ↓putE_nil, valE, Hint.val, Act.put, List.setIfInBounds_toArray, List.set_cons_succ, List.set_cons_zero]
    gi_upto_region 6 with fail
    refine wpIn_region_re 3 (fun ηq8 => [.pv (.int .i64 0)])
      (fun ηq8 L => L) (by kernel_rfl) OW (fun _ => by kernel_rfl) ?_
    clear OW; intro ηq8 ysq8 Wq8 OW
    simp only [↓putE_cons, ↓putE_nil, valE, Hint.val, Act.put, List.setIfInBounds_toArray, List.set_cons_succ, List.set_cons_zero]
    gi_wp2
    gi_loopw [14] (fun z14 wr => ∃ k : Nat, k ≤ 8 ∧ z14 = .int .i64 (k : Int) ∧ OwnS [] w [((ηq1 0).blk 0, Obj.cells (rB 72 (encT 9 (eW1 l x p) 8)).toArray 26 (0, 0)), ((ηq1 1).blk 0, Obj.cells (rB 64 l).toArray 22 (0, 0)), ((ηq6 1).blk 0, Obj.cells (rB 74 colsB).toArray 74 (0, 0))] wr) (fun z14 _ => 8 - (intOf (z14)).toNat)
    case atStart => exact ⟨0, by omega, rfl, (by skip; exact OwnS.cast OW.out (by kernel_rfl))⟩
    case round =>
      obtain ⟨k, hk10, rfl, hO⟩ := hrel
      clear OW
      have HNO := numO_lt64 l (8 * k) (k := 8) (by decide)
      have OW := Lib.hid hO
      clear hO
      gi_upto_region 7 with fail
      refine wpIn_region_re 3 (fun ηq12 => [.pv (.int .i64 (k : Int)),
          .pv (.bool (decide ((k : Int) < 8))),
          .pv (.bool (decide ((k : Int) < 8))),
          .pv (.int .i64 1),
          .pv (.bool true),
          .pk (.bool ((decide ((k : Int) < 8)) && true))])
        (fun ηq12 L => L) (by kernel_rfl) OW (fun _ => by kernel_rfl) ?_
      clear OW; intro ηq12 ysq12 Wq12 OW
      simp only [↓putE_cons, ↓putE_nil, valE, Hint.val, Act.put, List.setIfInBounds_toArray, List.set_cons_succ, List.set_cons_zero]
      cases hB13 : ((decide ((k : Int) < 8)) && true)
      case true =>
        have hB13 := (Bool.and_true _).symm.trans hB13
        have dhB13 := of_decide_eq_true hB13
        gi_upto_region 9 with fail
        refine wpIn_region_re 3 (fun ηq14 => [.pv (.int .i64 0)])
          (fun ηq14 L => L) (by kernel_rfl) OW (fun _ => by kernel_rfl) ?_
        clear OW; intro ηq14 ysq14 Wq14 OW
        simp only [↓putE_cons, ↓putE_nil, valE, Hint.val, Act.put, List.setIfInBounds_toArray, List.set_cons_succ, List.set_cons_zero]
        gi_wp2
        gi_loopw [15] (fun z15 wr => ∃ i : Nat, i ≤ 8 ∧ z15 = .int .i64 (i : Int) ∧ OwnS [] w [((ηq1 0).blk 0, Obj.cells (rB 72 (encT 9 (eW1 l x p) 8)).toArray 26 (0, 0)), ((ηq1 1).blk 0, Obj.cells (rB 64 l).toArray 22 (0, 0)), ((ηq6 1).blk 0, Obj.cells (rB 74 colsB).toArray 74 (0, 0))] wr) (fun z15 _ => 8 - (intOf (z15)).toNat)
        case atStart => exact ⟨0, by omega, rfl, (by skip; exact OwnS.cast OW.out (by kernel_rfl))⟩
        case round =>
          obtain ⟨i, hk16, rfl, hO⟩ := hrel
          clear OW
          have OW := Lib.hid hO
          clear hO
          gi_upto_region 10 with fail
          refine wpIn_region_re 3 (fun ηq18 => [.pv (.int .i64 (i : Int)),
              .pv (.bool (decide ((i : Int) < 8)))])
            (fun ηq18 L => L) (by kernel_rfl) OW (fun _ => by kernel_rfl) ?_
          clear OW; intro ηq18 ysq18 Wq18 OW
          simp only [↓putE_cons, ↓putE_nil, valE, Hint.val, Act.put, List.setIfInBounds_toArray, List.set_cons_succ, List.set_cons_zero]
          cases hB19 : (decide ((i : Int) < 8))
          case true =>
            have dhB19 := of_decide_eq_true hB19
            gi_upto_region 12 with fail
            refine wpIn_region_re 3 (fun ηq20 => [.pv (.int .i64 (k : Int)),
                .tv (.int .i64 ((9 * k : Nat) : Int)) (sBin .mul 3 (.const (.int .i64 9)) (.tmp 38) (.int .i64 9) (.int .i64 (k : Int))) (fun _ => bin_mul_nat (a := 9) (b := k) (by omega)),
                .pv (.int .i64 (i : Int)),
                .tv (.int .i64 (((9 * k) + i : Nat) : Int)) (sBin .add 3 (.tmp 39) (.tmp 40) (.int .i64 ((9 * k : Nat) : Int)) (.int .i64 (i : Int))) (fun _ => bin_add_nat (a := 9 * k) (b := i) (by omega)),
                .tv (.pointer (some ⟨(ηq1 0).blk 0, 0 + ((9 * k) + i) * 1, none⟩)) (Instr.indexAt 26 (.pointer (some ⟨(ηq1 0).blk 0, 0, none⟩)) (.int .i64 (((9 * k) + i : Nat) : Int))) (fun _ => idx_ar (N := 72) (k := (9 * k) + i) (by kernel_rfl) (by omega)),
                .lt (.int .u8 (((encT 9 (eW1 l x p) 8).getD ((9 * k) + i) 0).toNat : Int)) 0 (0 + ((9 * k) + i) * 1) ((ηq1 0).blk 0) (rB 72 (encT 9 (eW1 l x p) 8)).toArray 26 (by simpa only [Nat.zero_add, Nat.mul_one] using rB_get (by omega)),
                .pv (.int .i64 (k : Int)),
                .tv (.int .i64 ((8 * k : Nat) : Int)) (sBin .mul 3 (.const (.int .i64 8)) (.tmp 44) (.int .i64 8) (.int .i64 (k : Int))) (fun _ => bin_mul_nat (a := 8) (b := k) (by omega)),
                .pv (.int .i64 (i : Int)),
                .tv (.int .i64 (((8 * k) + i : Nat) : Int)) (sBin .add 3 (.tmp 45) (.tmp 46) (.int .i64 ((8 * k : Nat) : Int)) (.int .i64 (i : Int))) (fun _ => bin_add_nat (a := 8 * k) (b := i) (by omega)),
                .tv (.pointer (some ⟨(ηq1 1).blk 0, 0 + ((8 * k) + i) * 1, none⟩)) (Instr.indexAt 22 (.pointer (some ⟨(ηq1 1).blk 0, 0, none⟩)) (.int .i64 (((8 * k) + i : Nat) : Int))) (fun _ => idx_ar (N := 64) (k := (8 * k) + i) (by kernel_rfl) (by omega)),
                .lt (.int .u8 ((l.getD ((8 * k) + i) 0).toNat : Int)) 1 (0 + ((8 * k) + i) * 1) ((ηq1 1).blk 0) (rB 64 l).toArray 22 (by simpa only [Nat.zero_add, Nat.mul_one] using rB_get (by omega)),
                .pv (.bool ((((encT 9 (eW1 l x p) 8).getD ((9 * k) + i) 0).toNat : Int) != ((l.getD ((8 * k) + i) 0).toNat : Int)))])
              (fun ηq20 L => L) (by kernel_rfl) OW (fun _ => by kernel_rfl) ?_
            clear OW; intro ηq20 ysq20 Wq20 OW
            simp only [↓putE_cons, ↓putE_nil, valE, Hint.val, Act.put, List.setIfInBounds_toArray, List.set_cons_succ, List.set_cons_zero]
            cases hB21 : ((((encT 9 (eW1 l x p) 8).getD ((9 * k) + i) 0).toNat : Int) != ((l.getD ((8 * k) + i) 0).toNat : Int))
            case true => exact absurd (hB21.symm.trans (show _ = false from neq_same (e1_own (by omega) (by omega)))) (by decide)
            case false =>
              have dhB21 := Lib.hid (eq_of_bne_false hB21)
              gi_upto_region 11 with fail
              refine wpIn_region_re 3 (fun ηq22 => [.pv (.int .i64 (i : Int)),
                  .tv (.int .i64 ((i + 1 : Nat) : Int)) (sBin .add 3 (.tmp 36) (.const (.int .i64 1)) (.int .i64 (i : Int)) (.int .i64 1)) (fun _ => bin_add_nat (a := i) (b := 1) (by omega)),
                  .pv (.int .i64 ((i + 1 : Nat) : Int))])
                (fun ηq22 L => L) (by kernel_rfl) OW (fun _ => by kernel_rfl) ?_
              clear OW; intro ηq22 ysq22 Wq22 OW
              simp only [↓putE_cons, ↓putE_nil, valE, Hint.val, Act.put, List.setIfInBounds_toArray, List.set_cons_succ, List.set_cons_zero]
              gi_wp2
              go_roundw
              case rel => exact ⟨i + 1, by omega, by go_num, (by skip; exact OwnS.cast OW.out (by kernel_rfl))⟩
              case measure => (simp [intOf] <;> omega)
          have dhB19 := of_decide_eq_false hB19
          obtain rfl : i = 8 := by omega
          gi_upto_region 14 with fail
          refine wpIn_region_re 3 (fun ηq23 => [.ls (rB 74 colsB) 2 0,
              .ls (rB 64 l) 1 0,
              .pv (.int .i64 (k : Int)),
              .cl 38 #[.agg (rB 64 l).toArray, .int .i64 (k : Int)] (fun E => .int .u64 ((numO l (8 * k) 8 : Nat) : Int)) [] [] (fun E => []) (enters_of Try.func38 (by kernel_rfl) rfl) (fun w' H => cB (callsIn_wide.2 (rword_any l (by first | rfl | (simp only [List.length_set, List.length_append, List.length_replicate, List.length_cons, List.length_nil, List.length_map, List.length_range, List.length_take, List.length_drop, colsB_len, HEN, hl]; done) | (simp only [List.length_set, List.length_append, List.length_replicate, List.length_cons, List.length_nil, List.length_map, List.length_range, List.length_take, List.length_drop, colsB_len, HEN, hl]; omega)) k (by omega) w'))),
              .pv (.int .i64 (k : Int)),
              .tv (.int .i64 ((9 * k : Nat) : Int)) (sBin .mul 3 (.const (.int .i64 9)) (.tmp 55) (.int .i64 9) (.int .i64 (k : Int))) (fun _ => bin_mul_nat (a := 9) (b := k) (by omega)),
              .tv (.int .i64 (((9 * k) + 8 : Nat) : Int)) (sBin .add 3 (.tmp 56) (.const (.int .i64 8)) (.int .i64 ((9 * k : Nat) : Int)) (.int .i64 8)) (fun _ => bin_add_nat (a := 9 * k) (b := 8) (by omega)),
              .tv (.pointer (some ⟨(ηq1 0).blk 0, 0 + ((9 * k) + 8) * 1, none⟩)) (Instr.indexAt 26 (.pointer (some ⟨(ηq1 0).blk 0, 0, none⟩)) (.int .i64 (((9 * k) + 8 : Nat) : Int))) (fun _ => idx_ar (N := 72) (k := (9 * k) + 8) (by kernel_rfl) (by omega)),
              .lt (.int .u8 (((encT 9 (eW1 l x p) 8).getD ((9 * k) + 8) 0).toNat : Int)) 0 (0 + ((9 * k) + 8) * 1) ((ηq1 0).blk 0) (rB 72 (encT 9 (eW1 l x p) 8)).toArray 26 (by simpa only [Nat.zero_add, Nat.mul_one] using rB_get (by omega)),
              .pv (.int .i64 (((pc ((u64N x) % 8388608)) % 2 : Nat) : Int)),
              .pv (.int .i64 (dflag_0 q)),
              .cl 37 #[.agg (rB 74 colsB).toArray, .int .u64 ((numO l (8 * k) 8 : Nat) : Int), .int .u8 (((encT 9 (eW1 l x p) 8).getD ((9 * k) + 8) 0).toNat : Int), .int .i64 (((pc ((u64N x) % 8388608)) % 2 : Nat) : Int), .int .i64 (dflag_0 q)] (fun E => .int .u8 ((rsyn (numO l (8 * k) 8) ((encT 9 (eW1 l x p) 8).getD ((9 * k) + 8) 0) (((pc ((u64N x) % 8388608)) % 2 : Nat) : Int) (dflag_0 q)).toNat : Int)) [] [] (fun E => []) (enters_of Try.func37 (by kernel_rfl) rfl) (fun w' H => cB (callsIn_wide.2 (rsyn_any (numO l (8 * k) 8) (by omega) ((encT 9 (eW1 l x p) 8).getD ((9 * k) + 8) 0) (((pc ((u64N x) % 8388608)) % 2 : Nat) : Int) (dflag_0 q) w'))),
              .pv (.bool (((rsyn (numO l (8 * k) 8) ((encT 9 (eW1 l x p) 8).getD ((9 * k) + 8) 0) (((pc ((u64N x) % 8388608)) % 2 : Nat) : Int) (dflag_0 q)).toNat : Int) != 0))])
            (fun ηq23 L => L) (by kernel_rfl) OW (fun _ => by kernel_rfl) ?_
          clear OW; intro ηq23 ysq23 Wq23 OW
          simp only [↓putE_cons, ↓putE_nil, valE, Hint.val, Act.put, List.setIfInBounds_toArray, List.set_cons_succ, List.set_cons_zero]
          cases hB24 : (((rsyn (numO l (8 * k) 8) ((encT 9 (eW1 l x p) 8).getD ((9 * k) + 8) 0) (((pc ((u64N x) % 8388608)) % 2 : Nat) : Int) (dflag_0 q)).toNat : Int) != 0)
          case true => exact absurd (hB24.symm.trans (show _ = false from neq_null (syn_own (by omega) (by rw [hq])))) (by decide)
          case false =>
            have dhB24 := Lib.hid (eq_of_bne_false hB24)
            gi_upto_region 8 with fail
            refine wpIn_region_re 3 (fun ηq25 => [.pv (.int .i64 (k : Int)),
                .tv (.int .i64 ((k + 1 : Nat) : Int)) (sBin .add 3 (.tmp 32) (.const (.int .i64 1)) (.int .i64 (k : Int)) (.int .i64 1)) (fun _ => bin_add_nat (a := k) (b := 1) (by omega)),
                .pv (.int .i64 ((k + 1 : Nat) : Int))])
              (fun ηq25 L => L) (by kernel_rfl) OW (fun _ => by kernel_rfl) ?_
            clear OW; intro ηq25 ysq25 Wq25 OW
            simp only [↓putE_cons, ↓putE_nil, valE, Hint.val, Act.put, List.setIfInBounds_toArray, List.set_cons_succ, List.set_cons_zero]
            gi_wp2
            go_roundw
            case rel => exact ⟨k + 1, by omega, by go_num, (by skip; exact OwnS.cast OW.out (by kernel_rfl))⟩
            case measure => (simp [intOf] <;> omega)
      have hB13 := (Bool.and_true _).symm.trans hB13
      have dhB13 := of_decide_eq_false hB13
      obtain rfl : k = 8 := by omega
      gi_upto_region 16 with fail
      refine wpIn_region_re 3 (fun ηq26 => [.pv (.int .i64 0)])
        (fun ηq26 L => L) (by kernel_rfl) OW (fun _ => by kernel_rfl) ?_
      clear OW; intro ηq26 ysq26 Wq26 OW
      simp only [↓putE_cons, ↓putE_nil, valE, Hint.val, Act.put, List.setIfInBounds_toArray, List.set_cons_succ, List.set_cons_zero]
      gi_wp2
      gi_loopw [16] (fun z16 wr => ∃ j : Nat, j ≤ 2 ∧ z16 = .int .i64 (j : Int) ∧ OwnS [] w [((ηq1 0).blk 0, Obj.cells (rB 72 (encT 9 (eW1 l x p) 8)).toArray 26 (0, 0)), ((ηq1 1).blk 0, Obj.cells (rB 64 l).toArray 22 (0, 0)), ((ηq6 1).blk 0, Obj.cells (rB 74 colsB).toArray 74 (0, 0))] wr) (fun z16 _ => 2 - (intOf (z16)).toNat)
      case atStart => exact ⟨0, by omega, rfl, (by skip; exact OwnS.cast OW.out (by kernel_rfl))⟩
      case round =>
        obtain ⟨j, hk28, rfl, hO⟩ := hrel
        clear OW
        have OW := Lib.hid hO
        clear hO
        gi_upto_region 17 with fail
        refine wpIn_region_re 3 (fun ηq30 => [.pv (.int .i64 (j : Int)),
            .pv (.bool (decide ((j : Int) < 2))),
            .pv (.bool (decide ((j : Int) < 2))),
            .pv (.int .i64 1),
            .pv (.bool false),
            .pk (.bool ((decide ((j : Int) < 2)) && false))])
          (fun ηq30 L => L) (by kernel_rfl) OW (fun _ => by kernel_rfl) ?_
        clear OW; intro ηq30 ysq30 Wq30 OW
        simp only [↓putE_cons, ↓putE_nil, valE, Hint.val, Act.put, List.setIfInBounds_toArray, List.set_cons_succ, List.set_cons_zero]
        cases hB31 : ((decide ((j : Int) < 2)) && false)
        case true => exact absurd (hB31.symm.trans (show _ = false from Bool.and_false _)) (by decide)
        case false =>
          gi_upto_region 28 with fail
          refine wpIn_region_re 3 (fun ηq32 => [.pv (.bool true)])
            (fun ηq32 L => L) (by kernel_rfl) OW (fun _ => by kernel_rfl) ?_
          clear OW; intro ηq32 ysq32 Wq32 OW
          simp only [↓putE_cons, ↓putE_nil, valE, Hint.val, Act.put, List.setIfInBounds_toArray, List.set_cons_succ, List.set_cons_zero]
          gi_wp2
          exact leavesS OW [.t (.bool true)] (by kernel_rfl) fun hO => ⟨(by rfl), hO.done⟩
theorem rend1_any (l : List UInt8) (hl : l.length = 64) (x : Int) (h0 : -9223372036854775808 ≤ x) (h1 : x ≤ 9223372036854775807) (p : Bool) (w : World) : Calls Try.prog 15 #[.int .i64 1, .agg (rB 72 (encT 9 (eW1 l x p) 8)).toArray, .agg (rB 64 l).toArray, .int .i64 x, .bool p] w fun e w' => e = .returned (.bool true) ∧ Below w.heap.size w w' := rend1q_any l hl x h0 h1 p p rfl w
end Go.Proofs.Ytkeheickaogpiaa
