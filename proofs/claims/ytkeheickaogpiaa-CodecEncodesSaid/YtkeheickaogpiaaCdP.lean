/- The reference's encoding, of bits. -/
import Derived.Test.YtkeheickaogpiaaCdO
import Derived.Test.YtkeheickaogpiaaCmX
import Derived.WalkKit
import Derived.Sort.CutIn
import Derived.IntWalk
namespace Go.Proofs.Ytkeheickaogpiaa
open Go Go.RowKit Go.Shelf
attribute [local go_sem] Oper.semAt_some
set_option linter.unusedVariables false
set_option linter.unusedSimpArgs false


/-- The bytes of the code of bits. -/
def e1B (l : List UInt8) (x : Int) (p : Bool) (s : Nat) : UInt8 := (eW1 l x p (s / 9)).getD (s % 9) 0
theorem e1_lo {l : List UInt8} {x : Int} {p : Bool} {k i : Nat} (hi : i < 8) : e1B l x p (9 * k + i) = l.getD (8 * k + i) 0 := by
  unfold e1B
  rw [show (9 * k + i) / 9 = k by omega, show (9 * k + i) % 9 = i by omega, eW1_lo8 hi]
  apply UInt8.toNat_inj.1
  rw [UInt8.toNat_ofNat', ← numO_val hi]
theorem e1_hi {l : List UInt8} {x : Int} {p : Bool} {k : Nat} : e1B l x p (9 * k + 8) = rsyn (numO l (8 * k) 8) 0 ((pc (u64N x % 8388608) % 2 : Nat) : Int) (dflag_0 p) := by
  unfold e1B
  rw [show (9 * k + 8) / 9 = k by omega, show (9 * k + 8) % 9 = 8 by omega, eW1_hi]
  unfold hck rsyn
  rw [lo_u64]
  show _ = UInt8.ofNat (_ ^^^ 0)
  rw [Nat.xor_zero]
  rfl
theorem e1_full (l : List UInt8) (x : Int) (p : Bool) : fillL 72 (e1B l x p) (9 * 8) = encT 9 (eW1 l x p) 8 := by
  have hl := encT_len (n := 9) (eW1_len l x p) (k := 8) (by decide)
  refine list_ext (by rw [fillL_len, hl]) fun s hs => ?_
  rw [fillL_len] at hs
  show (fillL 72 (e1B l x p) (9 * 8)).getD s 0 = (encT 9 (eW1 l x p) 8).getD s 0
  rw [fillL_get hs, if_pos hs]
  have h := encT_get (eW1_len l x p) (n := 8) (k := s / 9) (j := s % 9) (by omega) (by omega)
  rw [show 9 * (s / 9) + s % 9 = s by omega] at h
  rw [h]
  rfl
set_option maxRecDepth 100000 in
set_option maxHeartbeats 1000000 in
theorem renc1_any (l : List UInt8) (hl : l.length = 64) (x : Int) (h0 : -9223372036854775808 ≤ x) (h1 : x ≤ 9223372036854775807) (p : Bool) (w : World) : Calls Try.prog 16 #[.int .i64 1, .agg (rB 64 l).toArray, .int .i64 x, .bool p] w fun e w' => e = .returned (.agg (rB 72 (encT 9 (eW1 l x p) 8)).toArray) ∧ Below w.heap.size w w' := by
  have HU := u64N_lt x
  have HPL := pc_le (u64N x % 8388608)
  have H : Has [] w := has_nil
  have OW : Hid (OwnS [] w [] w) := Lib.hid (OwnS.start H)
  refine (callsIn_wide (n := 6)).1 ?_
  refine callsIn_of_wp_marks Try.func16 rfl trivial ?_ rfl
  simp only [Try.ntmps16, List.size_toArray, List.length_cons, List.length_nil, Nat.reduceAdd, Nat.reduceSub, Array.replicate_succ, Array.replicate_zero, List.push_toArray, List.append_toArray, List.nil_append, List.cons_append]
  gi_upto_region 0 with fail
  refine wpIn_region_re 2 (fun ηq1 => [.bx 0 22 (.agg (rB 64 l).toArray),
      .al 1 26 (rB 72 (List.replicate 72 0)).toArray])
    (fun ηq1 L => L ++ [((ηq1 0).blk 0, Obj.cells (rB 64 l).toArray 22 (0, 0)), ((ηq1 1).blk 0, Obj.cells (rB 72 (List.replicate 72 0)).toArray 26 (0, 0))]) (by kernel_rfl) OW (fun _ => by kernel_rfl) ?_
  clear OW; intro ηq1 ysq1 Wq1 OW
  simp only [↓putE_cons, ↓putE_nil, valE, Hint.val, Act.put, List.setIfInBounds_toArray, List.set_cons_succ, List.set_cons_zero]
  gi_upto_region 1 with fail
  refine wpIn_region_re 3 (fun ηq2 => [.al 2 26 (rB 72 (List.replicate 72 0)).toArray])
    (fun ηq2 L => L ++ [((ηq2 0).blk 0, Obj.cells (rB 72 (List.replicate 72 0)).toArray 26 (0, 0))]) (by kernel_rfl) OW (fun _ => by kernel_rfl) ?_
  clear OW; intro ηq2 ysq2 Wq2 OW
  simp only [↓putE_cons, ↓putE_nil, valE, Hint.val, Act.put, List.setIfInBounds_toArray, List.set_cons_succ, List.set_cons_zero]
  gi_upto_region 2 with fail
  refine wpIn_region_re 3 (fun ηq3 => [.pv (.int .i64 0)])
    (fun ηq3 L => L) (by kernel_rfl) OW (fun _ => by kernel_rfl) ?_
  clear OW; intro ηq3 ysq3 Wq3 OW
  simp only [↓putE_cons, ↓putE_nil, valE, Hint.val, Act.put, List.setIfInBounds_toArray, List.set_cons_succ, List.set_cons_zero]
  gi_upto_region 3 with fail
  refine wpIn_region_re 3 (fun ηq4 => [.pv (.bool p)])
    (fun ηq4 L => L) (by kernel_rfl) OW (fun _ => by kernel_rfl) ?_
  clear OW; intro ηq4 ysq4 Wq4 OW
  simp only [↓putE_cons, ↓putE_nil, valE, Hint.val, Act.put, List.setIfInBounds_toArray, List.set_cons_succ, List.set_cons_zero]
  gi_upto_if 22 with fail
  gi_cut [10, 3] from 22 (fun s10 s3 wx => s10 = .int .i64 (dflag_0 p) ∧ s3 = .bool p ∧ OwnS [] w [((ηq1 0).blk 0, Obj.cells (rB 64 l).toArray 22 (0, 0)), ((ηq1 1).blk 0, Obj.cells (rB 72 (List.replicate 72 0)).toArray 26 (0, 0)), ((ηq2 0).blk 0, Obj.cells (rB 72 (List.replicate 72 0)).toArray 26 (0, 0))] wx)
  case first =>
    cases hB5 : (p)
    case true =>
      gi_upto_region 4 with fail
      refine wpIn_region_re 3 (fun ηq6 => [.pv (.int .i64 1)])
        (fun ηq6 L => L) (by kernel_rfl) OW (fun _ => by kernel_rfl) ?_
      clear OW; intro ηq6 ysq6 Wq6 OW
      simp only [↓putE_cons, ↓putE_nil, valE, Hint.val, Act.put, List.setIfInBounds_toArray, List.set_cons_succ, List.set_cons_zero]
      gi_wp2_with fail
      gi_meet
      exact ⟨(by (try simp only [dflag_0]); (repeat (first | rw [hB5] | rw [cond_true] | rw [cond_false])); try rfl), (by (try simp only [dflag_0]); (repeat (first | rw [hB5] | rw [cond_true] | rw [cond_false])); try rfl), OwnS.cast OW.out (by kernel_rfl)⟩
    gi_wp2_with fail
    gi_meet
    exact ⟨(by (try simp only [dflag_0]); (repeat (first | rw [hB5] | rw [cond_true] | rw [cond_false])); try rfl), (by (try simp only [dflag_0]); (repeat (first | rw [hB5] | rw [cond_true] | rw [cond_false])); try rfl), OwnS.cast OW.out (by kernel_rfl)⟩
  case rest =>
    obtain ⟨rfl, rfl, hO⟩ := hcut
    clear OW; have OW := Lib.hid hO; clear hO
    gi_upto_region 5 with fail
    refine wpIn_region_re 4 (fun ηq7 => [.cl 35 #[] (fun E => .agg (rB 74 colsB).toArray) [] [] (fun E => []) (enters_of Try.func35 (by kernel_rfl) rfl) (fun w' H => cB (callsIn_wide.2 (rcols_any w'))),
        .al 3 74 (rB 74 (List.replicate 74 0)).toArray,
        .ss 3 ((ηq7 1).blk 0) 0 74 (rB 74 colsB) (rB 74 colsB).toArray])
      (fun ηq7 L => L ++ [((ηq7 1).blk 0, Obj.cells (rB 74 colsB).toArray 74 (0, 0))]) (by kernel_rfl) OW (fun _ => by kernel_rfl) ?_
    clear OW; intro ηq7 ysq7 Wq7 OW
    simp only [↓putE_cons, ↓putE_nil, valE, Hint.val, Act.put, List.setIfInBounds_toArray, List.set_cons_succ, List.set_cons_zero]
    gi_upto_region 6 with fail
    refine wpIn_region_re 4 (fun ηq8 => [.pv (.int .i64 x),
        .tv (.int .u64 ((u64N x : Nat) : Int)) (convert 3 54 (.int .i64 x)) (fun _ => cvt_i64w Try.underlying3 Try.underlying54),
        .tv (.int .u64 (((u64N x) % 8388608 : Nat) : Int)) (sBin .rem 54 (.tmp 25) (.const (.int .u64 8388608)) (.int .u64 ((u64N x : Nat) : Int)) (.int .u64 8388608)) (fun _ => bin_rem_u64 (a := u64N x) (d := 8388608) (by decide)),
        .cl 36 #[.int .u64 (((u64N x) % 8388608 : Nat) : Int)] (fun E => .int .i64 ((pc ((u64N x) % 8388608) : Nat) : Int)) [] [] (fun E => []) (enters_of Try.func36 (by kernel_rfl) rfl) (fun w' H => cB (callsIn_wide.2 (rweight_any ((u64N x) % 8388608) (by omega) w'))),
        .tv (.int .i64 (((pc ((u64N x) % 8388608)) % 2 : Nat) : Int)) (sBin .rem 3 (.tmp 27) (.const (.int .i64 2)) (.int .i64 ((pc ((u64N x) % 8388608) : Nat) : Int)) (.int .i64 2)) (fun _ => bin_rem_i64 (a := pc ((u64N x) % 8388608)) (d := 2) (by decide)),
        .pv (.int .i64 (((pc ((u64N x) % 8388608)) % 2 : Nat) : Int))])
      (fun ηq8 L => L) (by kernel_rfl) OW (fun _ => by kernel_rfl) ?_
    clear OW; intro ηq8 ysq8 Wq8 OW
    simp only [↓putE_cons, ↓putE_nil, valE, Hint.val, Act.put, List.setIfInBounds_toArray, List.set_cons_succ, List.set_cons_zero]
    gi_upto_region 7 with fail
    refine wpIn_region_re 4 (fun ηq9 => [.pv (.int .i64 0)])
      (fun ηq9 L => L) (by kernel_rfl) OW (fun _ => by kernel_rfl) ?_
    clear OW; intro ηq9 ysq9 Wq9 OW
    simp only [↓putE_cons, ↓putE_nil, valE, Hint.val, Act.put, List.setIfInBounds_toArray, List.set_cons_succ, List.set_cons_zero]
    gi_wp2
    gi_loopw [13] (fun z13 wr => ∃ k : Nat, k ≤ 8 ∧ z13 = .int .i64 (k : Int) ∧ OwnS [] w [((ηq1 0).blk 0, Obj.cells (rB 64 l).toArray 22 (0, 0)), ((ηq1 1).blk 0, Obj.cells (rB 72 (List.replicate 72 0)).toArray 26 (0, 0)), ((ηq2 0).blk 0, Obj.cells (rB 72 (fillL 72 (e1B l x p) (9 * k))).toArray 26 (0, 0)), ((ηq7 1).blk 0, Obj.cells (rB 74 colsB).toArray 74 (0, 0))] wr) (fun z13 _ => 8 - (intOf (z13)).toNat)
    case atStart => exact ⟨0, by omega, rfl, (by rw [Nat.mul_zero, fillL_zero]; exact OwnS.cast OW.out (by kernel_rfl))⟩
    case round =>
      obtain ⟨k, hk11, rfl, hO⟩ := hrel
      clear OW
      have HNO := numO_lt64 l (8 * k) (k := 8) (by decide)
      have OW := Lib.hid hO
      clear hO
      gi_upto_region 8 with fail
      refine wpIn_region_re 4 (fun ηq13 => [.pv (.int .i64 (k : Int)),
          .pv (.bool (decide ((k : Int) < 8))),
          .pv (.bool (decide ((k : Int) < 8))),
          .pv (.int .i64 1),
          .pv (.bool true),
          .pk (.bool ((decide ((k : Int) < 8)) && true))])
        (fun ηq13 L => L) (by kernel_rfl) OW (fun _ => by kernel_rfl) ?_
      clear OW; intro ηq13 ysq13 Wq13 OW
      simp only [↓putE_cons, ↓putE_nil, valE, Hint.val, Act.put, List.setIfInBounds_toArray, List.set_cons_succ, List.set_cons_zero]
      cases hB14 : ((decide ((k : Int) < 8)) && true)
      case true =>
        have hB14 := (Bool.and_true _).symm.trans hB14
        have dhB14 := of_decide_eq_true hB14
        gi_upto_region 10 with fail
        refine wpIn_region_re 4 (fun ηq15 => [.pv (.int .i64 0)])
          (fun ηq15 L => L) (by kernel_rfl) OW (fun _ => by kernel_rfl) ?_
        clear OW; intro ηq15 ysq15 Wq15 OW
        simp only [↓putE_cons, ↓putE_nil, valE, Hint.val, Act.put, List.setIfInBounds_toArray, List.set_cons_succ, List.set_cons_zero]
        gi_wp2
        gi_loopw [14] (fun z14 wr => ∃ i : Nat, i ≤ 8 ∧ z14 = .int .i64 (i : Int) ∧ OwnS [] w [((ηq1 0).blk 0, Obj.cells (rB 64 l).toArray 22 (0, 0)), ((ηq1 1).blk 0, Obj.cells (rB 72 (List.replicate 72 0)).toArray 26 (0, 0)), ((ηq2 0).blk 0, Obj.cells (rB 72 (fillL 72 (e1B l x p) (9 * k + i))).toArray 26 (0, 0)), ((ηq7 1).blk 0, Obj.cells (rB 74 colsB).toArray 74 (0, 0))] wr) (fun z14 _ => 8 - (intOf (z14)).toNat)
        case atStart => exact ⟨0, by omega, rfl, (by skip; exact OwnS.cast OW.out (by kernel_rfl))⟩
        case round =>
          obtain ⟨i, hk17, rfl, hO⟩ := hrel
          clear OW
          have OW := Lib.hid hO
          clear hO
          gi_upto_region 11 with fail
          refine wpIn_region_re 4 (fun ηq19 => [.pv (.int .i64 (i : Int)),
              .pv (.bool (decide ((i : Int) < 8)))])
            (fun ηq19 L => L) (by kernel_rfl) OW (fun _ => by kernel_rfl) ?_
          clear OW; intro ηq19 ysq19 Wq19 OW
          simp only [↓putE_cons, ↓putE_nil, valE, Hint.val, Act.put, List.setIfInBounds_toArray, List.set_cons_succ, List.set_cons_zero]
          cases hB20 : (decide ((i : Int) < 8))
          case true =>
            have dhB20 := of_decide_eq_true hB20
            gi_upto_region 13 with fail
            refine wpIn_region_re 4 (fun ηq21 => [.pv (.int .i64 (k : Int)),
                .tv (.int .i64 ((9 * k : Nat) : Int)) (sBin .mul 3 (.const (.int .i64 9)) (.tmp 41) (.int .i64 9) (.int .i64 (k : Int))) (fun _ => bin_mul_nat (a := 9) (b := k) (by omega)),
                .pv (.int .i64 (i : Int)),
                .tv (.int .i64 (((9 * k) + i : Nat) : Int)) (sBin .add 3 (.tmp 42) (.tmp 43) (.int .i64 ((9 * k : Nat) : Int)) (.int .i64 (i : Int))) (fun _ => bin_add_nat (a := 9 * k) (b := i) (by omega)),
                .pv (.int .i64 (k : Int)),
                .tv (.int .i64 ((8 * k : Nat) : Int)) (sBin .mul 3 (.const (.int .i64 8)) (.tmp 45) (.int .i64 8) (.int .i64 (k : Int))) (fun _ => bin_mul_nat (a := 8) (b := k) (by omega)),
                .pv (.int .i64 (i : Int)),
                .tv (.int .i64 (((8 * k) + i : Nat) : Int)) (sBin .add 3 (.tmp 46) (.tmp 47) (.int .i64 ((8 * k : Nat) : Int)) (.int .i64 (i : Int))) (fun _ => bin_add_nat (a := 8 * k) (b := i) (by omega)),
                .tv (.pointer (some ⟨(ηq1 0).blk 0, 0 + ((8 * k) + i) * 1, none⟩)) (Instr.indexAt 22 (.pointer (some ⟨(ηq1 0).blk 0, 0, none⟩)) (.int .i64 (((8 * k) + i : Nat) : Int))) (fun _ => idx_ar (N := 64) (k := (8 * k) + i) (by kernel_rfl) (by omega)),
                .lt (.int .u8 ((l.getD ((8 * k) + i) 0).toNat : Int)) 0 (0 + ((8 * k) + i) * 1) ((ηq1 0).blk 0) (rB 64 l).toArray 22 (by simpa only [Nat.zero_add, Nat.mul_one] using rB_get (by omega)),
                .tv (.pointer (some ⟨(ηq2 0).blk 0, 0 + ((9 * k) + i) * 1, none⟩)) (Instr.indexAt 26 (.pointer (some ⟨(ηq2 0).blk 0, 0, none⟩)) (.int .i64 (((9 * k) + i : Nat) : Int))) (fun _ => idx_ar (N := 72) (k := (9 * k) + i) (by kernel_rfl) (by omega)),
                .sw 2 ((ηq2 0).blk 0) (0 + ((9 * k) + i) * 1) 26 (.int .u8 ((l.getD ((8 * k) + i) 0).toNat : Int)) (rB 72 (fillL 72 (e1B l x p) (9 * k + i))).toArray (rB 72 ((fillL 72 (e1B l x p) (9 * k + i)).set ((9 * k) + i) (l.getD ((8 * k) + i) 0))).toArray (by rw [Nat.zero_add, Nat.mul_one]; exact rB_set (show (fillL 72 (e1B l x p) (9 * k + i)).length = 72 by first | rfl | (simp only [List.length_set, List.length_append, List.length_replicate, List.length_cons, List.length_nil, List.length_map, List.length_range, List.length_take, List.length_drop, fillL_len, colsB_len, hl]; done) | (simp only [List.length_set, List.length_append, List.length_replicate, List.length_cons, List.length_nil, List.length_map, List.length_range, List.length_take, List.length_drop, fillL_len, colsB_len, hl]; omega))) (by rw [Nat.zero_add, Nat.mul_one]; exact rL_lt (by omega))])
              (fun ηq21 L => L.set 2 ((ηq2 0).blk 0, Obj.cells (rB 72 ((fillL 72 (e1B l x p) (9 * k + i)).set ((9 * k) + i) (l.getD ((8 * k) + i) 0))).toArray 26 (0, 0))) (by kernel_rfl) OW (fun _ => by kernel_rfl) ?_
            clear OW; intro ηq21 ysq21 Wq21 OW
            simp only [↓putE_cons, ↓putE_nil, valE, Hint.val, Act.put, List.setIfInBounds_toArray, List.set_cons_succ, List.set_cons_zero]
            gi_upto_region 12 with fail
            refine wpIn_region_re 4 (fun ηq22 => [.pv (.int .i64 (i : Int)),
                .tv (.int .i64 ((i + 1 : Nat) : Int)) (sBin .add 3 (.tmp 39) (.const (.int .i64 1)) (.int .i64 (i : Int)) (.int .i64 1)) (fun _ => bin_add_nat (a := i) (b := 1) (by omega)),
                .pv (.int .i64 ((i + 1 : Nat) : Int))])
              (fun ηq22 L => L) (by kernel_rfl) OW (fun _ => by kernel_rfl) ?_
            clear OW; intro ηq22 ysq22 Wq22 OW
            simp only [↓putE_cons, ↓putE_nil, valE, Hint.val, Act.put, List.setIfInBounds_toArray, List.set_cons_succ, List.set_cons_zero]
            gi_wp2
            go_roundw
            case rel => exact ⟨i + 1, by omega, by go_num, (by rw [show 9 * k + (i + 1) = (9 * k + i) + 1 from rfl, ← fillL_set (show 9 * k + i < 72 by omega), e1_lo (by omega)]; exact OwnS.cast OW.out (by kernel_rfl))⟩
            case measure => (simp [intOf] <;> omega)
          have dhB20 := of_decide_eq_false hB20
          obtain rfl : i = 8 := by omega
          gi_upto_region 14 with fail
          refine wpIn_region_re 4 (fun ηq23 => [.pv (.int .i64 (k : Int)),
              .tv (.int .i64 ((9 * k : Nat) : Int)) (sBin .mul 3 (.const (.int .i64 9)) (.tmp 52) (.int .i64 9) (.int .i64 (k : Int))) (fun _ => bin_mul_nat (a := 9) (b := k) (by omega)),
              .tv (.int .i64 (((9 * k) + 8 : Nat) : Int)) (sBin .add 3 (.tmp 53) (.const (.int .i64 8)) (.int .i64 ((9 * k : Nat) : Int)) (.int .i64 8)) (fun _ => bin_add_nat (a := 9 * k) (b := 8) (by omega)),
              .ls (rB 74 colsB) 3 0,
              .ls (rB 64 l) 0 0,
              .pv (.int .i64 (k : Int)),
              .cl 38 #[.agg (rB 64 l).toArray, .int .i64 (k : Int)] (fun E => .int .u64 ((numO l (8 * k) 8 : Nat) : Int)) [] [] (fun E => []) (enters_of Try.func38 (by kernel_rfl) rfl) (fun w' H => cB (callsIn_wide.2 (rword_any l (by first | rfl | (simp only [List.length_set, List.length_append, List.length_replicate, List.length_cons, List.length_nil, List.length_map, List.length_range, List.length_take, List.length_drop, fillL_len, colsB_len, hl]; done) | (simp only [List.length_set, List.length_append, List.length_replicate, List.length_cons, List.length_nil, List.length_map, List.length_range, List.length_take, List.length_drop, fillL_len, colsB_len, hl]; omega)) k (by omega) w'))),
              .pv (.int .i64 (((pc ((u64N x) % 8388608)) % 2 : Nat) : Int)),
              .pv (.int .i64 (dflag_0 p)),
              .cl 37 #[.agg (rB 74 colsB).toArray, .int .u64 ((numO l (8 * k) 8 : Nat) : Int), .int .u8 0, .int .i64 (((pc ((u64N x) % 8388608)) % 2 : Nat) : Int), .int .i64 (dflag_0 p)] (fun E => .int .u8 ((rsyn (numO l (8 * k) 8) (0 : UInt8) (((pc ((u64N x) % 8388608)) % 2 : Nat) : Int) (dflag_0 p)).toNat : Int)) [] [] (fun E => []) (enters_of Try.func37 (by kernel_rfl) rfl) (fun w' H => cB (callsIn_wide.2 (rsyn_any (numO l (8 * k) 8) (by omega) (0 : UInt8) (((pc ((u64N x) % 8388608)) % 2 : Nat) : Int) (dflag_0 p) w'))),
              .tv (.pointer (some ⟨(ηq2 0).blk 0, 0 + ((9 * k) + 8) * 1, none⟩)) (Instr.indexAt 26 (.pointer (some ⟨(ηq2 0).blk 0, 0, none⟩)) (.int .i64 (((9 * k) + 8 : Nat) : Int))) (fun _ => idx_ar (N := 72) (k := (9 * k) + 8) (by kernel_rfl) (by omega)),
              .sw 2 ((ηq2 0).blk 0) (0 + ((9 * k) + 8) * 1) 26 (.int .u8 ((rsyn (numO l (8 * k) 8) (0 : UInt8) (((pc ((u64N x) % 8388608)) % 2 : Nat) : Int) (dflag_0 p)).toNat : Int)) (rB 72 (fillL 72 (e1B l x p) (9 * k + 8))).toArray (rB 72 ((fillL 72 (e1B l x p) (9 * k + 8)).set ((9 * k) + 8) (rsyn (numO l (8 * k) 8) (0 : UInt8) (((pc ((u64N x) % 8388608)) % 2 : Nat) : Int) (dflag_0 p)))).toArray (by rw [Nat.zero_add, Nat.mul_one]; exact rB_set (show (fillL 72 (e1B l x p) (9 * k + 8)).length = 72 by first | rfl | (simp only [List.length_set, List.length_append, List.length_replicate, List.length_cons, List.length_nil, List.length_map, List.length_range, List.length_take, List.length_drop, fillL_len, colsB_len, hl]; done) | (simp only [List.length_set, List.length_append, List.length_replicate, List.length_cons, List.length_nil, List.length_map, List.length_range, List.length_take, List.length_drop, fillL_len, colsB_len, hl]; omega))) (by rw [Nat.zero_add, Nat.mul_one]; exact rL_lt (by omega))])
            (fun ηq23 L => L.set 2 ((ηq2 0).blk 0, Obj.cells (rB 72 ((fillL 72 (e1B l x p) (9 * k + 8)).set ((9 * k) + 8) (rsyn (numO l (8 * k) 8) (0 : UInt8) (((pc ((u64N x) % 8388608)) % 2 : Nat) : Int) (dflag_0 p)))).toArray 26 (0, 0))) (by kernel_rfl) OW (fun _ => by kernel_rfl) ?_
          clear OW; intro ηq23 ysq23 Wq23 OW
          simp only [↓putE_cons, ↓putE_nil, valE, Hint.val, Act.put, List.setIfInBounds_toArray, List.set_cons_succ, List.set_cons_zero]
          gi_upto_region 9 with fail
          refine wpIn_region_re 4 (fun ηq24 => [.pv (.int .i64 (k : Int)),
              .tv (.int .i64 ((k + 1 : Nat) : Int)) (sBin .add 3 (.tmp 35) (.const (.int .i64 1)) (.int .i64 (k : Int)) (.int .i64 1)) (fun _ => bin_add_nat (a := k) (b := 1) (by omega)),
              .pv (.int .i64 ((k + 1 : Nat) : Int))])
            (fun ηq24 L => L) (by kernel_rfl) OW (fun _ => by kernel_rfl) ?_
          clear OW; intro ηq24 ysq24 Wq24 OW
          simp only [↓putE_cons, ↓putE_nil, valE, Hint.val, Act.put, List.setIfInBounds_toArray, List.set_cons_succ, List.set_cons_zero]
          gi_wp2
          go_roundw
          case rel => exact ⟨k + 1, by omega, by go_num, (by rw [show 9 * (k + 1) = (9 * k + 8) + 1 from rfl, ← fillL_set (show 9 * k + 8 < 72 by omega), e1_hi]; exact OwnS.cast OW.out (by kernel_rfl))⟩
          case measure => (simp [intOf] <;> omega)
      have hB14 := (Bool.and_true _).symm.trans hB14
      have dhB14 := of_decide_eq_false hB14
      obtain rfl : k = 8 := by omega
      gi_upto_region 15 with fail
      refine wpIn_region_re 4 (fun ηq25 => [.pv (.int .i64 0)])
        (fun ηq25 L => L) (by kernel_rfl) OW (fun _ => by kernel_rfl) ?_
      clear OW; intro ηq25 ysq25 Wq25 OW
      simp only [↓putE_cons, ↓putE_nil, valE, Hint.val, Act.put, List.setIfInBounds_toArray, List.set_cons_succ, List.set_cons_zero]
      gi_wp2
      gi_loopw [15] (fun z15 wr => ∃ j : Nat, j ≤ 2 ∧ z15 = .int .i64 (j : Int) ∧ OwnS [] w [((ηq1 0).blk 0, Obj.cells (rB 64 l).toArray 22 (0, 0)), ((ηq1 1).blk 0, Obj.cells (rB 72 (List.replicate 72 0)).toArray 26 (0, 0)), ((ηq2 0).blk 0, Obj.cells (rB 72 (fillL 72 (e1B l x p) (9 * 8))).toArray 26 (0, 0)), ((ηq7 1).blk 0, Obj.cells (rB 74 colsB).toArray 74 (0, 0))] wr) (fun z15 _ => 2 - (intOf (z15)).toNat)
      case atStart => exact ⟨0, by omega, rfl, (by skip; exact OwnS.cast OW.out (by kernel_rfl))⟩
      case round =>
        obtain ⟨j, hk27, rfl, hO⟩ := hrel
        clear OW
        have OW := Lib.hid hO
        clear hO
        gi_upto_region 16 with fail
        refine wpIn_region_re 4 (fun ηq29 => [.pv (.int .i64 (j : Int)),
            .pv (.bool (decide ((j : Int) < 2))),
            .pv (.bool (decide ((j : Int) < 2))),
            .pv (.int .i64 1),
            .pv (.bool false),
            .pk (.bool ((decide ((j : Int) < 2)) && false))])
          (fun ηq29 L => L) (by kernel_rfl) OW (fun _ => by kernel_rfl) ?_
        clear OW; intro ηq29 ysq29 Wq29 OW
        simp only [↓putE_cons, ↓putE_nil, valE, Hint.val, Act.put, List.setIfInBounds_toArray, List.set_cons_succ, List.set_cons_zero]
        cases hB30 : ((decide ((j : Int) < 2)) && false)
        case true => exact absurd (hB30.symm.trans (show _ = false from Bool.and_false _)) (by decide)
        case false =>
          gi_upto_region 34 with fail
          refine wpIn_region_re 4 (fun ηq31 => [.ls (rB 72 (fillL 72 (e1B l x p) (9 * 8))) 2 0,
              .ss 1 ((ηq1 1).blk 0) 0 26 (rB 72 (fillL 72 (e1B l x p) (9 * 8))) (rB 72 (fillL 72 (e1B l x p) (9 * 8))).toArray])
            (fun ηq31 L => L.set 1 ((ηq1 1).blk 0, Obj.cells (rB 72 (fillL 72 (e1B l x p) (9 * 8))).toArray 26 (0, 0))) (by kernel_rfl) OW (fun _ => by kernel_rfl) ?_
          clear OW; intro ηq31 ysq31 Wq31 OW
          simp only [↓putE_cons, ↓putE_nil, valE, Hint.val, Act.put, List.setIfInBounds_toArray, List.set_cons_succ, List.set_cons_zero]
          gi_wp2
          exact leavesS OW [.s (rB 72 (fillL 72 (e1B l x p) (9 * 8))) 1] (by kernel_rfl) fun hO => ⟨(by rw [← e1_full]; rfl), hO.done⟩
end Go.Proofs.Ytkeheickaogpiaa
