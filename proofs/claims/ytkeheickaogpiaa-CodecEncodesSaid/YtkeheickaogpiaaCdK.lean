/- The reference's words: columns, syndromes, weights, numbers. -/
import Derived.Test.YtkeheickaogpiaaCdJ
import Derived.Test.YtkeheickaogpiaaCmY
import Derived.WalkKit
import Derived.Sort.CutIn
import Derived.IntWalk
namespace Go.Proofs.Ytkeheickaogpiaa
open Go Go.RowKit Go.Shelf
attribute [local go_sem] Oper.semAt_some
set_option linter.unusedVariables false
set_option linter.unusedSimpArgs false


/-- The columns, as bytes. -/
def colsB : List UInt8 := (List.range 74).map fun i => UInt8.ofNat (Hs.col i)
theorem colsB_len : colsB.length = 74 := by unfold colsB; rw [List.length_map, List.length_range]
theorem colsV_rB : Hs.colsV = (rB 74 colsB).toArray := by
  unfold Hs.colsV Hs.colsAt
  rw [rB_raw colsB_len]
  unfold rawV colsB
  rw [show 74 - 74 = 0 from rfl, List.replicate_zero, List.append_nil, List.map_map]
  refine congrArg List.toArray (List.map_congr_left fun i _ => ?_)
  show Value.int .u8 (Hs.col i : Int) = Value.int .u8 ((UInt8.ofNat (Hs.col i)).toNat : Int)
  rw [UInt8.toNat_ofNat', Nat.mod_eq_of_lt (Hs.col_lt i)]
theorem rcols_any (w : World) : Calls Try.prog 35 #[] w fun e w' => e = .returned (.agg (rB 74 colsB).toArray) ∧ Below w.heap.size w w' := by
  rw [← colsV_rB]; exact Hs.refColumns_any w
def rsyn (d : Nat) (k : UInt8) (a p : Int) : UInt8 := UInt8.ofNat (Hs.chk d (Hs.low a) (Hs.low p) ^^^ k.toNat)
theorem rsyn_nat (d : Nat) (k : UInt8) (a p : Int) : (rsyn d k a p).toNat = Hs.chk d (Hs.low a) (Hs.low p) ^^^ k.toNat := by
  unfold rsyn
  rw [UInt8.toNat_ofNat']
  exact Nat.mod_eq_of_lt (Nat.xor_lt_two_pow (n := 8) (Hs.chk_lt _ _ _) k.toNat_lt)
theorem rsyn_any (d : Nat) (hd : d < 18446744073709551616) (k : UInt8) (a p : Int) (w : World) : Calls Try.prog 37 #[.agg (rB 74 colsB).toArray, .int .u64 (d : Int), .int .u8 (k.toNat : Int), .int .i64 a, .int .i64 p] w fun e w' => e = .returned (.int .u8 ((rsyn d k a p).toNat : Int)) ∧ Below w.heap.size w w' := by
  rw [← colsV_rB, rsyn_nat]; exact Hs.refSyndrome_any d k.toNat hd k.toNat_lt a p w
theorem half_go {n j N : Nat} (hn : n < 2 ^ N) (h : (0 : Int) < ((n / 2 ^ j : Nat) : Int)) : j + 1 ≤ N := by
  rcases Nat.lt_or_ge j N with h8 | h8
  · omega
  · have h1 : 2 ^ N ≤ 2 ^ j := Nat.pow_le_pow_right (by omega) h8
    have h2 : n / 2 ^ j = 0 := Nat.div_eq_of_lt (by omega)
    omega
theorem half_dec {n j : Nat} (h : (0 : Int) < ((n / 2 ^ j : Nat) : Int)) : n / 2 ^ j / 2 < n / 2 ^ j := Nat.div_lt_self (Int.natCast_pos.1 h) (by decide)
theorem half_suc (n j : Nat) : n / 2 ^ j / 2 = n / 2 ^ (j + 1) := by rw [Nat.pow_succ, Nat.div_div_eq_div_mul]
theorem pcTo_suc (n j : Nat) : pcTo j n + n / 2 ^ j % 2 = pcTo (j + 1) n := by
  have h := pcTo_split j 1 n
  rw [pcTo_low] at h
  rw [h]
  rfl
theorem pc_done {n j : Nat} (hn : n < 2 ^ 64) (hj : j ≤ 64) (h : ¬ (0 : Int) < ((n / 2 ^ j : Nat) : Int)) : pcTo j n = pc n := by
  have h0 : n / 2 ^ j = 0 := Nat.eq_zero_of_not_pos fun h6 => h (Int.natCast_pos.2 h6)
  have h1 : n < 2 ^ j := (Nat.div_eq_zero_iff_lt (Nat.two_pow_pos j)).1 h0
  exact pcTo_eq j n h1 hj
set_option maxRecDepth 100000 in
set_option maxHeartbeats 1000000 in
theorem rweight_any (n : Nat) (hn : n < 18446744073709551616) (w : World) : Calls Try.prog 36 #[.int .u64 (n : Int)] w fun e w' => e = .returned (.int .i64 ((pc n : Nat) : Int)) ∧ Below w.heap.size w w' := by
  have H : Has [] w := has_nil
  have OW : Hid (OwnS [] w [] w) := Lib.hid (OwnS.start H)
  refine (callsIn_wide (n := 6)).1 ?_
  refine callsIn_of_wp_marks Try.func36 rfl trivial ?_ rfl
  simp only [Try.ntmps36, List.size_toArray, List.length_cons, List.length_nil, Nat.reduceAdd, Nat.reduceSub, Array.replicate_succ, Array.replicate_zero, List.push_toArray, List.append_toArray, List.nil_append, List.cons_append]
  gi_upto_region 0 with fail
  refine wpIn_region_re 0 (fun ηq1 => [.pv (.int .i64 0)])
    (fun ηq1 L => L) (by kernel_rfl) OW (fun _ => by kernel_rfl) ?_
  clear OW; intro ηq1 ysq1 Wq1 OW
  simp only [↓putE_cons, ↓putE_nil, valE, Hint.val, Act.put, List.setIfInBounds_toArray, List.set_cons_succ, List.set_cons_zero]
  gi_upto_region 1 with fail
  refine wpIn_region_re 0 (fun ηq2 => [.pv (.int .i64 0)])
    (fun ηq2 L => L) (by kernel_rfl) OW (fun _ => by kernel_rfl) ?_
  clear OW; intro ηq2 ysq2 Wq2 OW
  simp only [↓putE_cons, ↓putE_nil, valE, Hint.val, Act.put, List.setIfInBounds_toArray, List.set_cons_succ, List.set_cons_zero]
  gi_wp2
  gi_loopw [0, 3] (fun z0 z3 wr => ∃ j : Nat, j ≤ 64 ∧ z0 = .int .u64 ((n / 2 ^ j : Nat) : Int) ∧ z3 = .int .i64 ((pcTo j n : Nat) : Int) ∧ OwnS [] w [] wr) (fun z0 z3 _ => (intOf z0).toNat)
  case atStart => exact ⟨0, by omega, by rw [Nat.pow_zero, Nat.div_one], rfl, (by skip; exact OwnS.cast OW.out (by kernel_rfl))⟩
  case round =>
    obtain ⟨j, hk4, rfl, rfl, hO⟩ := hrel
    clear OW
    have HD : n / 2 ^ j < 18446744073709551616 := Nat.lt_of_le_of_lt (Nat.div_le_self _ _) hn
    have HP := pcTo_le j n
    have HJ := hk4
    have OW := Lib.hid hO
    clear hO
    gi_upto_region 2 with fail
    refine wpIn_region_re 0 (fun ηq6 => [.pv (.int .u64 ((n / 2 ^ j : Nat) : Int)),
        .pv (.bool (decide (0 < ((n / 2 ^ j : Nat) : Int))))])
      (fun ηq6 L => L) (by kernel_rfl) OW (fun _ => by kernel_rfl) ?_
    clear OW; intro ηq6 ysq6 Wq6 OW
    simp only [↓putE_cons, ↓putE_nil, valE, Hint.val, Act.put, List.setIfInBounds_toArray, List.set_cons_succ, List.set_cons_zero]
    cases hB7 : (decide (0 < ((n / 2 ^ j : Nat) : Int)))
    case true =>
      have dhB7 := of_decide_eq_true hB7
      gi_upto_region 3 with fail
      refine wpIn_region_re 0 (fun ηq8 => [.pv (.int .i64 ((pcTo j n : Nat) : Int)),
          .pv (.int .u64 ((n / 2 ^ j : Nat) : Int)),
          .tv (.int .u64 (((n / 2 ^ j) % 2 : Nat) : Int)) (sBin .rem 54 (.tmp 7) (.const (.int .u64 2)) (.int .u64 ((n / 2 ^ j : Nat) : Int)) (.int .u64 2)) (fun _ => bin_rem_u64 (a := n / 2 ^ j) (d := 2) (by decide)),
          .tv (.int .i64 (((n / 2 ^ j) % 2 : Nat) : Int)) (convert 54 3 (.int .u64 (((n / 2 ^ j) % 2 : Nat) : Int))) (fun _ => cvt_u64i Try.underlying54 Try.underlying3 (by omega)),
          .tv (.int .i64 (((pcTo j n) + ((n / 2 ^ j) % 2) : Nat) : Int)) (sBin .add 3 (.tmp 6) (.tmp 9) (.int .i64 ((pcTo j n : Nat) : Int)) (.int .i64 (((n / 2 ^ j) % 2 : Nat) : Int))) (fun _ => bin_add_nat (a := pcTo j n) (b := (n / 2 ^ j) % 2) (by omega)),
          .pv (.int .i64 (((pcTo j n) + ((n / 2 ^ j) % 2) : Nat) : Int))])
        (fun ηq8 L => L) (by kernel_rfl) OW (fun _ => by kernel_rfl) ?_
      clear OW; intro ηq8 ysq8 Wq8 OW
      simp only [↓putE_cons, ↓putE_nil, valE, Hint.val, Act.put, List.setIfInBounds_toArray, List.set_cons_succ, List.set_cons_zero]
      gi_upto_region 4 with fail
      refine wpIn_region_re 0 (fun ηq9 => [.pv (.int .u64 ((n / 2 ^ j : Nat) : Int)),
          .tv (.int .u64 (((n / 2 ^ j) / 2 : Nat) : Int)) (sBin .quo 54 (.tmp 11) (.const (.int .u64 2)) (.int .u64 ((n / 2 ^ j : Nat) : Int)) (.int .u64 2)) (fun _ => bin_quo_u64 (a := n / 2 ^ j) (d := 2) (by decide) (by omega)),
          .pv (.int .u64 (((n / 2 ^ j) / 2 : Nat) : Int))])
        (fun ηq9 L => L) (by kernel_rfl) OW (fun _ => by kernel_rfl) ?_
      clear OW; intro ηq9 ysq9 Wq9 OW
      simp only [↓putE_cons, ↓putE_nil, valE, Hint.val, Act.put, List.setIfInBounds_toArray, List.set_cons_succ, List.set_cons_zero]
      gi_wp2
      have HME := half_dec (n := n) (j := j) (by assumption)
      go_roundw
      case rel => exact ⟨j + 1, half_go (n := n) (N := 64) hn (by assumption), by rw [half_suc], by rw [← pcTo_suc], (by skip; exact OwnS.cast OW.out (by kernel_rfl))⟩
      case measure => exact HME
    have dhB7 := of_decide_eq_false hB7
    gi_upto_region 5 with fail
    have HPD := Lib.hid (pc_done (n := n) (j := j) hn HJ (by assumption))
    refine wpIn_region_re 0 (fun ηq10 => [.pv (.int .i64 ((pcTo j n : Nat) : Int)),
        .pv (.int .i64 ((pcTo j n : Nat) : Int))])
      (fun ηq10 L => L) (by kernel_rfl) OW (fun _ => by kernel_rfl) ?_
    clear OW; intro ηq10 ysq10 Wq10 OW
    simp only [↓putE_cons, ↓putE_nil, valE, Hint.val, Act.put, List.setIfInBounds_toArray, List.set_cons_succ, List.set_cons_zero]
    gi_wp2
    exact leavesS OW [.t (.int .i64 ((pcTo j n : Nat) : Int))] (by kernel_rfl) fun hO => ⟨(by rw [← HPD.out]; rfl), hO.done⟩
/-- A number of 8 bytes, from above. -/
def hN (xs : List UInt8) (a : Nat) : Nat → Nat
  | 0 => 0
  | k + 1 => 256 * hN xs a k + (xs.getD (a + (7 - k)) 0).toNat
theorem hN_lt (xs : List UInt8) (a : Nat) : ∀ k, hN xs a k < 256 ^ k
  | 0 => Nat.one_pos
  | k + 1 => by
    have h1 := hN_lt xs a k
    have h2 := (xs.getD (a + (7 - k)) 0).toNat_lt
    rw [hN, Nat.pow_succ]
    omega
theorem hN_bd (xs : List UInt8) (a : Nat) {k : Nat} (hk : k < 8) : 256 * hN xs a k + 255 < 18446744073709551616 := by
  have h1 := hN_lt xs a k
  have h2 : 256 ^ k ≤ 256 ^ 7 := Nat.pow_le_pow_right (by decide) (by omega)
  have h3 : (256 : Nat) ^ 7 = 72057594037927936 := by decide
  omega
theorem hN_num (xs : List UInt8) (a : Nat) : ∀ k, k ≤ 8 → hN xs a k * 256 ^ (8 - k) + numO xs a (8 - k) = numO xs a 8
  | 0, _ => by rw [hN, Nat.zero_mul, Nat.zero_add]
  | k + 1, h => by
    rw [← hN_num xs a k (by omega), hN, show 8 - k = (8 - (k + 1)) + 1 by omega, numO_add, show a + (7 - k) = a + (8 - (k + 1)) by omega, Nat.pow_succ]
    generalize 256 ^ (8 - (k + 1)) = P
    generalize (xs.getD (a + (8 - (k + 1))) 0).toNat = B
    generalize hN xs a k = H
    generalize numO xs a (8 - (k + 1)) = Q
    rw [Nat.add_mul, Nat.mul_comm 256 H, Nat.mul_assoc H, Nat.mul_comm 256 P, Nat.mul_comm B P, Nat.add_assoc, Nat.add_comm (P * B)]
theorem hN_8 (xs : List UInt8) (a : Nat) : hN xs a 8 = numO xs a 8 := by
  have h := hN_num xs a 8 (Nat.le_refl 8)
  rw [Nat.sub_self, Nat.pow_zero, Nat.mul_one] at h
  exact h
theorem down_idx {P : Program} {T : TypeId} {x y : Operand} {w : World} {a k : Nat} (hk : k ≤ 7) (ha : a < 1000) : (sBin .add T x y (.int .i64 (a : Int)) (.int .i64 (7 - (k : Int)))).run P w = .ok (.int .i64 ((a + (7 - k) : Nat) : Int)) w := by
  rw [show ((a + (7 - k) : Nat) : Int) = (a : Int) + (7 - (k : Int)) by omega]
  exact bin_add_in (by omega) (by omega)
set_option maxRecDepth 100000 in
set_option maxHeartbeats 1000000 in
theorem rword_any (l : List UInt8) (hl : l.length = 64) (q : Nat) (hq : q < 8) (w : World) : Calls Try.prog 38 #[.agg (rB 64 l).toArray, .int .i64 (q : Int)] w fun e w' => e = .returned (.int .u64 ((numO l (8 * q) 8 : Nat) : Int)) ∧ Below w.heap.size w w' := by
  have H : Has [] w := has_nil
  have OW : Hid (OwnS [] w [] w) := Lib.hid (OwnS.start H)
  refine (callsIn_wide (n := 6)).1 ?_
  refine callsIn_of_wp_marks Try.func38 rfl trivial ?_ rfl
  simp only [Try.ntmps38, List.size_toArray, List.length_cons, List.length_nil, Nat.reduceAdd, Nat.reduceSub, Array.replicate_succ, Array.replicate_zero, List.push_toArray, List.append_toArray, List.nil_append, List.cons_append]
  gi_upto_region 0 with fail
  refine wpIn_region_re 1 (fun ηq1 => [.bx 0 22 (.agg (rB 64 l).toArray),
      .pv (.int .u64 0)])
    (fun ηq1 L => L ++ [((ηq1 0).blk 0, Obj.cells (rB 64 l).toArray 22 (0, 0))]) (by kernel_rfl) OW (fun _ => by kernel_rfl) ?_
  clear OW; intro ηq1 ysq1 Wq1 OW
  simp only [↓putE_cons, ↓putE_nil, valE, Hint.val, Act.put, List.setIfInBounds_toArray, List.set_cons_succ, List.set_cons_zero]
  gi_upto_region 1 with fail
  refine wpIn_region_re 1 (fun ηq2 => [.pv (.int .u64 0)])
    (fun ηq2 L => L) (by kernel_rfl) OW (fun _ => by kernel_rfl) ?_
  clear OW; intro ηq2 ysq2 Wq2 OW
  simp only [↓putE_cons, ↓putE_nil, valE, Hint.val, Act.put, List.setIfInBounds_toArray, List.set_cons_succ, List.set_cons_zero]
  gi_upto_region 2 with fail
  refine wpIn_region_re 1 (fun ηq3 => [.pv (.int .i64 7)])
    (fun ηq3 L => L) (by kernel_rfl) OW (fun _ => by kernel_rfl) ?_
  clear OW; intro ηq3 ysq3 Wq3 OW
  simp only [↓putE_cons, ↓putE_nil, valE, Hint.val, Act.put, List.setIfInBounds_toArray, List.set_cons_succ, List.set_cons_zero]
  gi_wp2
  gi_loopw [5, 6] (fun z5 z6 wr => ∃ k : Nat, k ≤ 8 ∧ z5 = .int .u64 ((hN l (8 * q) k : Nat) : Int) ∧ z6 = .int .i64 (7 - (k : Int)) ∧ OwnS [] w [((ηq1 0).blk 0, Obj.cells (rB 64 l).toArray 22 (0, 0))] wr) (fun z5 z6 _ => (8 + intOf z6).toNat)
  case atStart => exact ⟨0, by omega, rfl, rfl, (by skip; exact OwnS.cast OW.out (by kernel_rfl))⟩
  case round =>
    obtain ⟨k, hk5, rfl, rfl, hO⟩ := hrel
    clear OW
    have HNB := fun hk => hN_bd l (8 * q) (k := k) hk
    have OW := Lib.hid hO
    clear hO
    gi_upto_region 3 with fail
    refine wpIn_region_re 1 (fun ηq7 => [.pv (.int .i64 (7 - (k : Int))),
        .pv (.bool (decide (0 ≤ (7 - (k : Int)))))])
      (fun ηq7 L => L) (by kernel_rfl) OW (fun _ => by kernel_rfl) ?_
    clear OW; intro ηq7 ysq7 Wq7 OW
    simp only [↓putE_cons, ↓putE_nil, valE, Hint.val, Act.put, List.setIfInBounds_toArray, List.set_cons_succ, List.set_cons_zero]
    cases hB8 : (decide (0 ≤ (7 - (k : Int))))
    case true =>
      have dhB8 := of_decide_eq_true hB8
      gi_upto_region 5 with fail
      have HNB2 := HNB (by omega)
      have HBY := (l.getD (8 * q + (7 - k)) 0).toNat_lt
      refine wpIn_region_re 1 (fun ηq9 => [.pv (.int .u64 ((hN l (8 * q) k : Nat) : Int)),
          .tv (.int .u64 ((256 * (hN l (8 * q) k) : Nat) : Int)) (sBin .mul 54 (.const (.int .u64 256)) (.tmp 11) (.int .u64 256) (.int .u64 ((hN l (8 * q) k : Nat) : Int))) (fun _ => bin_mul_u64 (a := 256) (b := hN l (8 * q) k) (by omega)),
          .pv (.int .i64 (q : Int)),
          .tv (.int .i64 ((8 * q : Nat) : Int)) (sBin .mul 3 (.const (.int .i64 8)) (.tmp 13) (.int .i64 8) (.int .i64 (q : Int))) (fun _ => bin_mul_nat (a := 8) (b := q) (by omega)),
          .pv (.int .i64 (7 - (k : Int))),
          .tv (.int .i64 ((8 * q + (7 - k) : Nat) : Int)) (sBin .add 3 (.tmp 14) (.tmp 15) (.int .i64 ((8 * q : Nat) : Int)) (.int .i64 (7 - (k : Int)))) (fun _ => down_idx (by omega) (by omega)),
          .tv (.pointer (some ⟨(ηq1 0).blk 0, 0 + (8 * q + (7 - k)) * 1, none⟩)) (Instr.indexAt 22 (.pointer (some ⟨(ηq1 0).blk 0, 0, none⟩)) (.int .i64 ((8 * q + (7 - k) : Nat) : Int))) (fun _ => idx_ar (N := 64) (k := 8 * q + (7 - k)) (by kernel_rfl) (by omega)),
          .lt (.int .u8 ((l.getD (8 * q + (7 - k)) 0).toNat : Int)) 0 (0 + (8 * q + (7 - k)) * 1) ((ηq1 0).blk 0) (rB 64 l).toArray 22 (by simpa only [Nat.zero_add, Nat.mul_one] using rB_get (by omega)),
          .tv (.int .u64 ((l.getD (8 * q + (7 - k)) 0).toNat : Int)) (convert 5 54 (.int .u8 ((l.getD (8 * q + (7 - k)) 0).toNat : Int))) (fun _ => cvt_u8u64 Try.underlying5 Try.underlying54),
          .tv (.int .u64 (((256 * (hN l (8 * q) k)) + ((l.getD (8 * q + (7 - k)) 0).toNat) : Nat) : Int)) (sBin .add 54 (.tmp 12) (.tmp 19) (.int .u64 ((256 * (hN l (8 * q) k) : Nat) : Int)) (.int .u64 ((l.getD (8 * q + (7 - k)) 0).toNat : Int))) (fun _ => bin_add_u64 (a := 256 * (hN l (8 * q) k)) (b := (l.getD (8 * q + (7 - k)) 0).toNat) (by omega)),
          .pv (.int .u64 (((256 * (hN l (8 * q) k)) + ((l.getD (8 * q + (7 - k)) 0).toNat) : Nat) : Int))])
        (fun ηq9 L => L) (by kernel_rfl) OW (fun _ => by kernel_rfl) ?_
      clear OW; intro ηq9 ysq9 Wq9 OW
      simp only [↓putE_cons, ↓putE_nil, valE, Hint.val, Act.put, List.setIfInBounds_toArray, List.set_cons_succ, List.set_cons_zero]
      gi_upto_region 4 with fail
      refine wpIn_region_re 1 (fun ηq10 => [.pv (.int .i64 (7 - (k : Int))),
          .tv (.int .i64 ((7 - (k : Int)) - 1)) (sBin .sub 3 (.tmp 9) (.const (.int .i64 1)) (.int .i64 (7 - (k : Int))) (.int .i64 1)) (fun _ => bin_sub_in (a := (7 - (k : Int))) (b := 1) (by omega) (by omega)),
          .pv (.int .i64 ((7 - (k : Int)) - 1))])
        (fun ηq10 L => L) (by kernel_rfl) OW (fun _ => by kernel_rfl) ?_
      clear OW; intro ηq10 ysq10 Wq10 OW
      simp only [↓putE_cons, ↓putE_nil, valE, Hint.val, Act.put, List.setIfInBounds_toArray, List.set_cons_succ, List.set_cons_zero]
      gi_wp2
      go_roundw
      case rel => exact ⟨k + 1, by omega, rfl, congrArg (Value.int .i64) (by omega), (by skip; exact OwnS.cast OW.out (by kernel_rfl))⟩
      case measure => (simp [intOf] <;> omega)
    have dhB8 := of_decide_eq_false hB8
    obtain rfl : k = 8 := by omega
    gi_upto_region 6 with fail
    refine wpIn_region_re 1 (fun ηq11 => [.pv (.int .u64 ((hN l (8 * q) 8 : Nat) : Int)),
        .pv (.int .u64 ((hN l (8 * q) 8 : Nat) : Int))])
      (fun ηq11 L => L) (by kernel_rfl) OW (fun _ => by kernel_rfl) ?_
    clear OW; intro ηq11 ysq11 Wq11 OW
    simp only [↓putE_cons, ↓putE_nil, valE, Hint.val, Act.put, List.setIfInBounds_toArray, List.set_cons_succ, List.set_cons_zero]
    gi_wp2
    exact leavesS OW [.t (.int .u64 ((hN l (8 * q) 8 : Nat) : Int))] (by kernel_rfl) fun hO => ⟨(by rw [← hN_8]; rfl), hO.done⟩
end Go.Proofs.Ytkeheickaogpiaa
