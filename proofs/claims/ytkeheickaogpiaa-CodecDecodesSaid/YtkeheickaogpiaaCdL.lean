/- The reference's decoding of a word of bits. -/
import Derived.Test.YtkeheickaogpiaaCdK
import Derived.Test.YtkeheickaogpiaaCmB
import Derived.WalkKit
import Derived.Sort.CutIn
import Derived.IntWalk
namespace Go.Proofs.Ytkeheickaogpiaa
open Go Go.RowKit Go.Shelf
attribute [local go_sem] Oper.semAt_some
set_option linter.unusedVariables false
set_option linter.unusedSimpArgs false


theorem elem5 : Try.prog.underlying 123 = some (.array 5 3) := by kernel_rfl
/-- A verdict's number. -/
def k5 (v : Nat) : Int := if v = 0 then 0 else if v = 1 then 1 else if v = 2 then 2 else 3
theorem index5 {w : World} {v : Nat} (hv : v < 5) : (Instr.index 123 (.agg #[.int .i64 0, .int .i64 1, .int .i64 2, .int .i64 3, .int .i64 3]) (.int .i64 (v : Int))).run Try.prog w = .ok (.int .i64 (k5 v)) w := by
  have hs : ∀ w, (sizeOf 3).run Try.prog w = .ok 1 w := fun w => by kernel_rfl
  have ha : ∀ w, (isAgg 3).run Try.prog w = .ok false w := fun w => by kernel_rfl
  rcases (show v = 0 ∨ v = 1 ∨ v = 2 ∨ v = 3 ∨ v = 4 by omega) with rfl | rfl | rfl | rfl | rfl <;> simp [Instr.index, asIntOf, run_underlying elem5, Sem.run_bind, Result.andThen, hs, part, ha, k5]
theorem verdict_bd {s : Nat} (hs : s < 256) : (Hs.verdict s).1 < 5 := by
  rcases Hs.verdict_cases hs with ⟨_, h⟩ | ⟨_, _, h⟩ | ⟨_, h⟩ | ⟨_, h⟩ | ⟨t, _, _, h⟩ <;> rw [h] <;> simp
theorem verdict_at {s : Nat} (hs : s < 256) (h : (((Hs.verdict s).1 : Nat) : Int) == 1 && decide ((Hs.verdict s).2 < 64)) : 0 ≤ (Hs.verdict s).2 ∧ (Hs.verdict s).2 < 64 := by
  rw [Bool.and_eq_true, beq_iff_eq, decide_eq_true_iff] at h
  rcases Hs.verdict_cases hs with ⟨_, e⟩ | ⟨_, _, e⟩ | ⟨_, e⟩ | ⟨_, e⟩ | ⟨t, _, _, e⟩ <;> rw [e] at h ⊢ <;> simp at h ⊢
  exact h
theorem k5_K (ys : List UInt8) (x : Int) : k5 (hsK (numO ys 0 8) (ys.getD 8 0) ((par23 x : Nat) : Int)) = dbits_0 ys x := by
  unfold k5 dbits_0
  generalize hsK (numO ys 0 8) (ys.getD 8 0) ((par23 x : Nat) : Int) = v
  by_cases h0 : v = 0
  · subst h0; rfl
  by_cases h1 : v = 1
  · subst h1; rfl
  by_cases h2 : v = 2
  · subst h2; rfl
  rw [if_neg h0, if_neg h1, if_neg h2, show (((v : Nat) : Int) == 0) = false by rw [beq_eq_false_iff_ne]; omega, show (((v : Nat) : Int) == 1) = false by rw [beq_eq_false_iff_ne]; omega, show (((v : Nat) : Int) == 2) = false by rw [beq_eq_false_iff_ne]; omega]
  rfl
/-- The document's number of a word, and its syndrome's byte. -/
abbrev bN (r : List UInt8) (q : Nat) : Nat := hN r (9 * q) 8
abbrev bS (r : List UInt8) (q : Nat) (x : Int) : UInt8 := rsyn (bN r q) (r.getD (9 * q + 8) 0) ((pc (u64N x % 8388608) % 2 : Nat) : Int) 0
theorem bN_w (r : List UInt8) (q : Nat) : bN r q = numO (w9 r q) 0 8 := by
  unfold bN
  rw [hN_8]
  exact (numO_congr 8 fun j hj => by rw [Nat.zero_add]; exact w9_get (by omega)).symm
theorem bS_w (r : List UInt8) (q : Nat) (x : Int) : (bS r q x).toNat = hsS (numO (w9 r q) 0 8) ((w9 r q).getD 8 0) ((par23 x : Nat) : Int) := by
  unfold bS hsS
  rw [rsyn_nat, bN_w, w9_get (by omega), lo_u64]
  rfl
theorem bN_lt (r : List UInt8) (q : Nat) : bN r q < 18446744073709551616 := by rw [bN_w]; exact numO_lt64 _ _ (by decide)
def bD (r : List UInt8) (q : Nat) (x : Int) : Nat := bif (((Hs.verdict (bS r q x).toNat).1 : Nat) : Int) == 1 && decide ((Hs.verdict (bS r q x).toNat).2 < 64) then bN r q ^^^ 2 ^ (Hs.verdict (bS r q x).toNat).2.toNat else bN r q
theorem bD_else {r : List UInt8} {q : Nat} {x : Int} (h : ((((Hs.verdict (bS r q x).toNat).1 : Nat) : Int) == 1 && decide ((Hs.verdict (bS r q x).toNat).2 < 64)) = false) : bD r q x = bN r q := by unfold bD; rw [h]; rfl
theorem bD_then {r : List UInt8} {q : Nat} {x : Int} {j : Nat} (h : ((((Hs.verdict (bS r q x).toNat).1 : Nat) : Int) == 1 && decide ((Hs.verdict (bS r q x).toNat).2 < 64)) = true) (hj : j = (Hs.verdict (bS r q x).toNat).2.toNat) : bN r q ^^^ 2 ^ j = bD r q x := by unfold bD; rw [h, hj]; rfl
theorem pow_bd {j : Nat} (h : j < 64) : 2 ^ j * 2 < 36893488147419103233 ∧ (j < 63 → 2 ^ j * 2 < 18446744073709551616) := by
  have h1 : 2 ^ j ≤ 2 ^ 63 := Nat.pow_le_pow_right (by decide) (by omega)
  have h3 : (2 : Nat) ^ 63 = 9223372036854775808 := by decide
  refine ⟨by omega, fun h => ?_⟩
  have h2 : 2 ^ j ≤ 2 ^ 62 := Nat.pow_le_pow_right (by decide) (by omega)
  have h4 : (2 : Nat) ^ 62 = 4611686018427387904 := by decide
  omega
theorem pow_bd2 {j : Nat} (h : j ≤ 64 - 1) : 2 ^ j < 18446744073709551616 := Nat.pow_lt_pow_right (by decide) (by omega : j < 64)
theorem bD_w (r : List UInt8) (q : Nat) (x : Int) : bD r q x = dW r x q := by
  unfold bD dW hsD Hs.decD
  rw [bS_w, bN_w]
  generalize Hs.verdict (hsS (numO (w9 r q) 0 8) ((w9 r q).getD 8 0) ((par23 x : Nat) : Int)) = v
  by_cases h : v.1 = 1 ∧ v.2 < 64
  · rw [if_pos h, h.1, decide_eq_true h.2]; rfl
  · rw [if_neg h]
    have c : ((((v.1 : Nat) : Int) == 1) && decide (v.2 < 64)) = false := by
      apply Bool.eq_false_iff.2
      intro hc
      rw [Bool.and_eq_true, beq_iff_eq, decide_eq_true_iff] at hc
      exact h ⟨by omega, hc.2⟩
    rw [c, cond_false]
set_option maxRecDepth 100000 in
set_option maxHeartbeats 1000000 in
theorem rbits_any (r : List UInt8) (hr : r.length = 72) (q : Nat) (hq : q < 8) (x : Int) (h0 : -9223372036854775808 ≤ x) (h1 : x ≤ 9223372036854775807) (w : World) : Calls Try.prog 42 #[.agg (rB 74 colsB).toArray, .agg (rB 72 r).toArray, .int .i64 (q : Int), .int .i64 x] w fun e w' => e = .returned (.tuple #[.int .u64 ((bD r q x : Nat) : Int), .int .i64 (k5 (Hs.verdict (rsyn (hN r (9 * q) 8) (r.getD (9 * q + 8) 0) ((pc ((u64N x) % 8388608) % 2 : Nat) : Int) 0).toNat).1)]) ∧ Below w.heap.size w w' := by
  have HU := u64N_lt x
  have HPL := pc_le (u64N x % 8388608)
  have H : Has [] w := has_nil
  have OW : Hid (OwnS [] w [] w) := Lib.hid (OwnS.start H)
  refine (callsIn_wide (n := 6)).1 ?_
  refine callsIn_of_wp_marks Try.func42 rfl trivial ?_ rfl
  simp only [Try.ntmps42, List.size_toArray, List.length_cons, List.length_nil, Nat.reduceAdd, Nat.reduceSub, Array.replicate_succ, Array.replicate_zero, List.push_toArray, List.append_toArray, List.nil_append, List.cons_append]
  gi_upto_region 0 with fail
  refine wpIn_region_re 2 (fun ηq1 => [.bx 0 74 (.agg (rB 74 colsB).toArray),
      .bx 1 26 (.agg (rB 72 r).toArray),
      .pv (.int .u64 0),
      .pv (.int .i64 0)])
    (fun ηq1 L => L ++ [((ηq1 0).blk 0, Obj.cells (rB 74 colsB).toArray 74 (0, 0)), ((ηq1 1).blk 0, Obj.cells (rB 72 r).toArray 26 (0, 0))]) (by kernel_rfl) OW (fun _ => by kernel_rfl) ?_
  clear OW; intro ηq1 ysq1 Wq1 OW
  simp only [↓putE_cons, ↓putE_nil, valE, Hint.val, Act.put, List.setIfInBounds_toArray, List.set_cons_succ, List.set_cons_zero]
  gi_upto_region 1 with fail
  refine wpIn_region_re 2 (fun ηq2 => [.pv (.int .u64 0)])
    (fun ηq2 L => L) (by kernel_rfl) OW (fun _ => by kernel_rfl) ?_
  clear OW; intro ηq2 ysq2 Wq2 OW
  simp only [↓putE_cons, ↓putE_nil, valE, Hint.val, Act.put, List.setIfInBounds_toArray, List.set_cons_succ, List.set_cons_zero]
  gi_upto_region 2 with fail
  refine wpIn_region_re 2 (fun ηq3 => [.pv (.int .i64 7)])
    (fun ηq3 L => L) (by kernel_rfl) OW (fun _ => by kernel_rfl) ?_
  clear OW; intro ηq3 ysq3 Wq3 OW
  simp only [↓putE_cons, ↓putE_nil, valE, Hint.val, Act.put, List.setIfInBounds_toArray, List.set_cons_succ, List.set_cons_zero]
  gi_wp2
  gi_loopw [10, 11] (fun z10 z11 wr => ∃ k : Nat, k ≤ 8 ∧ z10 = .int .u64 ((hN r (9 * q) k : Nat) : Int) ∧ z11 = .int .i64 (7 - (k : Int)) ∧ OwnS [] w [((ηq1 0).blk 0, Obj.cells (rB 74 colsB).toArray 74 (0, 0)), ((ηq1 1).blk 0, Obj.cells (rB 72 r).toArray 26 (0, 0))] wr) (fun z10 z11 _ => (8 + intOf z11).toNat)
  case atStart => exact ⟨0, by omega, rfl, rfl, (by skip; exact OwnS.cast OW.out (by kernel_rfl))⟩
  case round =>
    obtain ⟨k, hk5, rfl, rfl, hO⟩ := hrel
    clear OW
    have HNB := fun hk => hN_bd r (9 * q) (k := k) hk
    have OW := Lib.hid hO
    clear hO
    gi_upto_region 3 with fail
    refine wpIn_region_re 2 (fun ηq7 => [.pv (.int .i64 (7 - (k : Int))),
        .pv (.bool (decide (0 ≤ (7 - (k : Int)))))])
      (fun ηq7 L => L) (by kernel_rfl) OW (fun _ => by kernel_rfl) ?_
    clear OW; intro ηq7 ysq7 Wq7 OW
    simp only [↓putE_cons, ↓putE_nil, valE, Hint.val, Act.put, List.setIfInBounds_toArray, List.set_cons_succ, List.set_cons_zero]
    cases hB8 : (decide (0 ≤ (7 - (k : Int))))
    case true =>
      have dhB8 := of_decide_eq_true hB8
      gi_upto_region 5 with fail
      have HNB2 := HNB (by omega)
      have HBY := (r.getD (9 * q + (7 - k)) 0).toNat_lt
      refine wpIn_region_re 2 (fun ηq9 => [.pv (.int .u64 ((hN r (9 * q) k : Nat) : Int)),
          .tv (.int .u64 ((256 * (hN r (9 * q) k) : Nat) : Int)) (sBin .mul 54 (.const (.int .u64 256)) (.tmp 21) (.int .u64 256) (.int .u64 ((hN r (9 * q) k : Nat) : Int))) (fun _ => bin_mul_u64 (a := 256) (b := hN r (9 * q) k) (by omega)),
          .pv (.int .i64 (q : Int)),
          .tv (.int .i64 ((9 * q : Nat) : Int)) (sBin .mul 3 (.const (.int .i64 9)) (.tmp 23) (.int .i64 9) (.int .i64 (q : Int))) (fun _ => bin_mul_nat (a := 9) (b := q) (by omega)),
          .pv (.int .i64 (7 - (k : Int))),
          .tv (.int .i64 ((9 * q + (7 - k) : Nat) : Int)) (sBin .add 3 (.tmp 24) (.tmp 25) (.int .i64 ((9 * q : Nat) : Int)) (.int .i64 (7 - (k : Int)))) (fun _ => down_idx (by omega) (by omega)),
          .tv (.pointer (some ⟨(ηq1 1).blk 0, 0 + (9 * q + (7 - k)) * 1, none⟩)) (Instr.indexAt 26 (.pointer (some ⟨(ηq1 1).blk 0, 0, none⟩)) (.int .i64 ((9 * q + (7 - k) : Nat) : Int))) (fun _ => idx_ar (N := 72) (k := 9 * q + (7 - k)) (by kernel_rfl) (by omega)),
          .lt (.int .u8 ((r.getD (9 * q + (7 - k)) 0).toNat : Int)) 1 (0 + (9 * q + (7 - k)) * 1) ((ηq1 1).blk 0) (rB 72 r).toArray 26 (by simpa only [Nat.zero_add, Nat.mul_one] using rB_get (by omega)),
          .tv (.int .u64 ((r.getD (9 * q + (7 - k)) 0).toNat : Int)) (convert 5 54 (.int .u8 ((r.getD (9 * q + (7 - k)) 0).toNat : Int))) (fun _ => cvt_u8u64 Try.underlying5 Try.underlying54),
          .tv (.int .u64 (((256 * (hN r (9 * q) k)) + ((r.getD (9 * q + (7 - k)) 0).toNat) : Nat) : Int)) (sBin .add 54 (.tmp 22) (.tmp 29) (.int .u64 ((256 * (hN r (9 * q) k) : Nat) : Int)) (.int .u64 ((r.getD (9 * q + (7 - k)) 0).toNat : Int))) (fun _ => bin_add_u64 (a := 256 * (hN r (9 * q) k)) (b := (r.getD (9 * q + (7 - k)) 0).toNat) (by omega)),
          .pv (.int .u64 (((256 * (hN r (9 * q) k)) + ((r.getD (9 * q + (7 - k)) 0).toNat) : Nat) : Int))])
        (fun ηq9 L => L) (by kernel_rfl) OW (fun _ => by kernel_rfl) ?_
      clear OW; intro ηq9 ysq9 Wq9 OW
      simp only [↓putE_cons, ↓putE_nil, valE, Hint.val, Act.put, List.setIfInBounds_toArray, List.set_cons_succ, List.set_cons_zero]
      gi_upto_region 4 with fail
      refine wpIn_region_re 2 (fun ηq10 => [.pv (.int .i64 (7 - (k : Int))),
          .tv (.int .i64 ((7 - (k : Int)) - 1)) (sBin .sub 3 (.tmp 19) (.const (.int .i64 1)) (.int .i64 (7 - (k : Int))) (.int .i64 1)) (fun _ => bin_sub_in (a := (7 - (k : Int))) (b := 1) (by omega) (by omega)),
          .pv (.int .i64 ((7 - (k : Int)) - 1))])
        (fun ηq10 L => L) (by kernel_rfl) OW (fun _ => by kernel_rfl) ?_
      clear OW; intro ηq10 ysq10 Wq10 OW
      simp only [↓putE_cons, ↓putE_nil, valE, Hint.val, Act.put, List.setIfInBounds_toArray, List.set_cons_succ, List.set_cons_zero]
      gi_wp2
      go_roundw
      case rel => exact ⟨k + 1, by omega, rfl, congrArg (Value.int .i64) (by omega), (by skip; exact OwnS.cast OW.out (by kernel_rfl))⟩
      case measure => (simp [intOf] <;> omega)
    have dhB8 := of_decide_eq_false hB8
    obtain rfl : k = 8 := by omega
    gi_upto_region 6 with fail
    have HBN : hN r (9 * q) 8 < 18446744073709551616 := bN_lt r q
    refine wpIn_region_re 2 (fun ηq11 => [.pv (.int .i64 x),
        .tv (.int .u64 ((u64N x : Nat) : Int)) (convert 3 54 (.int .i64 x)) (fun _ => cvt_i64w Try.underlying3 Try.underlying54),
        .tv (.int .u64 (((u64N x) % 8388608 : Nat) : Int)) (sBin .rem 54 (.tmp 32) (.const (.int .u64 8388608)) (.int .u64 ((u64N x : Nat) : Int)) (.int .u64 8388608)) (fun _ => bin_rem_u64 (a := u64N x) (d := 8388608) (by decide)),
        .cl 36 #[.int .u64 (((u64N x) % 8388608 : Nat) : Int)] (fun E => .int .i64 ((pc ((u64N x) % 8388608) : Nat) : Int)) [] [] (fun E => []) (enters_of Try.func36 (by kernel_rfl) rfl) (fun w' H => cB (callsIn_wide.2 (rweight_any ((u64N x) % 8388608) (by omega) w'))),
        .tv (.int .i64 (((pc ((u64N x) % 8388608)) % 2 : Nat) : Int)) (sBin .rem 3 (.tmp 34) (.const (.int .i64 2)) (.int .i64 ((pc ((u64N x) % 8388608) : Nat) : Int)) (.int .i64 2)) (fun _ => bin_rem_i64 (a := pc ((u64N x) % 8388608)) (d := 2) (by decide)),
        .pv (.int .i64 (((pc ((u64N x) % 8388608)) % 2 : Nat) : Int))])
      (fun ηq11 L => L) (by kernel_rfl) OW (fun _ => by kernel_rfl) ?_
    clear OW; intro ηq11 ysq11 Wq11 OW
    simp only [↓putE_cons, ↓putE_nil, valE, Hint.val, Act.put, List.setIfInBounds_toArray, List.set_cons_succ, List.set_cons_zero]
    gi_upto_region 7 with fail
    refine wpIn_region_re 2 (fun ηq12 => [.ls (rB 74 colsB) 0 0,
        .ls (rB 74 colsB) 0 0,
        .pv (.int .u64 ((hN r (9 * q) 8 : Nat) : Int)),
        .pv (.int .i64 (q : Int)),
        .tv (.int .i64 ((9 * q : Nat) : Int)) (sBin .mul 3 (.const (.int .i64 9)) (.tmp 40) (.int .i64 9) (.int .i64 (q : Int))) (fun _ => bin_mul_nat (a := 9) (b := q) (by omega)),
        .tv (.int .i64 (((9 * q) + 8 : Nat) : Int)) (sBin .add 3 (.tmp 41) (.const (.int .i64 8)) (.int .i64 ((9 * q : Nat) : Int)) (.int .i64 8)) (fun _ => bin_add_nat (a := 9 * q) (b := 8) (by omega)),
        .tv (.pointer (some ⟨(ηq1 1).blk 0, 0 + ((9 * q) + 8) * 1, none⟩)) (Instr.indexAt 26 (.pointer (some ⟨(ηq1 1).blk 0, 0, none⟩)) (.int .i64 (((9 * q) + 8 : Nat) : Int))) (fun _ => idx_ar (N := 72) (k := (9 * q) + 8) (by kernel_rfl) (by omega)),
        .lt (.int .u8 ((r.getD ((9 * q) + 8) 0).toNat : Int)) 1 (0 + ((9 * q) + 8) * 1) ((ηq1 1).blk 0) (rB 72 r).toArray 26 (by simpa only [Nat.zero_add, Nat.mul_one] using rB_get (by omega)),
        .pv (.int .i64 (((pc ((u64N x) % 8388608)) % 2 : Nat) : Int)),
        .cl 37 #[.agg (rB 74 colsB).toArray, .int .u64 ((hN r (9 * q) 8 : Nat) : Int), .int .u8 ((r.getD ((9 * q) + 8) 0).toNat : Int), .int .i64 (((pc ((u64N x) % 8388608)) % 2 : Nat) : Int), .int .i64 0] (fun E => .int .u8 ((rsyn (hN r (9 * q) 8) (r.getD ((9 * q) + 8) 0) (((pc ((u64N x) % 8388608)) % 2 : Nat) : Int) 0).toNat : Int)) [] [] (fun E => []) (enters_of Try.func37 (by kernel_rfl) rfl) (fun w' H => cB (callsIn_wide.2 (rsyn_any (hN r (9 * q) 8) (by omega) (r.getD ((9 * q) + 8) 0) (((pc ((u64N x) % 8388608)) % 2 : Nat) : Int) 0 w'))),
        .cl 66 #[.agg (rB 74 colsB).toArray, .int .u8 ((rsyn (hN r (9 * q) 8) (r.getD ((9 * q) + 8) 0) (((pc ((u64N x) % 8388608)) % 2 : Nat) : Int) 0).toNat : Int)] (fun E => .tuple #[.int .i64 (((Hs.verdict ((rsyn (hN r (9 * q) 8) (r.getD ((9 * q) + 8) 0) (((pc ((u64N x) % 8388608)) % 2 : Nat) : Int) 0)).toNat).1 : Nat) : Int), .int .i64 ((Hs.verdict ((rsyn (hN r (9 * q) 8) (r.getD ((9 * q) + 8) 0) (((pc ((u64N x) % 8388608)) % 2 : Nat) : Int) 0)).toNat).2)]) [] [] (fun E => []) (enters_of Try.func66 (by kernel_rfl) rfl) (fun w' H => cB (callsIn_wide.2 (rcls_any (rsyn (hN r (9 * q) 8) (r.getD ((9 * q) + 8) 0) (((pc ((u64N x) % 8388608)) % 2 : Nat) : Int) 0) w'))),
        .pv (.tuple #[.int .i64 (((Hs.verdict ((rsyn (hN r (9 * q) 8) (r.getD ((9 * q) + 8) 0) (((pc ((u64N x) % 8388608)) % 2 : Nat) : Int) 0)).toNat).1 : Nat) : Int), .int .i64 ((Hs.verdict ((rsyn (hN r (9 * q) 8) (r.getD ((9 * q) + 8) 0) (((pc ((u64N x) % 8388608)) % 2 : Nat) : Int) 0)).toNat).2)]),
        .pv (.int .i64 (((Hs.verdict ((rsyn (hN r (9 * q) 8) (r.getD ((9 * q) + 8) 0) (((pc ((u64N x) % 8388608)) % 2 : Nat) : Int) 0)).toNat).1 : Nat) : Int)),
        .pv (.int .i64 ((Hs.verdict ((rsyn (hN r (9 * q) 8) (r.getD ((9 * q) + 8) 0) (((pc ((u64N x) % 8388608)) % 2 : Nat) : Int) 0)).toNat).2)),
        .pv (.int .i64 (((Hs.verdict ((rsyn (hN r (9 * q) 8) (r.getD ((9 * q) + 8) 0) (((pc ((u64N x) % 8388608)) % 2 : Nat) : Int) 0)).toNat).1 : Nat) : Int)),
        .pv (.int .i64 ((Hs.verdict ((rsyn (hN r (9 * q) 8) (r.getD ((9 * q) + 8) 0) (((pc ((u64N x) % 8388608)) % 2 : Nat) : Int) 0)).toNat).2))])
      (fun ηq12 L => L) (by kernel_rfl) OW (fun _ => by kernel_rfl) ?_
    clear OW; intro ηq12 ysq12 Wq12 OW
    simp only [↓putE_cons, ↓putE_nil, valE, Hint.val, Act.put, List.setIfInBounds_toArray, List.set_cons_succ, List.set_cons_zero]
    gi_upto_region 8 with fail
    refine wpIn_region_re 2 (fun ηq13 => [.pv (.int .i64 (((Hs.verdict ((rsyn (hN r (9 * q) 8) (r.getD ((9 * q) + 8) 0) (((pc ((u64N x) % 8388608)) % 2 : Nat) : Int) 0)).toNat).1 : Nat) : Int)),
        .pv (.bool ((((Hs.verdict ((rsyn (hN r (9 * q) 8) (r.getD ((9 * q) + 8) 0) (((pc ((u64N x) % 8388608)) % 2 : Nat) : Int) 0)).toNat).1 : Nat) : Int) == 1)),
        .pv (.bool ((((Hs.verdict ((rsyn (hN r (9 * q) 8) (r.getD ((9 * q) + 8) 0) (((pc ((u64N x) % 8388608)) % 2 : Nat) : Int) 0)).toNat).1 : Nat) : Int) == 1)),
        .pv (.int .i64 ((Hs.verdict ((rsyn (hN r (9 * q) 8) (r.getD ((9 * q) + 8) 0) (((pc ((u64N x) % 8388608)) % 2 : Nat) : Int) 0)).toNat).2)),
        .pv (.bool (decide (((Hs.verdict ((rsyn (hN r (9 * q) 8) (r.getD ((9 * q) + 8) 0) (((pc ((u64N x) % 8388608)) % 2 : Nat) : Int) 0)).toNat).2) < 64))),
        .pk (.bool (((((Hs.verdict ((rsyn (hN r (9 * q) 8) (r.getD ((9 * q) + 8) 0) (((pc ((u64N x) % 8388608)) % 2 : Nat) : Int) 0)).toNat).1 : Nat) : Int) == 1) && (decide (((Hs.verdict ((rsyn (hN r (9 * q) 8) (r.getD ((9 * q) + 8) 0) (((pc ((u64N x) % 8388608)) % 2 : Nat) : Int) 0)).toNat).2) < 64))))])
      (fun ηq13 L => L) (by kernel_rfl) OW (fun _ => by kernel_rfl) ?_
    clear OW; intro ηq13 ysq13 Wq13 OW
    simp only [↓putE_cons, ↓putE_nil, valE, Hint.val, Act.put, List.setIfInBounds_toArray, List.set_cons_succ, List.set_cons_zero]
    cases hB14 : (((((Hs.verdict ((rsyn (hN r (9 * q) 8) (r.getD ((9 * q) + 8) 0) (((pc ((u64N x) % 8388608)) % 2 : Nat) : Int) 0)).toNat).1 : Nat) : Int) == 1) && (decide (((Hs.verdict ((rsyn (hN r (9 * q) 8) (r.getD ((9 * q) + 8) 0) (((pc ((u64N x) % 8388608)) % 2 : Nat) : Int) 0)).toNat).2) < 64)))
    case true =>
      gi_upto_region 9 with fail
      have HVA := verdict_at (s := (rsyn (hN r (9 * q) 8) (r.getD (9 * q + 8) 0) ((pc ((u64N x) % 8388608) % 2 : Nat) : Int) 0).toNat) (UInt8.toNat_lt _) (by assumption)
      refine wpIn_region_re 2 (fun ηq15 => [.pv (.int .u64 1)])
        (fun ηq15 L => L) (by kernel_rfl) OW (fun _ => by kernel_rfl) ?_
      clear OW; intro ηq15 ysq15 Wq15 OW
      simp only [↓putE_cons, ↓putE_nil, valE, Hint.val, Act.put, List.setIfInBounds_toArray, List.set_cons_succ, List.set_cons_zero]
      gi_upto_region 10 with fail
      refine wpIn_region_re 2 (fun ηq16 => [.pv (.int .i64 0)])
        (fun ηq16 L => L) (by kernel_rfl) OW (fun _ => by kernel_rfl) ?_
      clear OW; intro ηq16 ysq16 Wq16 OW
      simp only [↓putE_cons, ↓putE_nil, valE, Hint.val, Act.put, List.setIfInBounds_toArray, List.set_cons_succ, List.set_cons_zero]
      gi_wp2
      gi_loopw [15, 16] (fun z15 z16 wr => ∃ j : Nat, j ≤ (Hs.verdict (rsyn (hN r (9 * q) 8) (r.getD (9 * q + 8) 0) ((pc ((u64N x) % 8388608) % 2 : Nat) : Int) 0).toNat).2.toNat ∧ z15 = .int .u64 ((2 ^ j : Nat) : Int) ∧ z16 = .int .i64 (j : Int) ∧ OwnS [] w [((ηq1 0).blk 0, Obj.cells (rB 74 colsB).toArray 74 (0, 0)), ((ηq1 1).blk 0, Obj.cells (rB 72 r).toArray 26 (0, 0))] wr) (fun z15 z16 _ => (Hs.verdict (rsyn (hN r (9 * q) 8) (r.getD (9 * q + 8) 0) ((pc ((u64N x) % 8388608) % 2 : Nat) : Int) 0).toNat).2.toNat - (intOf (z16)).toNat)
      case atStart => exact ⟨0, by omega, rfl, rfl, (by skip; exact OwnS.cast OW.out (by kernel_rfl))⟩
      case round =>
        obtain ⟨j, hk18, rfl, rfl, hO⟩ := hrel
        clear OW
        have HJ := hk18
        have OW := Lib.hid hO
        clear hO
        gi_upto_region 11 with fail
        refine wpIn_region_re 2 (fun ηq20 => [.pv (.int .i64 (j : Int)),
            .pv (.int .i64 ((Hs.verdict ((rsyn (hN r (9 * q) 8) (r.getD ((9 * q) + 8) 0) (((pc ((u64N x) % 8388608)) % 2 : Nat) : Int) 0)).toNat).2)),
            .pv (.bool (decide ((j : Int) < ((Hs.verdict ((rsyn (hN r (9 * q) 8) (r.getD ((9 * q) + 8) 0) (((pc ((u64N x) % 8388608)) % 2 : Nat) : Int) 0)).toNat).2))))])
          (fun ηq20 L => L) (by kernel_rfl) OW (fun _ => by kernel_rfl) ?_
        clear OW; intro ηq20 ysq20 Wq20 OW
        simp only [↓putE_cons, ↓putE_nil, valE, Hint.val, Act.put, List.setIfInBounds_toArray, List.set_cons_succ, List.set_cons_zero]
        cases hB21 : (decide ((j : Int) < ((Hs.verdict ((rsyn (hN r (9 * q) 8) (r.getD ((9 * q) + 8) 0) (((pc ((u64N x) % 8388608)) % 2 : Nat) : Int) 0)).toNat).2)))
        case true =>
          have dhB21 := of_decide_eq_true hB21
          gi_upto_region 13 with fail
          have HPW := (pow_bd (show j < 64 by omega)).2 (by omega)
          refine wpIn_region_re 2 (fun ηq22 => [.pv (.int .u64 ((2 ^ j : Nat) : Int)),
              .tv (.int .u64 (((2 ^ j) * 2 : Nat) : Int)) (sBin .mul 54 (.tmp 61) (.const (.int .u64 2)) (.int .u64 ((2 ^ j : Nat) : Int)) (.int .u64 2)) (fun _ => bin_mul_u64 (a := 2 ^ j) (b := 2) (by omega)),
              .pv (.int .u64 (((2 ^ j) * 2 : Nat) : Int))])
            (fun ηq22 L => L) (by kernel_rfl) OW (fun _ => by kernel_rfl) ?_
          clear OW; intro ηq22 ysq22 Wq22 OW
          simp only [↓putE_cons, ↓putE_nil, valE, Hint.val, Act.put, List.setIfInBounds_toArray, List.set_cons_succ, List.set_cons_zero]
          gi_upto_region 12 with fail
          refine wpIn_region_re 2 (fun ηq23 => [.pv (.int .i64 (j : Int)),
              .tv (.int .i64 ((j + 1 : Nat) : Int)) (sBin .add 3 (.tmp 59) (.const (.int .i64 1)) (.int .i64 (j : Int)) (.int .i64 1)) (fun _ => bin_add_nat (a := j) (b := 1) (by omega)),
              .pv (.int .i64 ((j + 1 : Nat) : Int))])
            (fun ηq23 L => L) (by kernel_rfl) OW (fun _ => by kernel_rfl) ?_
          clear OW; intro ηq23 ysq23 Wq23 OW
          simp only [↓putE_cons, ↓putE_nil, valE, Hint.val, Act.put, List.setIfInBounds_toArray, List.set_cons_succ, List.set_cons_zero]
          gi_wp2
          have HME : (Hs.verdict (rsyn (hN r (9 * q) 8) (r.getD (9 * q + 8) 0) ((pc ((u64N x) % 8388608) % 2 : Nat) : Int) 0).toNat).2.toNat - (j + 1) < (Hs.verdict (rsyn (hN r (9 * q) 8) (r.getD (9 * q + 8) 0) ((pc ((u64N x) % 8388608) % 2 : Nat) : Int) 0).toNat).2.toNat - j := by omega
          go_roundw
          case rel => exact ⟨j + 1, by omega, by rw [Nat.pow_succ], by go_num, (by skip; exact OwnS.cast OW.out (by kernel_rfl))⟩
          case measure => exact HME
        have dhB21 := of_decide_eq_false hB21
        gi_upto_region 14 with fail
        have HPX := pow_bd2 (show j ≤ 64 - 1 by omega)
        have HJE := Lib.hid (bD_then (r := r) (q := q) (x := x) (j := j) (by assumption) (show j = (Hs.verdict (rsyn (hN r (9 * q) 8) (r.getD (9 * q + 8) 0) ((pc ((u64N x) % 8388608) % 2 : Nat) : Int) 0).toNat).2.toNat by omega))
        refine wpIn_region_re 2 (fun ηq24 => [.pv (.int .u64 ((hN r (9 * q) 8 : Nat) : Int)),
            .pv (.int .u64 ((2 ^ j : Nat) : Int)),
            .tv (.int .u64 ((hN r (9 * q) 8 ^^^ 2 ^ j : Nat) : Int)) (sBin .xor 54 (.tmp 63) (.tmp 64) (.int .u64 ((hN r (9 * q) 8 : Nat) : Int)) (.int .u64 ((2 ^ j : Nat) : Int))) (fun _ => bin_xor_u64 (by omega) (by omega)),
            .pv (.int .u64 ((hN r (9 * q) 8 ^^^ 2 ^ j : Nat) : Int))])
          (fun ηq24 L => L) (by kernel_rfl) OW (fun _ => by kernel_rfl) ?_
        clear OW; intro ηq24 ysq24 Wq24 OW
        simp only [↓putE_cons, ↓putE_nil, valE, Hint.val, Act.put, List.setIfInBounds_toArray, List.set_cons_succ, List.set_cons_zero]
        gi_upto_region 15 with fail
        have HV5 := verdict_bd (s := (rsyn (hN r (9 * q) 8) (r.getD (9 * q + 8) 0) ((pc ((u64N x) % 8388608) % 2 : Nat) : Int) 0).toNat) (UInt8.toNat_lt _)
        refine wpIn_region_re 2 (fun ηq25 => [.pv (.int .u64 ((hN r (9 * q) 8 ^^^ 2 ^ j : Nat) : Int)),
            .pv (.agg #[.int .i64 0, .int .i64 1, .int .i64 2, .int .i64 3, .int .i64 3]),
            .pv (.int .i64 (((Hs.verdict ((rsyn (hN r (9 * q) 8) (r.getD ((9 * q) + 8) 0) (((pc ((u64N x) % 8388608)) % 2 : Nat) : Int) 0)).toNat).1 : Nat) : Int)),
            .tv (.int .i64 (k5 (Hs.verdict (rsyn (hN r (9 * q) 8) (r.getD (9 * q + 8) 0) ((pc ((u64N x) % 8388608) % 2 : Nat) : Int) 0).toNat).1)) (Instr.index 123 (.agg #[.int .i64 0, .int .i64 1, .int .i64 2, .int .i64 3, .int .i64 3]) (.int .i64 (((Hs.verdict ((rsyn (hN r (9 * q) 8) (r.getD ((9 * q) + 8) 0) (((pc ((u64N x) % 8388608)) % 2 : Nat) : Int) 0)).toNat).1 : Nat) : Int))) (fun _ => index5 HV5),
            .pv (.int .u64 ((hN r (9 * q) 8 ^^^ 2 ^ j : Nat) : Int)),
            .pv (.int .i64 (k5 (Hs.verdict (rsyn (hN r (9 * q) 8) (r.getD (9 * q + 8) 0) ((pc ((u64N x) % 8388608) % 2 : Nat) : Int) 0).toNat).1))])
          (fun ηq25 L => L) (by kernel_rfl) OW (fun _ => by kernel_rfl) ?_
        clear OW; intro ηq25 ysq25 Wq25 OW
        simp only [↓putE_cons, ↓putE_nil, valE, Hint.val, Act.put, List.setIfInBounds_toArray, List.set_cons_succ, List.set_cons_zero]
        gi_wp2
        exact leavesS OW [.t (.int .u64 ((hN r (9 * q) 8 ^^^ 2 ^ j : Nat) : Int)), .t (.int .i64 (k5 (Hs.verdict (rsyn (hN r (9 * q) 8) (r.getD (9 * q + 8) 0) ((pc ((u64N x) % 8388608) % 2 : Nat) : Int) 0).toNat).1))] (by kernel_rfl) fun hO => ⟨(by first | (rw [← HJE.out]; rfl) | (rw [bD_else (by assumption)]; rfl)), hO.done⟩
    gi_upto_region 15 with fail
    have HV5 := verdict_bd (s := (rsyn (hN r (9 * q) 8) (r.getD (9 * q + 8) 0) ((pc ((u64N x) % 8388608) % 2 : Nat) : Int) 0).toNat) (UInt8.toNat_lt _)
    refine wpIn_region_re 2 (fun ηq26 => [.pv (.int .u64 ((hN r (9 * q) 8 : Nat) : Int)),
        .pv (.agg #[.int .i64 0, .int .i64 1, .int .i64 2, .int .i64 3, .int .i64 3]),
        .pv (.int .i64 (((Hs.verdict ((rsyn (hN r (9 * q) 8) (r.getD ((9 * q) + 8) 0) (((pc ((u64N x) % 8388608)) % 2 : Nat) : Int) 0)).toNat).1 : Nat) : Int)),
        .tv (.int .i64 (k5 (Hs.verdict (rsyn (hN r (9 * q) 8) (r.getD (9 * q + 8) 0) ((pc ((u64N x) % 8388608) % 2 : Nat) : Int) 0).toNat).1)) (Instr.index 123 (.agg #[.int .i64 0, .int .i64 1, .int .i64 2, .int .i64 3, .int .i64 3]) (.int .i64 (((Hs.verdict ((rsyn (hN r (9 * q) 8) (r.getD ((9 * q) + 8) 0) (((pc ((u64N x) % 8388608)) % 2 : Nat) : Int) 0)).toNat).1 : Nat) : Int))) (fun _ => index5 HV5),
        .pv (.int .u64 ((hN r (9 * q) 8 : Nat) : Int)),
        .pv (.int .i64 (k5 (Hs.verdict (rsyn (hN r (9 * q) 8) (r.getD (9 * q + 8) 0) ((pc ((u64N x) % 8388608) % 2 : Nat) : Int) 0).toNat).1))])
      (fun ηq26 L => L) (by kernel_rfl) OW (fun _ => by kernel_rfl) ?_
    clear OW; intro ηq26 ysq26 Wq26 OW
    simp only [↓putE_cons, ↓putE_nil, valE, Hint.val, Act.put, List.setIfInBounds_toArray, List.set_cons_succ, List.set_cons_zero]
    gi_wp2
    exact leavesS OW [.t (.int .u64 ((hN r (9 * q) 8 : Nat) : Int)), .t (.int .i64 (k5 (Hs.verdict (rsyn (hN r (9 * q) 8) (r.getD (9 * q + 8) 0) ((pc ((u64N x) % 8388608) % 2 : Nat) : Int) 0).toNat).1))] (by kernel_rfl) fun hO => ⟨(by first | (rw [← HJE.out]; rfl) | (rw [bD_else (by assumption)]; rfl)), hO.done⟩
end Go.Proofs.Ytkeheickaogpiaa
