/- CodecStrays, walked. -/
import Derived.Test.YtkeheickaogpiaaCdJ
import Derived.Test.YtkeheickaogpiaaCmM
import Derived.Test.YtkeheickaogpiaaCmN
import Derived.WalkKit
import Derived.Sort.CutIn
import Derived.IntWalk
namespace Go.Proofs.Ytkeheickaogpiaa
open Go Go.RowKit Go.Shelf
attribute [local go_sem] Oper.semAt_some
set_option linter.unusedVariables false
set_option linter.unusedSimpArgs false


/-- The parity of a number's lowest bits. -/
def pj (n : Nat) : Nat → Nat
  | 0 => 0
  | j + 1 => (pj n j + n / 2 ^ j) % 2
def sN (a b : List UInt8) (i : Nat) : Nat := (a.getD i 0 ^^^ b.getD i 0).toNat
def sO (a b : List UInt8) : Nat → Nat
  | 0 => 0
  | i + 1 => (sO a b i + pj (sN a b i) 8) % 2
theorem sN_lt (a b : List UInt8) (i : Nat) : sN a b i < 256 := (a.getD i 0 ^^^ b.getD i 0).toNat_lt
theorem sO_lt (a b : List UInt8) (i : Nat) : sO a b i < 2 := by cases i <;> simp only [sO] <;> omega
theorem sN_sh (a b : List UInt8) (i j : Nat) : sN a b i / 2 ^ j < 256 := Nat.lt_of_le_of_lt (Nat.div_le_self _ _) (sN_lt a b i)
theorem sN_go {n j : Nat} (hn : n < 256) (h : (0 : Int) < ((n / 2 ^ j : Nat) : Int)) : j + 1 ≤ 8 := by
  rcases Nat.lt_or_ge j 8 with h8 | h8
  · omega
  · have h1 : 2 ^ 8 ≤ 2 ^ j := Nat.pow_le_pow_right (by omega) h8
    have h2 : n / 2 ^ j = 0 := Nat.div_eq_of_lt (by omega)
    omega
theorem sN_half (n j : Nat) : n / 2 ^ (j + 1) = n / 2 ^ j / 2 := by rw [Nat.pow_succ, Nat.div_div_eq_div_mul]
theorem sN_dec {n j : Nat} (h : (0 : Int) < ((n / 2 ^ j : Nat) : Int)) : n / 2 ^ j / 2 < n / 2 ^ j := by
  exact Nat.div_lt_self (Int.natCast_pos.1 h) (by decide)
theorem pj_end {n j : Nat} (h : ¬ (0 : Int) < ((n / 2 ^ j : Nat) : Int)) : ∀ k, j ≤ k → pj n j % 2 = pj n k % 2 := by
  intro k hk
  induction k with
  | zero => rw [show j = 0 by omega]
  | succ k ih =>
    rcases Nat.lt_or_ge k j with h1 | h1
    · rw [show j = k + 1 by omega]
    · have h2 : 2 ^ j ≤ 2 ^ k := Nat.pow_le_pow_right (by omega) h1
      have h3 : n / 2 ^ k ≤ n / 2 ^ j := Nat.div_le_div_left h2 (Nat.two_pow_pos j)
      have h5 : n / 2 ^ j = 0 := Nat.eq_zero_of_not_pos fun h6 => h (Int.natCast_pos.2 h6)
      have h4 : n / 2 ^ k = 0 := Nat.le_zero.1 (h5 ▸ h3)
      rw [ih h1, pj, h4]; omega
theorem pj_step (s n j : Nat) : (((s + pj n j) % 2 + n / 2 ^ j % 2) % 2) = (s + pj n (j + 1)) % 2 := by rw [pj]; omega

def CodecStrays1_0 (l : List UInt8) (x : Int) (y : Int) : Bool := (bif (decide ((rvirt_0 x false) = (rvirt_0 y false))) || (((sO (rvirt_0 x false) (rvirt_0 y false) 3 : Nat) : Int) == 0) then true else (decide (2 ≤ (jK ((List.range 8).map (dK (encT 9 (eW1 l x false) 8) y))))) && (decide ((dDec1_0 (encT 9 (eW1 l x false) 8) y) = List.replicate 64 0)))
set_option maxRecDepth 100000 in
set_option maxHeartbeats 1000000 in
theorem CodecStrays1_any (l : List UInt8) (hl : l.length = 64) (x : Int) (h0 : -9223372036854775808 ≤ x) (h1 : x ≤ 9223372036854775807) (y : Int) (h2 : -9223372036854775808 ≤ y) (h3 : y ≤ 9223372036854775807) (w : World) : Calls Try.prog 7 #[.int .i64 1, .agg (rB 64 l).toArray, .int .i64 x, .int .i64 y] w fun e w' => e = .returned (.bool (CodecStrays1_0 l x y)) ∧ Below w.heap.size w w' := by
  have HRV : ∀ x p, (rvirt_0 x p).length = 3 := fun x p => by cases p <;> rfl
  have HEN := fun (l : List UInt8) (x : Int) (p : Bool) => encT_len (n := 9) (eW1_len l x p) (k := 8) (by decide)
  have HDC : ∀ r x, (dDec1_0 r x).length = 64 := fun r x => by unfold dDec1_0; cases (decide (2 ≤ jK ((List.range 8).map (dK r x)))) <;> simp [fillL_len]
  have H : Has [] w := has_nil
  have OW : Hid (OwnS [] w [] w) := Lib.hid (OwnS.start H)
  refine (callsIn_wide (n := 6)).1 ?_
  refine callsIn_of_wp_marks Try.func7 rfl trivial ?_ rfl
  simp only [Try.ntmps7, List.size_toArray, List.length_cons, List.length_nil, Nat.reduceAdd, Nat.reduceSub, Array.replicate_succ, Array.replicate_zero, List.push_toArray, List.append_toArray, List.nil_append, List.cons_append]
  gi_upto_region 0 with fail
  refine wpIn_region_re 1 (fun ηq1 => [.bx 0 23 (.agg (rB 64 l).toArray),
      .pv (.bool false)])
    (fun ηq1 L => L ++ [((ηq1 0).blk 0, Obj.cells (rB 64 l).toArray 23 (0, 0))]) (by kernel_rfl) OW (fun _ => by kernel_rfl) ?_
  clear OW; intro ηq1 ysq1 Wq1 OW
  simp only [↓putE_cons, ↓putE_nil, valE, Hint.val, Act.put, List.setIfInBounds_toArray, List.set_cons_succ, List.set_cons_zero]
  gi_upto_region 1 with fail
  refine wpIn_region_re 6 (fun ηq2 => [.cl 11 #[] (fun E => .pointer (some ⟨E.blk 0, 0, none⟩)) [] [] (fun E => [(1, (E.blk 0, Obj.cells #[.pointer (some ⟨E.blk 1, 0, none⟩), .pointer (some ⟨E.blk 2, 0, none⟩)] 61 (0, 0))), (2, (E.blk 1, Obj.cells hsN 102 (0, 0))), (3, (E.blk 2, Obj.cells #[.pointer (some ⟨E.blk 3, 0, none⟩), .slice (some ⟨E.blk 4, 0, none⟩) 5 (5 + (E.rest 0).length)] 109 (0, 0))), (4, (E.blk 3, Obj.cells fieldCells 137 (0, 0))), (5, (E.blk 4, Obj.cells (rowV genL (E.rest 0)) 5 (0, 0)))]) (enters_of Try.func11 (by kernel_rfl) rfl) (fun w' H => callsIn_wide.2 (dcoder_any  w' H)),
      .pv (.pointer (some ⟨(ηq2 0).blk 0, 0, none⟩))])
    (fun ηq2 L => L ++ [((ηq2 0).blk 0, Obj.cells #[.pointer (some ⟨(ηq2 0).blk 1, 0, none⟩), .pointer (some ⟨(ηq2 0).blk 2, 0, none⟩)] 61 (0, 0)), ((ηq2 0).blk 1, Obj.cells hsN 102 (0, 0)), ((ηq2 0).blk 2, Obj.cells #[.pointer (some ⟨(ηq2 0).blk 3, 0, none⟩), .slice (some ⟨(ηq2 0).blk 4, 0, none⟩) 5 (5 + ((ηq2 0).rest 0).length)] 109 (0, 0)), ((ηq2 0).blk 3, Obj.cells fieldCells 137 (0, 0)), ((ηq2 0).blk 4, Obj.cells (rowV genL ((ηq2 0).rest 0)) 5 (0, 0))]) (by kernel_rfl) OW (fun _ => by kernel_rfl) ?_
  clear OW; intro ηq2 ysq2 Wq2 OW
  simp only [↓putE_cons, ↓putE_nil, valE, Hint.val, Act.put, List.setIfInBounds_toArray, List.set_cons_succ, List.set_cons_zero]
  gi_upto_region 2 with fail
  refine wpIn_region_re 6 (fun ηq3 => [.pv (.pointer (some ⟨(ηq2 0).blk 0, 0, none⟩)),
      .pv (.bool false)])
    (fun ηq3 L => L) (by kernel_rfl) OW (fun _ => by kernel_rfl) ?_
  clear OW; intro ηq3 ysq3 Wq3 OW
  simp only [↓putE_cons, ↓putE_nil, valE, Hint.val, Act.put, List.setIfInBounds_toArray, List.set_cons_succ, List.set_cons_zero]
  gi_upto_region 4 with fail
  refine wpIn_region_re 6 (fun ηq4 => [.pv (.int .i64 1),
      .cl 14 #[.int .i64 1] (fun E => .bool ((1 == 1) || (1 == 2))) [] [] (fun E => []) (enters_of Try.func14 (by kernel_rfl) rfl) (fun w' H => cB (callsIn_wide.2 (dmode_any 1 w'))),
      .pv (.bool (!((1 == 1) || (1 == 2))))])
    (fun ηq4 L => L) (by kernel_rfl) OW (fun _ => by kernel_rfl) ?_
  clear OW; intro ηq4 ysq4 Wq4 OW
  simp only [↓putE_cons, ↓putE_nil, valE, Hint.val, Act.put, List.setIfInBounds_toArray, List.set_cons_succ, List.set_cons_zero]
  cases hB5 : (!((1 == 1) || (1 == 2)))
  case true => exact absurd (hB5.symm.trans (show _ = false from rfl)) (by decide)
  case false =>
    gi_upto_region 6 with fail
    refine wpIn_region_re 8 (fun ηq6 => [.pv (.int .i64 x),
        .cl 19 #[.int .i64 x, .bool false] (fun E => .agg (rB 3 (rvirt_0 x false)).toArray) [] [] (fun E => []) (enters_of Try.func19 (by kernel_rfl) rfl) (fun w' H => cB (callsIn_wide.2 (rvirt_any x (by omega) (by omega) false w'))),
        .pv (.int .i64 y),
        .cl 19 #[.int .i64 y, .bool false] (fun E => .agg (rB 3 (rvirt_0 y false)).toArray) [] [] (fun E => []) (enters_of Try.func19 (by kernel_rfl) rfl) (fun w' H => cB (callsIn_wide.2 (rvirt_any y (by omega) (by omega) false w'))),
        .al 6 43 (rB 3 (List.replicate 3 0)).toArray,
        .al 7 43 (rB 3 (List.replicate 3 0)).toArray,
        .ss 6 ((ηq6 4).blk 0) 0 43 (rB 3 (rvirt_0 x false)) (rB 3 (rvirt_0 x false)).toArray,
        .ss 7 ((ηq6 5).blk 0) 0 43 (rB 3 (rvirt_0 y false)) (rB 3 (rvirt_0 y false)).toArray])
      (fun ηq6 L => L ++ [((ηq6 4).blk 0, Obj.cells (rB 3 (rvirt_0 x false)).toArray 43 (0, 0)), ((ηq6 5).blk 0, Obj.cells (rB 3 (rvirt_0 y false)).toArray 43 (0, 0))]) (by kernel_rfl) OW (fun _ => by kernel_rfl) ?_
    clear OW; intro ηq6 ysq6 Wq6 OW
    simp only [↓putE_cons, ↓putE_nil, valE, Hint.val, Act.put, List.setIfInBounds_toArray, List.set_cons_succ, List.set_cons_zero]
    gi_upto_region 7 with fail
    refine wpIn_region_re 8 (fun ηq7 => [.pv (.int .i64 0)])
      (fun ηq7 L => L) (by kernel_rfl) OW (fun _ => by kernel_rfl) ?_
    clear OW; intro ηq7 ysq7 Wq7 OW
    simp only [↓putE_cons, ↓putE_nil, valE, Hint.val, Act.put, List.setIfInBounds_toArray, List.set_cons_succ, List.set_cons_zero]
    gi_upto_region 8 with fail
    refine wpIn_region_re 8 (fun ηq8 => [.pv (.int .i64 0)])
      (fun ηq8 L => L) (by kernel_rfl) OW (fun _ => by kernel_rfl) ?_
    clear OW; intro ηq8 ysq8 Wq8 OW
    simp only [↓putE_cons, ↓putE_nil, valE, Hint.val, Act.put, List.setIfInBounds_toArray, List.set_cons_succ, List.set_cons_zero]
    gi_wp2
    gi_loopw [27, 12] (fun z27 z12 wr => ∃ i : Nat, i ≤ 3 ∧ z27 = .int .i64 (i : Int) ∧ z12 = .int .i64 ((sO (rvirt_0 x false) (rvirt_0 y false) i : Nat) : Int) ∧ OwnS [] w [((ηq1 0).blk 0, Obj.cells (rB 64 l).toArray 23 (0, 0)), ((ηq2 0).blk 0, Obj.cells #[.pointer (some ⟨(ηq2 0).blk 1, 0, none⟩), .pointer (some ⟨(ηq2 0).blk 2, 0, none⟩)] 61 (0, 0)), ((ηq2 0).blk 1, Obj.cells hsN 102 (0, 0)), ((ηq2 0).blk 2, Obj.cells #[.pointer (some ⟨(ηq2 0).blk 3, 0, none⟩), .slice (some ⟨(ηq2 0).blk 4, 0, none⟩) 5 (5 + ((ηq2 0).rest 0).length)] 109 (0, 0)), ((ηq2 0).blk 3, Obj.cells fieldCells 137 (0, 0)), ((ηq2 0).blk 4, Obj.cells (rowV genL ((ηq2 0).rest 0)) 5 (0, 0)), ((ηq6 4).blk 0, Obj.cells (rB 3 (rvirt_0 x false)).toArray 43 (0, 0)), ((ηq6 5).blk 0, Obj.cells (rB 3 (rvirt_0 y false)).toArray 43 (0, 0))] wr) (fun z27 z12 _ => 3 - (intOf (z27)).toNat)
    case atStart => exact ⟨0, by omega, rfl, rfl, (by skip; exact OwnS.cast OW.out (by kernel_rfl))⟩
    case round =>
      obtain ⟨i, hk10, rfl, rfl, hO⟩ := hrel
      clear OW
      have OW := Lib.hid hO
      clear hO
      gi_upto_region 9 with fail
      refine wpIn_region_re 8 (fun ηq12 => [.pv (.bool (decide ((i : Int) < 3)))])
        (fun ηq12 L => L) (by kernel_rfl) OW (fun _ => by kernel_rfl) ?_
      clear OW; intro ηq12 ysq12 Wq12 OW
      simp only [↓putE_cons, ↓putE_nil, valE, Hint.val, Act.put, List.setIfInBounds_toArray, List.set_cons_succ, List.set_cons_zero]
      cases hB13 : (decide ((i : Int) < 3))
      case true =>
        have dhB13 := of_decide_eq_true hB13
        gi_upto_region 10 with fail
        refine wpIn_region_re 8 (fun ηq14 => [.pv (.int .i64 (i : Int)),
            .pv (.int .i64 (i : Int))])
          (fun ηq14 L => L) (by kernel_rfl) OW (fun _ => by kernel_rfl) ?_
        clear OW; intro ηq14 ysq14 Wq14 OW
        simp only [↓putE_cons, ↓putE_nil, valE, Hint.val, Act.put, List.setIfInBounds_toArray, List.set_cons_succ, List.set_cons_zero]
        gi_upto_region 11 with fail
        refine wpIn_region_re 8 (fun ηq15 => [.pv (.int .i64 (i : Int)),
            .tv (.pointer (some ⟨(ηq6 4).blk 0, 0 + i * 1, none⟩)) (Instr.indexAt 43 (.pointer (some ⟨(ηq6 4).blk 0, 0, none⟩)) (.int .i64 (i : Int))) (fun _ => idx_ar (N := 3) (k := i) (by kernel_rfl) (by omega)),
            .lt (.int .u8 (((rvirt_0 x false).getD i 0).toNat : Int)) 6 (0 + i * 1) ((ηq6 4).blk 0) (rB 3 (rvirt_0 x false)).toArray 43 (by simpa only [Nat.zero_add, Nat.mul_one] using rB_get (by omega)),
            .pv (.int .i64 (i : Int)),
            .tv (.pointer (some ⟨(ηq6 5).blk 0, 0 + i * 1, none⟩)) (Instr.indexAt 43 (.pointer (some ⟨(ηq6 5).blk 0, 0, none⟩)) (.int .i64 (i : Int))) (fun _ => idx_ar (N := 3) (k := i) (by kernel_rfl) (by omega)),
            .lt (.int .u8 (((rvirt_0 y false).getD i 0).toNat : Int)) 7 (0 + i * 1) ((ηq6 5).blk 0) (rB 3 (rvirt_0 y false)).toArray 43 (by simpa only [Nat.zero_add, Nat.mul_one] using rB_get (by omega)),
            .tv (.int .u8 ((((rvirt_0 x false).getD i 0) ^^^ ((rvirt_0 y false).getD i 0)).toNat : Int)) (sBin .xor 5 (.tmp 32) (.tmp 35) (.int .u8 (((rvirt_0 x false).getD i 0).toNat : Int)) (.int .u8 (((rvirt_0 y false).getD i 0).toNat : Int))) (fun _ => bin_xor8 (a := (rvirt_0 x false).getD i 0) (b := (rvirt_0 y false).getD i 0)),
            .pv (.int .u8 ((((rvirt_0 x false).getD i 0) ^^^ ((rvirt_0 y false).getD i 0)).toNat : Int))])
          (fun ηq15 L => L) (by kernel_rfl) OW (fun _ => by kernel_rfl) ?_
        clear OW; intro ηq15 ysq15 Wq15 OW
        simp only [↓putE_cons, ↓putE_nil, valE, Hint.val, Act.put, List.setIfInBounds_toArray, List.set_cons_succ, List.set_cons_zero]
        gi_wp2
        gi_loopw [14, 12] (fun z14 z12 wr => ∃ j : Nat, j ≤ 8 ∧ z14 = .int .u8 ((sN (rvirt_0 x false) (rvirt_0 y false) i / 2 ^ j : Nat) : Int) ∧ z12 = .int .i64 (((sO (rvirt_0 x false) (rvirt_0 y false) i + pj (sN (rvirt_0 x false) (rvirt_0 y false) i) j) % 2 : Nat) : Int) ∧ OwnS [] w [((ηq1 0).blk 0, Obj.cells (rB 64 l).toArray 23 (0, 0)), ((ηq2 0).blk 0, Obj.cells #[.pointer (some ⟨(ηq2 0).blk 1, 0, none⟩), .pointer (some ⟨(ηq2 0).blk 2, 0, none⟩)] 61 (0, 0)), ((ηq2 0).blk 1, Obj.cells hsN 102 (0, 0)), ((ηq2 0).blk 2, Obj.cells #[.pointer (some ⟨(ηq2 0).blk 3, 0, none⟩), .slice (some ⟨(ηq2 0).blk 4, 0, none⟩) 5 (5 + ((ηq2 0).rest 0).length)] 109 (0, 0)), ((ηq2 0).blk 3, Obj.cells fieldCells 137 (0, 0)), ((ηq2 0).blk 4, Obj.cells (rowV genL ((ηq2 0).rest 0)) 5 (0, 0)), ((ηq6 4).blk 0, Obj.cells (rB 3 (rvirt_0 x false)).toArray 43 (0, 0)), ((ηq6 5).blk 0, Obj.cells (rB 3 (rvirt_0 y false)).toArray 43 (0, 0))] wr) (fun z14 z12 _ => (intOf z14).toNat)
        case atStart => exact ⟨0, by omega, by rw [Nat.pow_zero, Nat.div_one]; rfl, by rw [pj, Nat.add_zero, Nat.mod_eq_of_lt (sO_lt _ _ _)], (by skip; exact OwnS.cast OW.out (by kernel_rfl))⟩
        case round =>
          obtain ⟨j, hk17, rfl, rfl, hO⟩ := hrel
          clear OW
          have HSN := sN_sh (rvirt_0 x false) (rvirt_0 y false) i j
          have HJ := hk17
          have OW := Lib.hid hO
          clear hO
          gi_upto_region 12 with fail
          refine wpIn_region_re 8 (fun ηq19 => [.pv (.int .u8 ((sN (rvirt_0 x false) (rvirt_0 y false) i / 2 ^ j : Nat) : Int)),
              .pv (.bool (decide (0 < ((sN (rvirt_0 x false) (rvirt_0 y false) i / 2 ^ j : Nat) : Int))))])
            (fun ηq19 L => L) (by kernel_rfl) OW (fun _ => by kernel_rfl) ?_
          clear OW; intro ηq19 ysq19 Wq19 OW
          simp only [↓putE_cons, ↓putE_nil, valE, Hint.val, Act.put, List.setIfInBounds_toArray, List.set_cons_succ, List.set_cons_zero]
          cases hB20 : (decide (0 < ((sN (rvirt_0 x false) (rvirt_0 y false) i / 2 ^ j : Nat) : Int)))
          case true =>
            have dhB20 := of_decide_eq_true hB20
            gi_upto_region 14 with fail
            refine wpIn_region_re 8 (fun ηq21 => [.pv (.int .i64 (((sO (rvirt_0 x false) (rvirt_0 y false) i + pj (sN (rvirt_0 x false) (rvirt_0 y false) i) j) % 2 : Nat) : Int)),
                .pv (.int .u8 ((sN (rvirt_0 x false) (rvirt_0 y false) i / 2 ^ j : Nat) : Int)),
                .tv (.int .u8 ((sN (rvirt_0 x false) (rvirt_0 y false) i / 2 ^ j % 2 : Nat) : Int)) (sBin .and 5 (.tmp 42) (.const (.int .u8 1)) (.int .u8 ((sN (rvirt_0 x false) (rvirt_0 y false) i / 2 ^ j : Nat) : Int)) (.int .u8 1)) (fun _ => bin_low_u8 (by omega)),
                .tv (.int .i64 ((sN (rvirt_0 x false) (rvirt_0 y false) i / 2 ^ j % 2 : Nat) : Int)) (convert 5 3 (.int .u8 ((sN (rvirt_0 x false) (rvirt_0 y false) i / 2 ^ j % 2 : Nat) : Int))) (fun _ => cvt_u8n Try.underlying5 Try.underlying3 (by omega)),
                .tv (.int .i64 ((((sO (rvirt_0 x false) (rvirt_0 y false) i + pj (sN (rvirt_0 x false) (rvirt_0 y false) i) j) % 2 + sN (rvirt_0 x false) (rvirt_0 y false) i / 2 ^ j % 2) % 2 : Nat) : Int)) (sBin .xor 3 (.tmp 41) (.tmp 44) (.int .i64 (((sO (rvirt_0 x false) (rvirt_0 y false) i + pj (sN (rvirt_0 x false) (rvirt_0 y false) i) j) % 2 : Nat) : Int)) (.int .i64 ((sN (rvirt_0 x false) (rvirt_0 y false) i / 2 ^ j % 2 : Nat) : Int))) (fun _ => bin_xor_bit (by omega) (by omega)),
                .pv (.int .i64 ((((sO (rvirt_0 x false) (rvirt_0 y false) i + pj (sN (rvirt_0 x false) (rvirt_0 y false) i) j) % 2 + sN (rvirt_0 x false) (rvirt_0 y false) i / 2 ^ j % 2) % 2 : Nat) : Int))])
              (fun ηq21 L => L) (by kernel_rfl) OW (fun _ => by kernel_rfl) ?_
            clear OW; intro ηq21 ysq21 Wq21 OW
            simp only [↓putE_cons, ↓putE_nil, valE, Hint.val, Act.put, List.setIfInBounds_toArray, List.set_cons_succ, List.set_cons_zero]
            gi_upto_region 13 with fail
            refine wpIn_region_re 8 (fun ηq22 => [.pv (.int .u8 ((sN (rvirt_0 x false) (rvirt_0 y false) i / 2 ^ j : Nat) : Int)),
                .tv (.int .u8 (((sN (rvirt_0 x false) (rvirt_0 y false) i / 2 ^ j) / 2 : Nat) : Int)) (sBin .quo 5 (.tmp 39) (.const (.int .u8 2)) (.int .u8 ((sN (rvirt_0 x false) (rvirt_0 y false) i / 2 ^ j : Nat) : Int)) (.int .u8 2)) (fun _ => bin_quo_u8 (a := sN (rvirt_0 x false) (rvirt_0 y false) i / 2 ^ j) (d := 2) (by decide) (by omega)),
                .pv (.int .u8 (((sN (rvirt_0 x false) (rvirt_0 y false) i / 2 ^ j) / 2 : Nat) : Int))])
              (fun ηq22 L => L) (by kernel_rfl) OW (fun _ => by kernel_rfl) ?_
            clear OW; intro ηq22 ysq22 Wq22 OW
            simp only [↓putE_cons, ↓putE_nil, valE, Hint.val, Act.put, List.setIfInBounds_toArray, List.set_cons_succ, List.set_cons_zero]
            gi_wp2
            have HME := sN_dec (n := sN (rvirt_0 x false) (rvirt_0 y false) i) (j := j) (by assumption)
            go_roundw
            case rel => exact ⟨j + 1, sN_go (sN_lt _ _ _) (by assumption), by rw [sN_half], by rw [← pj_step], (by skip; exact OwnS.cast OW.out (by kernel_rfl))⟩
            case measure => exact HME
          have dhB20 := of_decide_eq_false hB20
          gi_upto_region 15 with fail
          have HPJ := pj_end (n := sN (rvirt_0 x false) (rvirt_0 y false) i) (j := j) (by assumption) 8 HJ
          refine wpIn_region_re 8 (fun ηq23 => [.tv (.int .i64 ((i + 1 : Nat) : Int)) (sBin .add 3 (.tmp 27) (.const (.int .i64 1)) (.int .i64 (i : Int)) (.int .i64 1)) (fun _ => bin_add_nat (a := i) (b := 1) (by omega)),
              .pv (.int .i64 ((i + 1 : Nat) : Int))])
            (fun ηq23 L => L) (by kernel_rfl) OW (fun _ => by kernel_rfl) ?_
          clear OW; intro ηq23 ysq23 Wq23 OW
          simp only [↓putE_cons, ↓putE_nil, valE, Hint.val, Act.put, List.setIfInBounds_toArray, List.set_cons_succ, List.set_cons_zero]
          gi_wp2
          go_roundw
          case rel => exact ⟨i + 1, by omega, by go_num, by rw [sO]; exact congrArg (fun (z : Nat) => Value.int .i64 (z : Int)) (by have := HPJ; omega), (by skip; exact OwnS.cast OW.out (by kernel_rfl))⟩
          case measure => (simp [intOf] <;> omega)
      have dhB13 := of_decide_eq_false hB13
      obtain rfl : i = 3 := by omega
      gi_upto_region 16 with fail
      refine wpIn_region_re 8 (fun ηq24 => [.ls (rB 3 (rvirt_0 x false)) 6 0,
          .ls (rB 3 (rvirt_0 y false)) 7 0,
          .tv (.bool (decide ((rvirt_0 x false) = (rvirt_0 y false)))) (sBin .eql 43 (.tmp 47) (.tmp 48) (.agg (rB 3 (rvirt_0 x false)).toArray) (.agg (rB 3 (rvirt_0 y false)).toArray)) (fun _ => bin_eqT (xs := rB 3 (rvirt_0 x false)) (ys := rB 3 (rvirt_0 y false)) (by kernel_rfl) (eqc_rB (show ((rvirt_0 x false)).length = 3 by first | rfl | (simp only [List.length_set, List.length_append, List.length_replicate, List.length_cons, List.length_nil, List.length_map, List.length_range, List.length_take, List.length_drop, HEN, HDC, HRV, hl]; done) | (simp only [List.length_set, List.length_append, List.length_replicate, List.length_cons, List.length_nil, List.length_map, List.length_range, List.length_take, List.length_drop, HEN, HDC, HRV, hl]; omega)) (show ((rvirt_0 y false)).length = 3 by first | rfl | (simp only [List.length_set, List.length_append, List.length_replicate, List.length_cons, List.length_nil, List.length_map, List.length_range, List.length_take, List.length_drop, HEN, HDC, HRV, hl]; done) | (simp only [List.length_set, List.length_append, List.length_replicate, List.length_cons, List.length_nil, List.length_map, List.length_range, List.length_take, List.length_drop, HEN, HDC, HRV, hl]; omega)))),
          .pv (.bool (decide ((rvirt_0 x false) = (rvirt_0 y false)))),
          .pv (.int .i64 1),
          .pv (.bool true),
          .pv (.bool true),
          .pv (.int .i64 ((sO (rvirt_0 x false) (rvirt_0 y false) 3 : Nat) : Int)),
          .pv (.bool (((sO (rvirt_0 x false) (rvirt_0 y false) 3 : Nat) : Int) == 0)),
          .pk (.bool (((sO (rvirt_0 x false) (rvirt_0 y false) 3 : Nat) : Int) == 0)),
          .pk (.bool ((decide ((rvirt_0 x false) = (rvirt_0 y false))) || (((sO (rvirt_0 x false) (rvirt_0 y false) 3 : Nat) : Int) == 0)))])
        (fun ηq24 L => L) (by kernel_rfl) OW (fun _ => by kernel_rfl) ?_
      clear OW; intro ηq24 ysq24 Wq24 OW
      simp only [↓putE_cons, ↓putE_nil, valE, Hint.val, Act.put, List.setIfInBounds_toArray, List.set_cons_succ, List.set_cons_zero]
      cases hB25 : ((decide ((rvirt_0 x false) = (rvirt_0 y false))) || (((sO (rvirt_0 x false) (rvirt_0 y false) 3 : Nat) : Int) == 0))
      case true =>
        gi_upto_region 17 with fail
        refine wpIn_region_re 8 (fun ηq26 => [.pv (.bool true)])
          (fun ηq26 L => L) (by kernel_rfl) OW (fun _ => by kernel_rfl) ?_
        clear OW; intro ηq26 ysq26 Wq26 OW
        simp only [↓putE_cons, ↓putE_nil, valE, Hint.val, Act.put, List.setIfInBounds_toArray, List.set_cons_succ, List.set_cons_zero]
        gi_wp2
        exact leavesS OW [.t (.bool true)] (by kernel_rfl) fun hO => ⟨(by (try simp only [CodecStrays1_0]); (repeat (first | rw [hB5] | rw [hB13] | rw [hB25] | rw [cond_true] | rw [cond_false])); try rfl), hO.done⟩
      gi_upto_region 18 with fail
      refine wpIn_region_re 10 (fun ηq27 => [.pv (.pointer (some ⟨(ηq2 0).blk 0, 0, none⟩)),
          .pv (.int .i64 1),
          .pv (.pointer (some ⟨(ηq2 0).blk 0, 0, none⟩)),
          .pv (.int .i64 1),
          .ls (rB 64 l) 0 0,
          .pv (.int .i64 x),
          .cl 12 #[.pointer (some ⟨(ηq2 0).blk 0, 0, none⟩), .int .i64 1, .agg (rB 64 l).toArray, .int .i64 x, .bool false] (fun E => .agg (rB 72 (encT 9 (eW1 l x false) 8)).toArray) [(1, ((ηq2 0).blk 0, Obj.cells #[.pointer (some ⟨(ηq2 0).blk 1, 0, none⟩), .pointer (some ⟨(ηq2 0).blk 2, 0, none⟩)] 61 (0, 0))), (2, ((ηq2 0).blk 1, Obj.cells hsN 102 (0, 0)))] [] (fun E => []) (enters_of Try.func12 (by kernel_rfl) rfl) (fun w' H => cN (callsIn_wide.2 (dEnc1_any ((ηq2 0).blk 0) ((ηq2 0).blk 1) ((ηq2 0).blk 2) l (by first | rfl | (simp only [List.length_set, List.length_append, List.length_replicate, List.length_cons, List.length_nil, List.length_map, List.length_range, List.length_take, List.length_drop, HEN, HDC, HRV, hl]; done) | (simp only [List.length_set, List.length_append, List.length_replicate, List.length_cons, List.length_nil, List.length_map, List.length_range, List.length_take, List.length_drop, HEN, HDC, HRV, hl]; omega)) x (by omega) (by omega) false w' H))),
          .pv (.int .i64 y),
          .cl 13 #[.pointer (some ⟨(ηq2 0).blk 0, 0, none⟩), .int .i64 1, .agg (rB 72 (encT 9 (eW1 l x false) 8)).toArray, .int .i64 y] (fun E => .tuple #[.agg (rB 64 (dDec1_0 (encT 9 (eW1 l x false) 8) y)).toArray, .agg #[.int .i64 (jK ((List.range 8).map (dK (encT 9 (eW1 l x false) 8) y))), .int .i64 (djoin_0 ((List.range 8).map (dK (encT 9 (eW1 l x false) 8) y)))]]) [(1, ((ηq2 0).blk 0, Obj.cells #[.pointer (some ⟨(ηq2 0).blk 1, 0, none⟩), .pointer (some ⟨(ηq2 0).blk 2, 0, none⟩)] 61 (0, 0))), (2, ((ηq2 0).blk 1, Obj.cells hsN 102 (0, 0)))] [] (fun E => []) (enters_of Try.func13 (by kernel_rfl) rfl) (fun w' H => cN (callsIn_wide.2 (dDec1_any ((ηq2 0).blk 0) ((ηq2 0).blk 1) ((ηq2 0).blk 2) (encT 9 (eW1 l x false) 8) (by first | rfl | (simp only [List.length_set, List.length_append, List.length_replicate, List.length_cons, List.length_nil, List.length_map, List.length_range, List.length_take, List.length_drop, HEN, HDC, HRV, hl]; done) | (simp only [List.length_set, List.length_append, List.length_replicate, List.length_cons, List.length_nil, List.length_map, List.length_range, List.length_take, List.length_drop, HEN, HDC, HRV, hl]; omega)) y (by omega) (by omega) w' H))),
          .pv (.tuple #[.agg (rB 64 (dDec1_0 (encT 9 (eW1 l x false) 8) y)).toArray, .agg #[.int .i64 (jK ((List.range 8).map (dK (encT 9 (eW1 l x false) 8) y))), .int .i64 (djoin_0 ((List.range 8).map (dK (encT 9 (eW1 l x false) 8) y)))]]),
          .pv (.agg (rB 64 (dDec1_0 (encT 9 (eW1 l x false) 8) y)).toArray),
          .pv (.agg #[.int .i64 (jK ((List.range 8).map (dK (encT 9 (eW1 l x false) 8) y))), .int .i64 (djoin_0 ((List.range 8).map (dK (encT 9 (eW1 l x false) 8) y)))]),
          .al 8 23 (rB 64 (List.replicate 64 0)).toArray,
          .al 9 30 #[.int .i64 0, .int .i64 0],
          .ss 8 ((ηq27 12).blk 0) 0 23 (rB 64 (dDec1_0 (encT 9 (eW1 l x false) 8) y)) (rB 64 (dDec1_0 (encT 9 (eW1 l x false) 8) y)).toArray,
          .ss 9 ((ηq27 13).blk 0) 0 30 ([.int .i64 (jK ((List.range 8).map (dK (encT 9 (eW1 l x false) 8) y))), .int .i64 (djoin_0 ((List.range 8).map (dK (encT 9 (eW1 l x false) 8) y)))]) #[.int .i64 (jK ((List.range 8).map (dK (encT 9 (eW1 l x false) 8) y))), .int .i64 (djoin_0 ((List.range 8).map (dK (encT 9 (eW1 l x false) 8) y)))]])
        (fun ηq27 L => L ++ [((ηq27 12).blk 0, Obj.cells (rB 64 (dDec1_0 (encT 9 (eW1 l x false) 8) y)).toArray 23 (0, 0)), ((ηq27 13).blk 0, Obj.cells #[.int .i64 (jK ((List.range 8).map (dK (encT 9 (eW1 l x false) 8) y))), .int .i64 (djoin_0 ((List.range 8).map (dK (encT 9 (eW1 l x false) 8) y)))] 30 (0, 0))]) (by kernel_rfl) OW (fun _ => by kernel_rfl) ?_
      clear OW; intro ηq27 ysq27 Wq27 OW
      simp only [↓putE_cons, ↓putE_nil, valE, Hint.val, Act.put, List.setIfInBounds_toArray, List.set_cons_succ, List.set_cons_zero]
      gi_upto_region 19 with fail
      refine wpIn_region_re 10 (fun ηq28 => [.pv (.pointer (some ⟨(ηq27 13).blk 0, 0, none⟩)),
          .ld (.int .i64 (jK ((List.range 8).map (dK (encT 9 (eW1 l x false) 8) y)))) 9 0,
          .pv (.bool (decide (2 ≤ (jK ((List.range 8).map (dK (encT 9 (eW1 l x false) 8) y)))))),
          .pv (.bool (decide (2 ≤ (jK ((List.range 8).map (dK (encT 9 (eW1 l x false) 8) y)))))),
          .ls (rB 64 (dDec1_0 (encT 9 (eW1 l x false) 8) y)) 8 0,
          .pv (.agg (rB 64 (List.replicate 64 0)).toArray),
          .tv (.bool (decide ((dDec1_0 (encT 9 (eW1 l x false) 8) y) = List.replicate 64 0))) (sBin .eql 23 (.tmp 74) (.tmp 75) (.agg (rB 64 (dDec1_0 (encT 9 (eW1 l x false) 8) y)).toArray) (.agg (rB 64 (List.replicate 64 0)).toArray)) (fun _ => bin_eqT (xs := rB 64 (dDec1_0 (encT 9 (eW1 l x false) 8) y)) (ys := rB 64 (List.replicate 64 0)) (by kernel_rfl) (eqc_rB (show ((dDec1_0 (encT 9 (eW1 l x false) 8) y)).length = 64 by first | rfl | (simp only [List.length_set, List.length_append, List.length_replicate, List.length_cons, List.length_nil, List.length_map, List.length_range, List.length_take, List.length_drop, HEN, HDC, HRV, hl]; done) | (simp only [List.length_set, List.length_append, List.length_replicate, List.length_cons, List.length_nil, List.length_map, List.length_range, List.length_take, List.length_drop, HEN, HDC, HRV, hl]; omega)) List.length_replicate)),
          .pk (.bool ((decide (2 ≤ (jK ((List.range 8).map (dK (encT 9 (eW1 l x false) 8) y))))) && (decide ((dDec1_0 (encT 9 (eW1 l x false) 8) y) = List.replicate 64 0)))),
          .pv (.bool ((decide (2 ≤ (jK ((List.range 8).map (dK (encT 9 (eW1 l x false) 8) y))))) && (decide ((dDec1_0 (encT 9 (eW1 l x false) 8) y) = List.replicate 64 0))))])
        (fun ηq28 L => L) (by kernel_rfl) OW (fun _ => by kernel_rfl) ?_
      clear OW; intro ηq28 ysq28 Wq28 OW
      simp only [↓putE_cons, ↓putE_nil, valE, Hint.val, Act.put, List.setIfInBounds_toArray, List.set_cons_succ, List.set_cons_zero]
      gi_wp2
      exact leavesS OW [.t (.bool ((decide (2 ≤ (jK ((List.range 8).map (dK (encT 9 (eW1 l x false) 8) y))))) && (decide ((dDec1_0 (encT 9 (eW1 l x false) 8) y) = List.replicate 64 0))))] (by kernel_rfl) fun hO => ⟨(by (try simp only [CodecStrays1_0]); (repeat (first | rw [hB5] | rw [hB13] | rw [hB25] | rw [cond_true] | rw [cond_false])); try rfl), hO.done⟩
def CodecStrays2_0 (l : List UInt8) (x : Int) (y : Int) : Bool := (bif (decide ((rvirt_0 x false) = (rvirt_0 y false))) || false then true else (decide (2 ≤ (jK ((List.range 2).map (cK (encT 36 (eW2 l x false) 2) y))))) && (decide ((dDec2_0 (encT 36 (eW2 l x false) 2) y) = List.replicate 64 0)))
set_option maxRecDepth 100000 in
set_option maxHeartbeats 1000000 in
theorem CodecStrays2_any (l : List UInt8) (hl : l.length = 64) (x : Int) (h0 : -9223372036854775808 ≤ x) (h1 : x ≤ 9223372036854775807) (y : Int) (h2 : -9223372036854775808 ≤ y) (h3 : y ≤ 9223372036854775807) (w : World) : Calls Try.prog 7 #[.int .i64 2, .agg (rB 64 l).toArray, .int .i64 x, .int .i64 y] w fun e w' => e = .returned (.bool (CodecStrays2_0 l x y)) ∧ Below w.heap.size w w' := by
  have HRV : ∀ x p, (rvirt_0 x p).length = 3 := fun x p => by cases p <;> rfl
  have HEN := fun (x : Int) (p : Bool) => encT_len (n := 36) (eW2_len hl x p) (k := 2) (by decide)
  have HDC : ∀ r : List UInt8, r.length = 72 → ∀ x, (dDec2_0 r x).length = 64 := fun r hr x => by have h9 := halfT_len (hvT_len (cWx_len hr x) (Nat.le_refl 2)) (Nat.le_refl 2); unfold dDec2_0; cases (decide (2 ≤ jK ((List.range 2).map (cK r x)))) <;> simp [h9]
  have H : Has [] w := has_nil
  have OW : Hid (OwnS [] w [] w) := Lib.hid (OwnS.start H)
  refine (callsIn_wide (n := 6)).1 ?_
  refine callsIn_of_wp_marks Try.func7 rfl trivial ?_ rfl
  simp only [Try.ntmps7, List.size_toArray, List.length_cons, List.length_nil, Nat.reduceAdd, Nat.reduceSub, Array.replicate_succ, Array.replicate_zero, List.push_toArray, List.append_toArray, List.nil_append, List.cons_append]
  gi_upto_region 0 with fail
  refine wpIn_region_re 1 (fun ηq1 => [.bx 0 23 (.agg (rB 64 l).toArray),
      .pv (.bool false)])
    (fun ηq1 L => L ++ [((ηq1 0).blk 0, Obj.cells (rB 64 l).toArray 23 (0, 0))]) (by kernel_rfl) OW (fun _ => by kernel_rfl) ?_
  clear OW; intro ηq1 ysq1 Wq1 OW
  simp only [↓putE_cons, ↓putE_nil, valE, Hint.val, Act.put, List.setIfInBounds_toArray, List.set_cons_succ, List.set_cons_zero]
  gi_upto_region 1 with fail
  refine wpIn_region_re 6 (fun ηq2 => [.cl 11 #[] (fun E => .pointer (some ⟨E.blk 0, 0, none⟩)) [] [] (fun E => [(1, (E.blk 0, Obj.cells #[.pointer (some ⟨E.blk 1, 0, none⟩), .pointer (some ⟨E.blk 2, 0, none⟩)] 61 (0, 0))), (2, (E.blk 1, Obj.cells hsN 102 (0, 0))), (3, (E.blk 2, Obj.cells #[.pointer (some ⟨E.blk 3, 0, none⟩), .slice (some ⟨E.blk 4, 0, none⟩) 5 (5 + (E.rest 0).length)] 109 (0, 0))), (4, (E.blk 3, Obj.cells fieldCells 137 (0, 0))), (5, (E.blk 4, Obj.cells (rowV genL (E.rest 0)) 5 (0, 0)))]) (enters_of Try.func11 (by kernel_rfl) rfl) (fun w' H => callsIn_wide.2 (dcoder_any  w' H)),
      .pv (.pointer (some ⟨(ηq2 0).blk 0, 0, none⟩))])
    (fun ηq2 L => L ++ [((ηq2 0).blk 0, Obj.cells #[.pointer (some ⟨(ηq2 0).blk 1, 0, none⟩), .pointer (some ⟨(ηq2 0).blk 2, 0, none⟩)] 61 (0, 0)), ((ηq2 0).blk 1, Obj.cells hsN 102 (0, 0)), ((ηq2 0).blk 2, Obj.cells #[.pointer (some ⟨(ηq2 0).blk 3, 0, none⟩), .slice (some ⟨(ηq2 0).blk 4, 0, none⟩) 5 (5 + ((ηq2 0).rest 0).length)] 109 (0, 0)), ((ηq2 0).blk 3, Obj.cells fieldCells 137 (0, 0)), ((ηq2 0).blk 4, Obj.cells (rowV genL ((ηq2 0).rest 0)) 5 (0, 0))]) (by kernel_rfl) OW (fun _ => by kernel_rfl) ?_
  clear OW; intro ηq2 ysq2 Wq2 OW
  simp only [↓putE_cons, ↓putE_nil, valE, Hint.val, Act.put, List.setIfInBounds_toArray, List.set_cons_succ, List.set_cons_zero]
  gi_upto_region 2 with fail
  refine wpIn_region_re 6 (fun ηq3 => [.pv (.pointer (some ⟨(ηq2 0).blk 0, 0, none⟩)),
      .pv (.bool false)])
    (fun ηq3 L => L) (by kernel_rfl) OW (fun _ => by kernel_rfl) ?_
  clear OW; intro ηq3 ysq3 Wq3 OW
  simp only [↓putE_cons, ↓putE_nil, valE, Hint.val, Act.put, List.setIfInBounds_toArray, List.set_cons_succ, List.set_cons_zero]
  gi_upto_region 4 with fail
  refine wpIn_region_re 6 (fun ηq4 => [.pv (.int .i64 2),
      .cl 14 #[.int .i64 2] (fun E => .bool ((2 == 1) || (2 == 2))) [] [] (fun E => []) (enters_of Try.func14 (by kernel_rfl) rfl) (fun w' H => cB (callsIn_wide.2 (dmode_any 2 w'))),
      .pv (.bool (!((2 == 1) || (2 == 2))))])
    (fun ηq4 L => L) (by kernel_rfl) OW (fun _ => by kernel_rfl) ?_
  clear OW; intro ηq4 ysq4 Wq4 OW
  simp only [↓putE_cons, ↓putE_nil, valE, Hint.val, Act.put, List.setIfInBounds_toArray, List.set_cons_succ, List.set_cons_zero]
  cases hB5 : (!((2 == 1) || (2 == 2)))
  case true => exact absurd (hB5.symm.trans (show _ = false from rfl)) (by decide)
  case false =>
    gi_upto_region 6 with fail
    refine wpIn_region_re 8 (fun ηq6 => [.pv (.int .i64 x),
        .cl 19 #[.int .i64 x, .bool false] (fun E => .agg (rB 3 (rvirt_0 x false)).toArray) [] [] (fun E => []) (enters_of Try.func19 (by kernel_rfl) rfl) (fun w' H => cB (callsIn_wide.2 (rvirt_any x (by omega) (by omega) false w'))),
        .pv (.int .i64 y),
        .cl 19 #[.int .i64 y, .bool false] (fun E => .agg (rB 3 (rvirt_0 y false)).toArray) [] [] (fun E => []) (enters_of Try.func19 (by kernel_rfl) rfl) (fun w' H => cB (callsIn_wide.2 (rvirt_any y (by omega) (by omega) false w'))),
        .al 6 43 (rB 3 (List.replicate 3 0)).toArray,
        .al 7 43 (rB 3 (List.replicate 3 0)).toArray,
        .ss 6 ((ηq6 4).blk 0) 0 43 (rB 3 (rvirt_0 x false)) (rB 3 (rvirt_0 x false)).toArray,
        .ss 7 ((ηq6 5).blk 0) 0 43 (rB 3 (rvirt_0 y false)) (rB 3 (rvirt_0 y false)).toArray])
      (fun ηq6 L => L ++ [((ηq6 4).blk 0, Obj.cells (rB 3 (rvirt_0 x false)).toArray 43 (0, 0)), ((ηq6 5).blk 0, Obj.cells (rB 3 (rvirt_0 y false)).toArray 43 (0, 0))]) (by kernel_rfl) OW (fun _ => by kernel_rfl) ?_
    clear OW; intro ηq6 ysq6 Wq6 OW
    simp only [↓putE_cons, ↓putE_nil, valE, Hint.val, Act.put, List.setIfInBounds_toArray, List.set_cons_succ, List.set_cons_zero]
    gi_upto_region 7 with fail
    refine wpIn_region_re 8 (fun ηq7 => [.pv (.int .i64 0)])
      (fun ηq7 L => L) (by kernel_rfl) OW (fun _ => by kernel_rfl) ?_
    clear OW; intro ηq7 ysq7 Wq7 OW
    simp only [↓putE_cons, ↓putE_nil, valE, Hint.val, Act.put, List.setIfInBounds_toArray, List.set_cons_succ, List.set_cons_zero]
    gi_upto_region 8 with fail
    refine wpIn_region_re 8 (fun ηq8 => [.pv (.int .i64 0)])
      (fun ηq8 L => L) (by kernel_rfl) OW (fun _ => by kernel_rfl) ?_
    clear OW; intro ηq8 ysq8 Wq8 OW
    simp only [↓putE_cons, ↓putE_nil, valE, Hint.val, Act.put, List.setIfInBounds_toArray, List.set_cons_succ, List.set_cons_zero]
    gi_wp2
    gi_loopw [27, 12] (fun z27 z12 wr => ∃ i : Nat, i ≤ 3 ∧ z27 = .int .i64 (i : Int) ∧ z12 = .int .i64 ((sO (rvirt_0 x false) (rvirt_0 y false) i : Nat) : Int) ∧ OwnS [] w [((ηq1 0).blk 0, Obj.cells (rB 64 l).toArray 23 (0, 0)), ((ηq2 0).blk 0, Obj.cells #[.pointer (some ⟨(ηq2 0).blk 1, 0, none⟩), .pointer (some ⟨(ηq2 0).blk 2, 0, none⟩)] 61 (0, 0)), ((ηq2 0).blk 1, Obj.cells hsN 102 (0, 0)), ((ηq2 0).blk 2, Obj.cells #[.pointer (some ⟨(ηq2 0).blk 3, 0, none⟩), .slice (some ⟨(ηq2 0).blk 4, 0, none⟩) 5 (5 + ((ηq2 0).rest 0).length)] 109 (0, 0)), ((ηq2 0).blk 3, Obj.cells fieldCells 137 (0, 0)), ((ηq2 0).blk 4, Obj.cells (rowV genL ((ηq2 0).rest 0)) 5 (0, 0)), ((ηq6 4).blk 0, Obj.cells (rB 3 (rvirt_0 x false)).toArray 43 (0, 0)), ((ηq6 5).blk 0, Obj.cells (rB 3 (rvirt_0 y false)).toArray 43 (0, 0))] wr) (fun z27 z12 _ => 3 - (intOf (z27)).toNat)
    case atStart => exact ⟨0, by omega, rfl, rfl, (by skip; exact OwnS.cast OW.out (by kernel_rfl))⟩
    case round =>
      obtain ⟨i, hk10, rfl, rfl, hO⟩ := hrel
      clear OW
      have OW := Lib.hid hO
      clear hO
      gi_upto_region 9 with fail
      refine wpIn_region_re 8 (fun ηq12 => [.pv (.bool (decide ((i : Int) < 3)))])
        (fun ηq12 L => L) (by kernel_rfl) OW (fun _ => by kernel_rfl) ?_
      clear OW; intro ηq12 ysq12 Wq12 OW
      simp only [↓putE_cons, ↓putE_nil, valE, Hint.val, Act.put, List.setIfInBounds_toArray, List.set_cons_succ, List.set_cons_zero]
      cases hB13 : (decide ((i : Int) < 3))
      case true =>
        have dhB13 := of_decide_eq_true hB13
        gi_upto_region 10 with fail
        refine wpIn_region_re 8 (fun ηq14 => [.pv (.int .i64 (i : Int)),
            .pv (.int .i64 (i : Int))])
          (fun ηq14 L => L) (by kernel_rfl) OW (fun _ => by kernel_rfl) ?_
        clear OW; intro ηq14 ysq14 Wq14 OW
        simp only [↓putE_cons, ↓putE_nil, valE, Hint.val, Act.put, List.setIfInBounds_toArray, List.set_cons_succ, List.set_cons_zero]
        gi_upto_region 11 with fail
        refine wpIn_region_re 8 (fun ηq15 => [.pv (.int .i64 (i : Int)),
            .tv (.pointer (some ⟨(ηq6 4).blk 0, 0 + i * 1, none⟩)) (Instr.indexAt 43 (.pointer (some ⟨(ηq6 4).blk 0, 0, none⟩)) (.int .i64 (i : Int))) (fun _ => idx_ar (N := 3) (k := i) (by kernel_rfl) (by omega)),
            .lt (.int .u8 (((rvirt_0 x false).getD i 0).toNat : Int)) 6 (0 + i * 1) ((ηq6 4).blk 0) (rB 3 (rvirt_0 x false)).toArray 43 (by simpa only [Nat.zero_add, Nat.mul_one] using rB_get (by omega)),
            .pv (.int .i64 (i : Int)),
            .tv (.pointer (some ⟨(ηq6 5).blk 0, 0 + i * 1, none⟩)) (Instr.indexAt 43 (.pointer (some ⟨(ηq6 5).blk 0, 0, none⟩)) (.int .i64 (i : Int))) (fun _ => idx_ar (N := 3) (k := i) (by kernel_rfl) (by omega)),
            .lt (.int .u8 (((rvirt_0 y false).getD i 0).toNat : Int)) 7 (0 + i * 1) ((ηq6 5).blk 0) (rB 3 (rvirt_0 y false)).toArray 43 (by simpa only [Nat.zero_add, Nat.mul_one] using rB_get (by omega)),
            .tv (.int .u8 ((((rvirt_0 x false).getD i 0) ^^^ ((rvirt_0 y false).getD i 0)).toNat : Int)) (sBin .xor 5 (.tmp 32) (.tmp 35) (.int .u8 (((rvirt_0 x false).getD i 0).toNat : Int)) (.int .u8 (((rvirt_0 y false).getD i 0).toNat : Int))) (fun _ => bin_xor8 (a := (rvirt_0 x false).getD i 0) (b := (rvirt_0 y false).getD i 0)),
            .pv (.int .u8 ((((rvirt_0 x false).getD i 0) ^^^ ((rvirt_0 y false).getD i 0)).toNat : Int))])
          (fun ηq15 L => L) (by kernel_rfl) OW (fun _ => by kernel_rfl) ?_
        clear OW; intro ηq15 ysq15 Wq15 OW
        simp only [↓putE_cons, ↓putE_nil, valE, Hint.val, Act.put, List.setIfInBounds_toArray, List.set_cons_succ, List.set_cons_zero]
        gi_wp2
        gi_loopw [14, 12] (fun z14 z12 wr => ∃ j : Nat, j ≤ 8 ∧ z14 = .int .u8 ((sN (rvirt_0 x false) (rvirt_0 y false) i / 2 ^ j : Nat) : Int) ∧ z12 = .int .i64 (((sO (rvirt_0 x false) (rvirt_0 y false) i + pj (sN (rvirt_0 x false) (rvirt_0 y false) i) j) % 2 : Nat) : Int) ∧ OwnS [] w [((ηq1 0).blk 0, Obj.cells (rB 64 l).toArray 23 (0, 0)), ((ηq2 0).blk 0, Obj.cells #[.pointer (some ⟨(ηq2 0).blk 1, 0, none⟩), .pointer (some ⟨(ηq2 0).blk 2, 0, none⟩)] 61 (0, 0)), ((ηq2 0).blk 1, Obj.cells hsN 102 (0, 0)), ((ηq2 0).blk 2, Obj.cells #[.pointer (some ⟨(ηq2 0).blk 3, 0, none⟩), .slice (some ⟨(ηq2 0).blk 4, 0, none⟩) 5 (5 + ((ηq2 0).rest 0).length)] 109 (0, 0)), ((ηq2 0).blk 3, Obj.cells fieldCells 137 (0, 0)), ((ηq2 0).blk 4, Obj.cells (rowV genL ((ηq2 0).rest 0)) 5 (0, 0)), ((ηq6 4).blk 0, Obj.cells (rB 3 (rvirt_0 x false)).toArray 43 (0, 0)), ((ηq6 5).blk 0, Obj.cells (rB 3 (rvirt_0 y false)).toArray 43 (0, 0))] wr) (fun z14 z12 _ => (intOf z14).toNat)
        case atStart => exact ⟨0, by omega, by rw [Nat.pow_zero, Nat.div_one]; rfl, by rw [pj, Nat.add_zero, Nat.mod_eq_of_lt (sO_lt _ _ _)], (by skip; exact OwnS.cast OW.out (by kernel_rfl))⟩
        case round =>
          obtain ⟨j, hk17, rfl, rfl, hO⟩ := hrel
          clear OW
          have HSN := sN_sh (rvirt_0 x false) (rvirt_0 y false) i j
          have HJ := hk17
          have OW := Lib.hid hO
          clear hO
          gi_upto_region 12 with fail
          refine wpIn_region_re 8 (fun ηq19 => [.pv (.int .u8 ((sN (rvirt_0 x false) (rvirt_0 y false) i / 2 ^ j : Nat) : Int)),
              .pv (.bool (decide (0 < ((sN (rvirt_0 x false) (rvirt_0 y false) i / 2 ^ j : Nat) : Int))))])
            (fun ηq19 L => L) (by kernel_rfl) OW (fun _ => by kernel_rfl) ?_
          clear OW; intro ηq19 ysq19 Wq19 OW
          simp only [↓putE_cons, ↓putE_nil, valE, Hint.val, Act.put, List.setIfInBounds_toArray, List.set_cons_succ, List.set_cons_zero]
          cases hB20 : (decide (0 < ((sN (rvirt_0 x false) (rvirt_0 y false) i / 2 ^ j : Nat) : Int)))
          case true =>
            have dhB20 := of_decide_eq_true hB20
            gi_upto_region 14 with fail
            refine wpIn_region_re 8 (fun ηq21 => [.pv (.int .i64 (((sO (rvirt_0 x false) (rvirt_0 y false) i + pj (sN (rvirt_0 x false) (rvirt_0 y false) i) j) % 2 : Nat) : Int)),
                .pv (.int .u8 ((sN (rvirt_0 x false) (rvirt_0 y false) i / 2 ^ j : Nat) : Int)),
                .tv (.int .u8 ((sN (rvirt_0 x false) (rvirt_0 y false) i / 2 ^ j % 2 : Nat) : Int)) (sBin .and 5 (.tmp 42) (.const (.int .u8 1)) (.int .u8 ((sN (rvirt_0 x false) (rvirt_0 y false) i / 2 ^ j : Nat) : Int)) (.int .u8 1)) (fun _ => bin_low_u8 (by omega)),
                .tv (.int .i64 ((sN (rvirt_0 x false) (rvirt_0 y false) i / 2 ^ j % 2 : Nat) : Int)) (convert 5 3 (.int .u8 ((sN (rvirt_0 x false) (rvirt_0 y false) i / 2 ^ j % 2 : Nat) : Int))) (fun _ => cvt_u8n Try.underlying5 Try.underlying3 (by omega)),
                .tv (.int .i64 ((((sO (rvirt_0 x false) (rvirt_0 y false) i + pj (sN (rvirt_0 x false) (rvirt_0 y false) i) j) % 2 + sN (rvirt_0 x false) (rvirt_0 y false) i / 2 ^ j % 2) % 2 : Nat) : Int)) (sBin .xor 3 (.tmp 41) (.tmp 44) (.int .i64 (((sO (rvirt_0 x false) (rvirt_0 y false) i + pj (sN (rvirt_0 x false) (rvirt_0 y false) i) j) % 2 : Nat) : Int)) (.int .i64 ((sN (rvirt_0 x false) (rvirt_0 y false) i / 2 ^ j % 2 : Nat) : Int))) (fun _ => bin_xor_bit (by omega) (by omega)),
                .pv (.int .i64 ((((sO (rvirt_0 x false) (rvirt_0 y false) i + pj (sN (rvirt_0 x false) (rvirt_0 y false) i) j) % 2 + sN (rvirt_0 x false) (rvirt_0 y false) i / 2 ^ j % 2) % 2 : Nat) : Int))])
              (fun ηq21 L => L) (by kernel_rfl) OW (fun _ => by kernel_rfl) ?_
            clear OW; intro ηq21 ysq21 Wq21 OW
            simp only [↓putE_cons, ↓putE_nil, valE, Hint.val, Act.put, List.setIfInBounds_toArray, List.set_cons_succ, List.set_cons_zero]
            gi_upto_region 13 with fail
            refine wpIn_region_re 8 (fun ηq22 => [.pv (.int .u8 ((sN (rvirt_0 x false) (rvirt_0 y false) i / 2 ^ j : Nat) : Int)),
                .tv (.int .u8 (((sN (rvirt_0 x false) (rvirt_0 y false) i / 2 ^ j) / 2 : Nat) : Int)) (sBin .quo 5 (.tmp 39) (.const (.int .u8 2)) (.int .u8 ((sN (rvirt_0 x false) (rvirt_0 y false) i / 2 ^ j : Nat) : Int)) (.int .u8 2)) (fun _ => bin_quo_u8 (a := sN (rvirt_0 x false) (rvirt_0 y false) i / 2 ^ j) (d := 2) (by decide) (by omega)),
                .pv (.int .u8 (((sN (rvirt_0 x false) (rvirt_0 y false) i / 2 ^ j) / 2 : Nat) : Int))])
              (fun ηq22 L => L) (by kernel_rfl) OW (fun _ => by kernel_rfl) ?_
            clear OW; intro ηq22 ysq22 Wq22 OW
            simp only [↓putE_cons, ↓putE_nil, valE, Hint.val, Act.put, List.setIfInBounds_toArray, List.set_cons_succ, List.set_cons_zero]
            gi_wp2
            have HME := sN_dec (n := sN (rvirt_0 x false) (rvirt_0 y false) i) (j := j) (by assumption)
            go_roundw
            case rel => exact ⟨j + 1, sN_go (sN_lt _ _ _) (by assumption), by rw [sN_half], by rw [← pj_step], (by skip; exact OwnS.cast OW.out (by kernel_rfl))⟩
            case measure => exact HME
          have dhB20 := of_decide_eq_false hB20
          gi_upto_region 15 with fail
          have HPJ := pj_end (n := sN (rvirt_0 x false) (rvirt_0 y false) i) (j := j) (by assumption) 8 HJ
          refine wpIn_region_re 8 (fun ηq23 => [.tv (.int .i64 ((i + 1 : Nat) : Int)) (sBin .add 3 (.tmp 27) (.const (.int .i64 1)) (.int .i64 (i : Int)) (.int .i64 1)) (fun _ => bin_add_nat (a := i) (b := 1) (by omega)),
              .pv (.int .i64 ((i + 1 : Nat) : Int))])
            (fun ηq23 L => L) (by kernel_rfl) OW (fun _ => by kernel_rfl) ?_
          clear OW; intro ηq23 ysq23 Wq23 OW
          simp only [↓putE_cons, ↓putE_nil, valE, Hint.val, Act.put, List.setIfInBounds_toArray, List.set_cons_succ, List.set_cons_zero]
          gi_wp2
          go_roundw
          case rel => exact ⟨i + 1, by omega, by go_num, by rw [sO]; exact congrArg (fun (z : Nat) => Value.int .i64 (z : Int)) (by have := HPJ; omega), (by skip; exact OwnS.cast OW.out (by kernel_rfl))⟩
          case measure => (simp [intOf] <;> omega)
      have dhB13 := of_decide_eq_false hB13
      obtain rfl : i = 3 := by omega
      gi_upto_region 16 with fail
      refine wpIn_region_re 8 (fun ηq24 => [.ls (rB 3 (rvirt_0 x false)) 6 0,
          .ls (rB 3 (rvirt_0 y false)) 7 0,
          .tv (.bool (decide ((rvirt_0 x false) = (rvirt_0 y false)))) (sBin .eql 43 (.tmp 47) (.tmp 48) (.agg (rB 3 (rvirt_0 x false)).toArray) (.agg (rB 3 (rvirt_0 y false)).toArray)) (fun _ => bin_eqT (xs := rB 3 (rvirt_0 x false)) (ys := rB 3 (rvirt_0 y false)) (by kernel_rfl) (eqc_rB (show ((rvirt_0 x false)).length = 3 by first | rfl | (simp only [List.length_set, List.length_append, List.length_replicate, List.length_cons, List.length_nil, List.length_map, List.length_range, List.length_take, List.length_drop, HEN, HDC, HRV, hl]; done) | (simp only [List.length_set, List.length_append, List.length_replicate, List.length_cons, List.length_nil, List.length_map, List.length_range, List.length_take, List.length_drop, HEN, HDC, HRV, hl]; omega)) (show ((rvirt_0 y false)).length = 3 by first | rfl | (simp only [List.length_set, List.length_append, List.length_replicate, List.length_cons, List.length_nil, List.length_map, List.length_range, List.length_take, List.length_drop, HEN, HDC, HRV, hl]; done) | (simp only [List.length_set, List.length_append, List.length_replicate, List.length_cons, List.length_nil, List.length_map, List.length_range, List.length_take, List.length_drop, HEN, HDC, HRV, hl]; omega)))),
          .pv (.bool (decide ((rvirt_0 x false) = (rvirt_0 y false)))),
          .pv (.int .i64 2),
          .pv (.bool false),
          .pv (.bool false),
          .dead (.bool false),
          .dead (.bool false),
          .pk (.bool false),
          .pk (.bool ((decide ((rvirt_0 x false) = (rvirt_0 y false))) || false))])
        (fun ηq24 L => L) (by kernel_rfl) OW (fun _ => by kernel_rfl) ?_
      clear OW; intro ηq24 ysq24 Wq24 OW
      simp only [↓putE_cons, ↓putE_nil, valE, Hint.val, Act.put, List.setIfInBounds_toArray, List.set_cons_succ, List.set_cons_zero]
      cases hB25 : ((decide ((rvirt_0 x false) = (rvirt_0 y false))) || false)
      case true =>
        gi_upto_region 17 with fail
        refine wpIn_region_re 8 (fun ηq26 => [.pv (.bool true)])
          (fun ηq26 L => L) (by kernel_rfl) OW (fun _ => by kernel_rfl) ?_
        clear OW; intro ηq26 ysq26 Wq26 OW
        simp only [↓putE_cons, ↓putE_nil, valE, Hint.val, Act.put, List.setIfInBounds_toArray, List.set_cons_succ, List.set_cons_zero]
        gi_wp2
        exact leavesS OW [.t (.bool true)] (by kernel_rfl) fun hO => ⟨(by (try simp only [CodecStrays2_0]); (repeat (first | rw [hB5] | rw [hB13] | rw [hB25] | rw [cond_true] | rw [cond_false])); try rfl), hO.done⟩
      gi_upto_region 18 with fail
      refine wpIn_region_re 10 (fun ηq27 => [.pv (.pointer (some ⟨(ηq2 0).blk 0, 0, none⟩)),
          .pv (.int .i64 2),
          .pv (.pointer (some ⟨(ηq2 0).blk 0, 0, none⟩)),
          .pv (.int .i64 2),
          .ls (rB 64 l) 0 0,
          .pv (.int .i64 x),
          .cl 12 #[.pointer (some ⟨(ηq2 0).blk 0, 0, none⟩), .int .i64 2, .agg (rB 64 l).toArray, .int .i64 x, .bool false] (fun E => .agg (rB 72 (encT 36 (eW2 l x false) 2)).toArray) [(1, ((ηq2 0).blk 0, Obj.cells #[.pointer (some ⟨(ηq2 0).blk 1, 0, none⟩), .pointer (some ⟨(ηq2 0).blk 2, 0, none⟩)] 61 (0, 0))), (3, ((ηq2 0).blk 2, Obj.cells #[.pointer (some ⟨(ηq2 0).blk 3, 0, none⟩), .slice (some ⟨(ηq2 0).blk 4, 0, none⟩) 5 (5 + ((ηq2 0).rest 0).length)] 109 (0, 0))), (4, ((ηq2 0).blk 3, Obj.cells fieldCells 137 (0, 0))), (5, ((ηq2 0).blk 4, Obj.cells (rowV genL ((ηq2 0).rest 0)) 5 (0, 0)))] [] (fun E => []) (enters_of Try.func12 (by kernel_rfl) rfl) (fun w' H => cN (callsIn_wide.2 (dEnc2_any ((ηq2 0).blk 0) ((ηq2 0).blk 1) ((ηq2 0).blk 2) ((ηq2 0).blk 3) ((ηq2 0).blk 4) ((ηq2 0).rest 0) l (by first | rfl | (simp only [List.length_set, List.length_append, List.length_replicate, List.length_cons, List.length_nil, List.length_map, List.length_range, List.length_take, List.length_drop, HEN, HDC, HRV, hl]; done) | (simp only [List.length_set, List.length_append, List.length_replicate, List.length_cons, List.length_nil, List.length_map, List.length_range, List.length_take, List.length_drop, HEN, HDC, HRV, hl]; omega)) x (by omega) (by omega) false w' H))),
          .pv (.int .i64 y),
          .cl 13 #[.pointer (some ⟨(ηq2 0).blk 0, 0, none⟩), .int .i64 2, .agg (rB 72 (encT 36 (eW2 l x false) 2)).toArray, .int .i64 y] (fun E => .tuple #[.agg (rB 64 (dDec2_0 (encT 36 (eW2 l x false) 2) y)).toArray, .agg #[.int .i64 (jK ((List.range 2).map (cK (encT 36 (eW2 l x false) 2) y))), .int .i64 (djoin_0 ((List.range 2).map (cK (encT 36 (eW2 l x false) 2) y)))]]) [(1, ((ηq2 0).blk 0, Obj.cells #[.pointer (some ⟨(ηq2 0).blk 1, 0, none⟩), .pointer (some ⟨(ηq2 0).blk 2, 0, none⟩)] 61 (0, 0))), (3, ((ηq2 0).blk 2, Obj.cells #[.pointer (some ⟨(ηq2 0).blk 3, 0, none⟩), .slice (some ⟨(ηq2 0).blk 4, 0, none⟩) 5 (5 + ((ηq2 0).rest 0).length)] 109 (0, 0))), (4, ((ηq2 0).blk 3, Obj.cells fieldCells 137 (0, 0))), (5, ((ηq2 0).blk 4, Obj.cells (rowV genL ((ηq2 0).rest 0)) 5 (0, 0)))] [] (fun E => []) (enters_of Try.func13 (by kernel_rfl) rfl) (fun w' H => cN (callsIn_wide.2 (dDec2_any ((ηq2 0).blk 0) ((ηq2 0).blk 1) ((ηq2 0).blk 2) ((ηq2 0).blk 3) ((ηq2 0).blk 4) ((ηq2 0).rest 0) (encT 36 (eW2 l x false) 2) (by first | rfl | (simp only [List.length_set, List.length_append, List.length_replicate, List.length_cons, List.length_nil, List.length_map, List.length_range, List.length_take, List.length_drop, HEN, HDC, HRV, hl]; done) | (simp only [List.length_set, List.length_append, List.length_replicate, List.length_cons, List.length_nil, List.length_map, List.length_range, List.length_take, List.length_drop, HEN, HDC, HRV, hl]; omega)) y (by omega) (by omega) w' H))),
          .pv (.tuple #[.agg (rB 64 (dDec2_0 (encT 36 (eW2 l x false) 2) y)).toArray, .agg #[.int .i64 (jK ((List.range 2).map (cK (encT 36 (eW2 l x false) 2) y))), .int .i64 (djoin_0 ((List.range 2).map (cK (encT 36 (eW2 l x false) 2) y)))]]),
          .pv (.agg (rB 64 (dDec2_0 (encT 36 (eW2 l x false) 2) y)).toArray),
          .pv (.agg #[.int .i64 (jK ((List.range 2).map (cK (encT 36 (eW2 l x false) 2) y))), .int .i64 (djoin_0 ((List.range 2).map (cK (encT 36 (eW2 l x false) 2) y)))]),
          .al 8 23 (rB 64 (List.replicate 64 0)).toArray,
          .al 9 30 #[.int .i64 0, .int .i64 0],
          .ss 8 ((ηq27 12).blk 0) 0 23 (rB 64 (dDec2_0 (encT 36 (eW2 l x false) 2) y)) (rB 64 (dDec2_0 (encT 36 (eW2 l x false) 2) y)).toArray,
          .ss 9 ((ηq27 13).blk 0) 0 30 ([.int .i64 (jK ((List.range 2).map (cK (encT 36 (eW2 l x false) 2) y))), .int .i64 (djoin_0 ((List.range 2).map (cK (encT 36 (eW2 l x false) 2) y)))]) #[.int .i64 (jK ((List.range 2).map (cK (encT 36 (eW2 l x false) 2) y))), .int .i64 (djoin_0 ((List.range 2).map (cK (encT 36 (eW2 l x false) 2) y)))]])
        (fun ηq27 L => L ++ [((ηq27 12).blk 0, Obj.cells (rB 64 (dDec2_0 (encT 36 (eW2 l x false) 2) y)).toArray 23 (0, 0)), ((ηq27 13).blk 0, Obj.cells #[.int .i64 (jK ((List.range 2).map (cK (encT 36 (eW2 l x false) 2) y))), .int .i64 (djoin_0 ((List.range 2).map (cK (encT 36 (eW2 l x false) 2) y)))] 30 (0, 0))]) (by kernel_rfl) OW (fun _ => by kernel_rfl) ?_
      clear OW; intro ηq27 ysq27 Wq27 OW
      simp only [↓putE_cons, ↓putE_nil, valE, Hint.val, Act.put, List.setIfInBounds_toArray, List.set_cons_succ, List.set_cons_zero]
      gi_upto_region 19 with fail
      refine wpIn_region_re 10 (fun ηq28 => [.pv (.pointer (some ⟨(ηq27 13).blk 0, 0, none⟩)),
          .ld (.int .i64 (jK ((List.range 2).map (cK (encT 36 (eW2 l x false) 2) y)))) 9 0,
          .pv (.bool (decide (2 ≤ (jK ((List.range 2).map (cK (encT 36 (eW2 l x false) 2) y)))))),
          .pv (.bool (decide (2 ≤ (jK ((List.range 2).map (cK (encT 36 (eW2 l x false) 2) y)))))),
          .ls (rB 64 (dDec2_0 (encT 36 (eW2 l x false) 2) y)) 8 0,
          .pv (.agg (rB 64 (List.replicate 64 0)).toArray),
          .tv (.bool (decide ((dDec2_0 (encT 36 (eW2 l x false) 2) y) = List.replicate 64 0))) (sBin .eql 23 (.tmp 74) (.tmp 75) (.agg (rB 64 (dDec2_0 (encT 36 (eW2 l x false) 2) y)).toArray) (.agg (rB 64 (List.replicate 64 0)).toArray)) (fun _ => bin_eqT (xs := rB 64 (dDec2_0 (encT 36 (eW2 l x false) 2) y)) (ys := rB 64 (List.replicate 64 0)) (by kernel_rfl) (eqc_rB (show ((dDec2_0 (encT 36 (eW2 l x false) 2) y)).length = 64 by first | rfl | (simp only [List.length_set, List.length_append, List.length_replicate, List.length_cons, List.length_nil, List.length_map, List.length_range, List.length_take, List.length_drop, HEN, HDC, HRV, hl]; done) | (simp only [List.length_set, List.length_append, List.length_replicate, List.length_cons, List.length_nil, List.length_map, List.length_range, List.length_take, List.length_drop, HEN, HDC, HRV, hl]; omega)) List.length_replicate)),
          .pk (.bool ((decide (2 ≤ (jK ((List.range 2).map (cK (encT 36 (eW2 l x false) 2) y))))) && (decide ((dDec2_0 (encT 36 (eW2 l x false) 2) y) = List.replicate 64 0)))),
          .pv (.bool ((decide (2 ≤ (jK ((List.range 2).map (cK (encT 36 (eW2 l x false) 2) y))))) && (decide ((dDec2_0 (encT 36 (eW2 l x false) 2) y) = List.replicate 64 0))))])
        (fun ηq28 L => L) (by kernel_rfl) OW (fun _ => by kernel_rfl) ?_
      clear OW; intro ηq28 ysq28 Wq28 OW
      simp only [↓putE_cons, ↓putE_nil, valE, Hint.val, Act.put, List.setIfInBounds_toArray, List.set_cons_succ, List.set_cons_zero]
      gi_wp2
      exact leavesS OW [.t (.bool ((decide (2 ≤ (jK ((List.range 2).map (cK (encT 36 (eW2 l x false) 2) y))))) && (decide ((dDec2_0 (encT 36 (eW2 l x false) 2) y) = List.replicate 64 0))))] (by kernel_rfl) fun hO => ⟨(by (try simp only [CodecStrays2_0]); (repeat (first | rw [hB5] | rw [hB13] | rw [hB25] | rw [cond_true] | rw [cond_false])); try rfl), hO.done⟩
set_option maxRecDepth 100000 in
set_option maxHeartbeats 1000000 in
theorem CodecStrays0_any (m : Int) (hm1 : m ≠ 1) (hm2 : m ≠ 2) (l : List UInt8) (hl : l.length = 64) (x : Int) (h0 : -9223372036854775808 ≤ x) (h1 : x ≤ 9223372036854775807) (y : Int) (h2 : -9223372036854775808 ≤ y) (h3 : y ≤ 9223372036854775807) (w : World) : Calls Try.prog 7 #[.int .i64 m, .agg (rB 64 l).toArray, .int .i64 x, .int .i64 y] w fun e w' => e = .returned (.bool true) ∧ Below w.heap.size w w' := by
  have H : Has [] w := has_nil
  have OW : Hid (OwnS [] w [] w) := Lib.hid (OwnS.start H)
  refine (callsIn_wide (n := 6)).1 ?_
  refine callsIn_of_wp_marks Try.func7 rfl trivial ?_ rfl
  simp only [Try.ntmps7, List.size_toArray, List.length_cons, List.length_nil, Nat.reduceAdd, Nat.reduceSub, Array.replicate_succ, Array.replicate_zero, List.push_toArray, List.append_toArray, List.nil_append, List.cons_append]
  gi_upto_region 0 with fail
  refine wpIn_region_re 1 (fun ηq1 => [.bx 0 23 (.agg (rB 64 l).toArray),
      .pv (.bool false)])
    (fun ηq1 L => L ++ [((ηq1 0).blk 0, Obj.cells (rB 64 l).toArray 23 (0, 0))]) (by kernel_rfl) OW (fun _ => by kernel_rfl) ?_
  clear OW; intro ηq1 ysq1 Wq1 OW
  simp only [↓putE_cons, ↓putE_nil, valE, Hint.val, Act.put, List.setIfInBounds_toArray, List.set_cons_succ, List.set_cons_zero]
  gi_upto_region 1 with fail
  refine wpIn_region_re 6 (fun ηq2 => [.cl 11 #[] (fun E => .pointer (some ⟨E.blk 0, 0, none⟩)) [] [] (fun E => [(1, (E.blk 0, Obj.cells #[.pointer (some ⟨E.blk 1, 0, none⟩), .pointer (some ⟨E.blk 2, 0, none⟩)] 61 (0, 0))), (2, (E.blk 1, Obj.cells hsN 102 (0, 0))), (3, (E.blk 2, Obj.cells #[.pointer (some ⟨E.blk 3, 0, none⟩), .slice (some ⟨E.blk 4, 0, none⟩) 5 (5 + (E.rest 0).length)] 109 (0, 0))), (4, (E.blk 3, Obj.cells fieldCells 137 (0, 0))), (5, (E.blk 4, Obj.cells (rowV genL (E.rest 0)) 5 (0, 0)))]) (enters_of Try.func11 (by kernel_rfl) rfl) (fun w' H => callsIn_wide.2 (dcoder_any  w' H)),
      .pv (.pointer (some ⟨(ηq2 0).blk 0, 0, none⟩))])
    (fun ηq2 L => L ++ [((ηq2 0).blk 0, Obj.cells #[.pointer (some ⟨(ηq2 0).blk 1, 0, none⟩), .pointer (some ⟨(ηq2 0).blk 2, 0, none⟩)] 61 (0, 0)), ((ηq2 0).blk 1, Obj.cells hsN 102 (0, 0)), ((ηq2 0).blk 2, Obj.cells #[.pointer (some ⟨(ηq2 0).blk 3, 0, none⟩), .slice (some ⟨(ηq2 0).blk 4, 0, none⟩) 5 (5 + ((ηq2 0).rest 0).length)] 109 (0, 0)), ((ηq2 0).blk 3, Obj.cells fieldCells 137 (0, 0)), ((ηq2 0).blk 4, Obj.cells (rowV genL ((ηq2 0).rest 0)) 5 (0, 0))]) (by kernel_rfl) OW (fun _ => by kernel_rfl) ?_
  clear OW; intro ηq2 ysq2 Wq2 OW
  simp only [↓putE_cons, ↓putE_nil, valE, Hint.val, Act.put, List.setIfInBounds_toArray, List.set_cons_succ, List.set_cons_zero]
  gi_upto_region 2 with fail
  refine wpIn_region_re 6 (fun ηq3 => [.pv (.pointer (some ⟨(ηq2 0).blk 0, 0, none⟩)),
      .pv (.bool false)])
    (fun ηq3 L => L) (by kernel_rfl) OW (fun _ => by kernel_rfl) ?_
  clear OW; intro ηq3 ysq3 Wq3 OW
  simp only [↓putE_cons, ↓putE_nil, valE, Hint.val, Act.put, List.setIfInBounds_toArray, List.set_cons_succ, List.set_cons_zero]
  gi_upto_region 4 with fail
  refine wpIn_region_re 6 (fun ηq4 => [.pv (.int .i64 m),
      .cl 14 #[.int .i64 m] (fun E => .bool ((m == 1) || (m == 2))) [] [] (fun E => []) (enters_of Try.func14 (by kernel_rfl) rfl) (fun w' H => cB (callsIn_wide.2 (dmode_any m w'))),
      .pv (.bool (!((m == 1) || (m == 2))))])
    (fun ηq4 L => L) (by kernel_rfl) OW (fun _ => by kernel_rfl) ?_
  clear OW; intro ηq4 ysq4 Wq4 OW
  simp only [↓putE_cons, ↓putE_nil, valE, Hint.val, Act.put, List.setIfInBounds_toArray, List.set_cons_succ, List.set_cons_zero]
  cases hB5 : (!((m == 1) || (m == 2)))
  case true =>
    gi_upto_region 5 with fail
    refine wpIn_region_re 6 (fun ηq6 => [.pv (.bool true)])
      (fun ηq6 L => L) (by kernel_rfl) OW (fun _ => by kernel_rfl) ?_
    clear OW; intro ηq6 ysq6 Wq6 OW
    simp only [↓putE_cons, ↓putE_nil, valE, Hint.val, Act.put, List.setIfInBounds_toArray, List.set_cons_succ, List.set_cons_zero]
    gi_wp2
    exact leavesS OW [.t (.bool true)] (by kernel_rfl) fun hO => ⟨(by rfl), hO.done⟩
  case false => exact absurd (hB5.symm.trans (show _ = true from by rw [beq_false_of_ne hm1, beq_false_of_ne hm2]; rfl)) (by decide)
theorem pj_pc (n : Nat) : ∀ j, pj n j % 2 = pcTo j n % 2
  | 0 => rfl
  | j + 1 => by
    have h := pcTo_split j 1 n
    have e : pcTo 1 (n / 2 ^ j) = n / 2 ^ j % 2 + pcTo 0 (n / 2 ^ j / 2) := rfl
    have e0 : pcTo 0 (n / 2 ^ j / 2) = 0 := rfl
    rw [pcTo_low, e, e0] at h
    rw [h, pj]
    have := pj_pc n j
    omega
theorem pj8 {n : Nat} (h : n < 256) : pj n 8 % 2 = pc n % 2 := by rw [pj_pc, pcTo_eq 8 n h (by decide)]
theorem sO_par (x y : Int) : sO (rvirt_0 x false) (rvirt_0 y false) 3 = (par23 x + par23 y) % 2 := by
  rw [rvirt_eq, rvirt_eq, ← par_xor]
  have h0 := pj8 (sN_lt (dvirt_0 x false) (dvirt_0 y false) 0)
  have h1 := pj8 (sN_lt (dvirt_0 x false) (dvirt_0 y false) 1)
  have h2 := pj8 (sN_lt (dvirt_0 x false) (dvirt_0 y false) 2)
  simp only [sO]
  unfold sN at h0 h1 h2 ⊢
  omega
theorem CodecStrays1_true (l : List UInt8) (x y : Int) : CodecStrays1_0 l x y = true := by
  unfold CodecStrays1_0
  by_cases h : par23 x = par23 y
  · have e : sO (rvirt_0 x false) (rvirt_0 y false) 3 = 0 := by rw [sO_par, h]; omega
    rw [e]
    simp
  · have h1 := stray1 (l := l) h
    rw [bad1 h1, decide_eq_true h1]; simp
theorem CodecStrays2_true {l : List UInt8} (hl : l.length = 64) (x y : Int) : CodecStrays2_0 l x y = true := by
  unfold CodecStrays2_0
  rw [rvirt_eq, rvirt_eq]
  by_cases h : dvirt_0 x false = dvirt_0 y false
  · rw [decide_eq_true h]; rfl
  · have h1 := stray2 hl h
    rw [bad2 h1, decide_eq_true h1]; simp
theorem CodecStrays_any (m : Int) (l : List UInt8) (x y : Int) (hl : l.length = 64) (h0 : -9223372036854775808 ≤ x) (h1 : x ≤ 9223372036854775807) (h2 : -9223372036854775808 ≤ y) (h3 : y ≤ 9223372036854775807) (w : World) : Calls Try.prog 7 #[.int .i64 m, .agg (rawV l), .int .i64 x, .int .i64 y] w fun e w' => e = .returned (.bool true) ∧ Below w.heap.size w w' := by
  rw [← rB_raw hl]
  by_cases e1 : m = 1
  · subst e1; rw [← CodecStrays1_true l x y]; exact CodecStrays1_any l hl x h0 h1 y h2 h3 w
  · by_cases e2 : m = 2
    · subst e2; rw [← CodecStrays2_true hl x y]; exact CodecStrays2_any l hl x h0 h1 y h2 h3 w
    · exact CodecStrays0_any m e1 e2 l hl x h0 h1 y h2 h3 w
end Go.Proofs.Ytkeheickaogpiaa
