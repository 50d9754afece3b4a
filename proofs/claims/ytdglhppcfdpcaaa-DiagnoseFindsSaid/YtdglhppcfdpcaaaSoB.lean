/- Keys; comparing; blocks that change places; rotations: of ints. -/
import Derived.Test.YtdglhppcfdpcaaaSoA
import Derived.WalkKit
import Derived.Sort.CutIn
import Derived.IntWalk
namespace Go.Proofs.Ytdglhppcfdpcaaa.E
open Go Go.RowKit Go.Shelf
attribute [local go_sem] Oper.semAt_some
set_option linter.unusedVariables false
set_option linter.unusedSimpArgs false

theorem mask_int (x : Int) (k : Nat) (hk : k ≤ 64) : (((x % 18446744073709551616).toNat % 2 ^ k : Nat) : Int) = x % ((2 ^ k : Nat) : Int) := by
  have hd : ((2 ^ k : Nat) : Int) ∣ 18446744073709551616 := by
    have h : 2 ^ k ∣ 18446744073709551616 := (show (18446744073709551616 : Nat) = 2 ^ 64 by decide) ▸ Nat.pow_dvd_pow 2 hk
    exact Int.natCast_dvd_natCast.2 h
  rw [Int.natCast_emod, Int.toNat_of_nonneg (Int.emod_nonneg _ (by decide)), Int.emod_emod_of_dvd _ hd]
theorem bits_mask (x : Int) (k m : Nat) (hm : 2 ^ k = m) (hk : k ≤ 62) (h1 : 0 < m) (h2 : m ≤ 4611686018427387904) : bits .and .i64 x ((m - 1 : Nat) : Int) = x % (m : Int) := by
  show IntKind.i64.wrap ((BitVec.ofInt 64 x &&& BitVec.ofInt 64 ((m - 1 : Nat) : Int)).toNat : Int) = _
  have e : (BitVec.ofInt 64 ((m - 1 : Nat) : Int)).toNat = 2 ^ k - 1 := by
    rw [BitVec.ofInt_natCast, BitVec.toNat_ofNat, hm]; exact Nat.mod_eq_of_lt (by omega)
  have e2 := mask_int x k (by omega)
  rw [hm] at e2
  rw [BitVec.toNat_and, e, Nat.and_two_pow_sub_one_eq_mod, BitVec.toNat_ofInt, hm]
  rw [show (x % ((2 ^ 64 : Nat) : Int)) = x % 18446744073709551616 from rfl, e2]
  have l0 : 0 ≤ x % (m : Int) := Int.emod_nonneg _ (by omega)
  have l1 : x % (m : Int) < (m : Int) := Int.emod_lt_of_pos _ (by omega)
  exact IntWalk.i64_in _ (by omega)
theorem bin_mask_i64 {P : Program} {T : TypeId} {y z : Operand} {w : World} (x : Int) (k m : Nat) (hm : 2 ^ k = m) (hk : k ≤ 62) (h1 : 0 < m) (h2 : m ≤ 4611686018427387904) : (sBin .and T y z (.int .i64 x) (.int .i64 ((m - 1 : Nat) : Int))).run P w = .ok (.int .i64 (x % (m : Int))) w := by
  rw [← bits_mask x k m hm hk h1 h2]
  rfl
set_option maxRecDepth 100000 in
set_option maxHeartbeats 1000000 in
theorem klow (a : Int) : Con Try.prog 8 #[.int .i64 a] [] [] (fun _ => []) (fun _ => .int .i64 (a % 4)) := by
 refine Con.of (enters_of Try.func8 (by kernel_rfl) rfl) fun w cs HS HH OW => ?_
 refine (callsIn_wide (n := 6)).1 ?_
 refine callsIn_of_wp_marks Try.func8 rfl trivial ?_ rfl
 simp only [Try.ntmps8, eF, Nat.reduceAdd, Nat.reduceSub]
 gi_upto_region 0 with fail
 refine rg (fun q1 => [.v (.int .i64 0)]) (fun _ L => L) OW ?_
 clear OW; intro q1 _ Wq1 OW; simp only [↓pc, ↓pn, vE, Hint.val, Act.put, eL]
 gi_upto_region 1 with fail
 refine rg (fun q2 => [.v (.int .i64 a),
  .t (tv (sBin .and 3 (.tmp 3) (.const (.int .i64 3)) (.int .i64 a) (.int .i64 3)) (fun _ => bin_mask_i64 _ 2 4 (by decide) (by decide) (by decide) (by decide))),
  .v (.int .i64 (a % 4))]) (fun _ L => L) OW ?_
 clear OW; intro q2 _ Wq2 OW; simp only [↓pc, ↓pn, vE, Hint.val, Act.put, eL]
 gi_wp2
 exact leafE HS HH OW [.t (.int .i64 (a % 4))] Env.zero [] [] rfl
set_option maxRecDepth 100000 in
set_option maxHeartbeats 1000000 in
theorem knan (a : Int) : Con Try.prog 48 #[.int .i64 a] [] [] (fun _ => []) (fun _ => .bool false) := by
 refine Con.of (enters_of Try.func48 (by kernel_rfl) rfl) fun w cs HS HH OW => ?_
 refine (callsIn_wide (n := 6)).1 ?_
 refine callsIn_of_wp_marks Try.func48 rfl trivial ?_ rfl
 simp only [Try.ntmps48, eF, Nat.reduceAdd, Nat.reduceSub]
 gi_upto_region 0 with fail
 refine rg (fun q1 => [.v (.bool false)]) (fun _ L => L) OW ?_
 clear OW; intro q1 _ Wq1 OW; simp only [↓pc, ↓pn, vE, Hint.val, Act.put, eL]
 gi_upto_region 1 with fail
 refine rg (fun q2 => [.v (.int .i64 a),
  .v (.int .i64 a),
  .t (tk (show Value.bool (a != a) = .bool false from congrArg Value.bool (by exact bne_self_eq_false _))),
  .v (.bool false)]) (fun _ L => L) OW ?_
 clear OW; intro q2 _ Wq2 OW; simp only [↓pc, ↓pn, vE, Hint.val, Act.put, eL]
 gi_wp2
 exact leafE HS HH OW [.t (.bool false)] Env.zero [] [] rfl
def kcmp_0 (a : Int) (b : Int) : Int := (bif decide (a < b) then (-1) else (bif decide (b < a) then 1 else 0))
set_option maxRecDepth 100000 in
set_option maxHeartbeats 1000000 in
theorem kcmp (a b : Int) : Con Try.prog 22 #[.int .i64 a, .int .i64 b] [] [] (fun _ => []) (fun _ => .int .i64 (kcmp_0 a b)) := by
 refine Con.of (enters_of Try.func22 (by kernel_rfl) rfl) fun w cs HS HH OW => ?_
 refine (callsIn_wide (n := 6)).1 ?_
 refine callsIn_of_wp_marks Try.func22 rfl trivial ?_ rfl
 simp only [Try.ntmps22, eF, Nat.reduceAdd, Nat.reduceSub]
 gi_upto_region 0 with fail
 refine rg (fun q1 => [.v (.int .i64 0)]) (fun _ L => L) OW ?_
 clear OW; intro q1 _ Wq1 OW; simp only [↓pc, ↓pn, vE, Hint.val, Act.put, eL]
 gi_upto_region 1 with fail
 refine rg (fun q2 => [.v (.int .i64 a),
  .c [] [] (knan a),
  .v (.bool false)]) (fun _ L => L) OW ?_
 clear OW; intro q2 _ Wq2 OW; simp only [↓pc, ↓pn, vE, Hint.val, Act.put, eL]
 gi_upto_region 2 with fail
 refine rg (fun q3 => [.v (.int .i64 b),
  .c [] [] (knan b),
  .v (.bool false)]) (fun _ L => L) OW ?_
 clear OW; intro q3 _ Wq3 OW; simp only [↓pc, ↓pn, vE, Hint.val, Act.put, eL]
 gi_upto_region 3 with fail
 refine rg (fun q4 => [.v (.bool false)]) (fun _ L => L) OW ?_
 clear OW; intro q4 _ Wq4 OW; simp only [↓pc, ↓pn, vE, Hint.val, Act.put, eL]
 gi_upto_region 7 with fail
 refine rg (fun q5 => [.v (.bool false)]) (fun _ L => L) OW ?_
 clear OW; intro q5 _ Wq5 OW; simp only [↓pc, ↓pn, vE, Hint.val, Act.put, eL]
 gi_upto_region 9 with fail
 refine rg (fun q6 => [.v (.int .i64 a),
  .v (.int .i64 b),
  .v (.bool (decide (a < b)))]) (fun _ L => L) OW ?_
 clear OW; intro q6 _ Wq6 OW; simp only [↓pc, ↓pn, vE, Hint.val, Act.put, eL]
 cases hB7 : (decide (a < b))
 case true =>
  have dhB7 := of_decide_eq_true hB7
  gi_upto_region 10 with fail
  refine rg (fun q8 => [.v (.int .i64 (-1))]) (fun _ L => L) OW ?_
  clear OW; intro q8 _ Wq8 OW; simp only [↓pc, ↓pn, vE, Hint.val, Act.put, eL]
  gi_wp2
  exact leafE HS HH OW [.t (.int .i64 (-1))] Env.zero [] [] (by (try simp only [kcmp_0]); (repeat (first | rw [hB7] | rw [cond_true] | rw [cond_false])); first | rfl | kernel_rfl) (by kernel_rfl) (by (try simp only [kcmp_0]); (repeat (first | rw [hB7] | rw [cond_true] | rw [cond_false])); kernel_rfl)
 have dhB7 := of_decide_eq_false hB7
 gi_upto_region 11 with fail
 refine rg (fun q9 => [.v (.int .i64 a),
  .v (.int .i64 b),
  .v (.bool (decide (b < a)))]) (fun _ L => L) OW ?_
 clear OW; intro q9 _ Wq9 OW; simp only [↓pc, ↓pn, vE, Hint.val, Act.put, eL]
 cases hB10 : (decide (b < a))
 case true =>
  have dhB10 := of_decide_eq_true hB10
  gi_upto_region 12 with fail
  refine rg (fun q11 => [.v (.int .i64 1)]) (fun _ L => L) OW ?_
  clear OW; intro q11 _ Wq11 OW; simp only [↓pc, ↓pn, vE, Hint.val, Act.put, eL]
  gi_wp2
  exact leafE HS HH OW [.t (.int .i64 1)] Env.zero [] [] (by (try simp only [kcmp_0]); (repeat (first | rw [hB7] | rw [hB10] | rw [cond_true] | rw [cond_false])); first | rfl | kernel_rfl) (by kernel_rfl) (by (try simp only [kcmp_0]); (repeat (first | rw [hB7] | rw [hB10] | rw [cond_true] | rw [cond_false])); kernel_rfl)
 have dhB10 := of_decide_eq_false hB10
 gi_upto_region 13 with fail
 refine rg (fun q12 => [.v (.int .i64 0)]) (fun _ L => L) OW ?_
 clear OW; intro q12 _ Wq12 OW; simp only [↓pc, ↓pn, vE, Hint.val, Act.put, eL]
 gi_wp2
 exact leafE HS HH OW [.t (.int .i64 0)] Env.zero [] [] (by (try simp only [kcmp_0]); (repeat (first | rw [hB7] | rw [hB10] | rw [cond_true] | rw [cond_false])); first | rfl | kernel_rfl) (by kernel_rfl) (by (try simp only [kcmp_0]); (repeat (first | rw [hB7] | rw [hB10] | rw [cond_true] | rw [cond_false])); kernel_rfl)
theorem cmp_lt (x y : Int) : decide (kcmp_0 x y < 0) = decide (x < y) := by
  unfold kcmp_0
  by_cases h : x < y
  · rw [decide_eq_true h]; rfl
  · rw [decide_eq_false h]
    cases decide (y < x) <;> rfl
attribute [local irreducible] kcmp_0
set_option maxRecDepth 100000 in
set_option maxHeartbeats 1000000 in
theorem kclo (a b : Int) (g : Nat) : Con Try.prog 21 #[.int .i64 a, .int .i64 b, .pointer (some ⟨g, 0, none⟩)] [ob g #[.func (.func 8) #[] #[]] 27] [] (fun _ => []) (fun _ => .int .i64 (kcmp_0 (a % 4) (b % 4))) := by
 refine Con.of (enters_of Try.func21 (by kernel_rfl) rfl) fun w cs HS HH OW => ?_
 refine (callsIn_wide (n := 6)).1 ?_
 refine callsIn_of_wp_marks Try.func21 rfl trivial ?_ rfl
 simp only [Try.ntmps21, eF, Nat.reduceAdd, Nat.reduceSub]
 gi_upto_region 0 with fail
 refine rg (fun q1 => [.v (.int .i64 0)]) (fun _ L => L) OW ?_
 clear OW; intro q1 _ Wq1 OW; simp only [↓pc, ↓pn, vE, Hint.val, Act.put, eL]
 gi_upto_region 1 with fail
 refine rg (fun q2 => [.m (ld 0 (.func (.func 8) #[] #[])),
  .v (.int .i64 a),
  .c [] [] (klow a),
  .m (ld 0 (.func (.func 8) #[] #[])),
  .v (.int .i64 b),
  .c [] [] (klow b),
  .c [] [] (kcmp (a % 4) (b % 4)),
  .v (.int .i64 (kcmp_0 (a % 4) (b % 4)))]) (fun _ L => L) OW ?_
 clear OW; intro q2 _ Wq2 OW; simp only [↓pc, ↓pn, vE, Hint.val, Act.put, eL]
 gi_wp2
 exact leafE HS HH OW [.t (.int .i64 (kcmp_0 (a % 4) (b % 4)))] Env.zero [] [(0, 0)] rfl
set_option maxRecDepth 100000 in
set_option maxHeartbeats 1000000 in
theorem soswI (v w4 : Value) (xs : List Int) (a b n : Nat) (h1 : a + n ≤ b) (h2 : b + n ≤ xs.length) (h3 : xs.length ≤ 1000000) : Con Try.prog 103 #[v, .int .i64 (a : Int), .int .i64 (b : Int), .int .i64 (n : Int), w4] [slI v xs] [0] (fun _ => [slI v (So.swR 0 xs a b n)]) (fun _ => .tuple #[]) := by
 refine Con.of (enters_of Try.func103 (by kernel_rfl) rfl) fun w cs HS HH OW => ?_
 have HSL := fun k => Nat.le_of_eq (So.swR_len (0 : Int) xs a b k)
 have HSM := fun k => Nat.le_of_eq (So.swR_len (0 : Int) xs a b k).symm
 refine (callsIn_wide (n := 6)).1 ?_
 refine callsIn_of_wp_marks Try.func103 rfl trivial ?_ rfl
 simp only [Try.ntmps103, eF, Nat.reduceAdd, Nat.reduceSub]
 gi_upto_region 0 with fail
 refine rg (fun q1 => [.v (.int .i64 0)]) (fun _ L => L) OW ?_
 clear OW; intro q1 _ Wq1 OW; simp only [↓pc, ↓pn, vE, Hint.val, Act.put, eL]
 gi_wp2
 gi_loopw [10] (fun z10 wr => ∃ k : Nat, k ≤ n ∧ z10 = .int .i64 (k : Int) ∧ OwnE (ids cs.flatten) w [slI v (So.swR 0 xs a b k)] wr) (fun z10 _ => n - (intOf (z10)).toNat)
 case atStart => exact ⟨0, by omega, rfl, (by rw [So.swR]; exact OwnE.cast OW.out (by kernel_rfl))⟩
 case round =>
  obtain ⟨k, hk3, rfl, hO⟩ := hrel
  clear OW
  have HS1 := HSL k
  have HS2 := HSM k
  have OW := Lib.hid hO
  clear hO
  gi_upto_region 1 with fail
  refine rg (fun q4 => [.v (.int .i64 (k : Int)),
   .v (.int .i64 (n : Int)),
   .v (.bool (decide ((k : Int) < (n : Int))))]) (fun _ L => L) OW ?_
  clear OW; intro q4 _ Wq4 OW; simp only [↓pc, ↓pn, vE, Hint.val, Act.put, eL]
  cases hB5 : (decide ((k : Int) < (n : Int)))
  case true =>
   have dhB5 := of_decide_eq_true hB5
   gi_upto_region 3 with fail
   refine rg (fun q6 => [.v (v),
    .v (.int .i64 (a : Int)),
    .v (.int .i64 (k : Int)),
    .t (tb (a := .int .i64 (a : Int)) (b := .int .i64 (k : Int)) fun _ _ _ _ => bin_add_nat (a := a) (b := k) (by first | omega | (simp only [List.length_set]; omega))),
    .v (v),
    .v (.int .i64 (b : Int)),
    .v (.int .i64 (k : Int)),
    .t (tb (a := .int .i64 (b : Int)) (b := .int .i64 (k : Int)) fun _ _ _ _ => bin_add_nat (a := b) (b := k) (by first | omega | (simp only [List.length_set]; omega))),
    .v (v),
    .v (.int .i64 (b : Int)),
    .v (.int .i64 (k : Int)),
    .t (tb (a := .int .i64 (b : Int)) (b := .int .i64 (k : Int)) fun _ _ _ _ => bin_add_nat (a := b) (b := k) (by first | omega | (simp only [List.length_set]; omega))),
    .m (idxS 0 (slI v (So.swR 0 xs a b k)) (b + k) 1 (fun _ h => h) (by first | omega | (simp only [List.length_set]; omega))),
    .m (ldS (u := .int .i64 ((So.swR 0 xs a b k).getD (b + k) 0)) (d := 0) 0 (slI v (So.swR 0 xs a b k)) (b + k) 1 0 (fun _ h => h) (fun _ => rfl) (by first | omega | (simp only [List.length_set]; omega)) (Nat.le_of_ble_eq_true rfl) (by kernel_rfl)),
    .v (v),
    .v (.int .i64 (a : Int)),
    .v (.int .i64 (k : Int)),
    .t (tb (a := .int .i64 (a : Int)) (b := .int .i64 (k : Int)) fun _ _ _ _ => bin_add_nat (a := a) (b := k) (by first | omega | (simp only [List.length_set]; omega))),
    .m (idxS 0 (slI v (So.swR 0 xs a b k)) (a + k) 1 (fun _ h => h) (by first | omega | (simp only [List.length_set]; omega))),
    .m (ldS (u := .int .i64 ((So.swR 0 xs a b k).getD (a + k) 0)) (d := 0) 0 (slI v (So.swR 0 xs a b k)) (a + k) 1 0 (fun _ h => h) (fun _ => rfl) (by first | omega | (simp only [List.length_set]; omega)) (Nat.le_of_ble_eq_true rfl) (by kernel_rfl)),
    .m (idxS 0 (slI v (So.swR 0 xs a b k)) (a + k) 1 (fun _ h => h) (by first | omega | (simp only [List.length_set]; omega))),
    .m (stS (T := 3) (v := v) (xs := So.swR 0 xs a b k) (en := eI) (z := [.int .i64 0]) (d := 0) (a := ((So.swR 0 xs a b k).getD (b + k) 0)) (u := .int .i64 ((So.swR 0 xs a b k).getD (b + k) 0)) 0 (a + k) 1 0 (fun _ => rfl) (by first | omega | (simp only [List.length_set]; omega)) (by decide) (by kernel_rfl)),
    .m (idxS 0 (slI v ((So.swR 0 xs a b k).set (a + k) ((So.swR 0 xs a b k).getD (b + k) 0))) (b + k) 1 (fun _ h => h) (by first | omega | (simp only [List.length_set]; omega))),
    .m (stS (T := 3) (v := v) (xs := (So.swR 0 xs a b k).set (a + k) ((So.swR 0 xs a b k).getD (b + k) 0)) (en := eI) (z := [.int .i64 0]) (d := 0) (a := ((So.swR 0 xs a b k).getD (a + k) 0)) (u := .int .i64 ((So.swR 0 xs a b k).getD (a + k) 0)) 0 (b + k) 1 0 (fun _ => rfl) (by first | omega | (simp only [List.length_set]; omega)) (by decide) (by kernel_rfl))]) (fun q6 L => L.set 0 (slI v (((So.swR 0 xs a b k).set (a + k) ((So.swR 0 xs a b k).getD (b + k) 0)).set (b + k) ((So.swR 0 xs a b k).getD (a + k) 0)))) OW ?_
   clear OW; intro q6 _ Wq6 OW; simp only [↓pc, ↓pn, vE, Hint.val, Act.put, eL]
   gi_upto_region 2 with fail
   refine rg (fun q7 => [.v (.int .i64 (k : Int)),
    .t (tb (a := .int .i64 (k : Int)) (b := .int .i64 1) fun _ _ _ _ => bin_add_nat (a := k) (b := 1) (by first | omega | (simp only [List.length_set]; omega))),
    .v (.int .i64 ((k + 1 : Nat) : Int))]) (fun _ L => L) OW ?_
   clear OW; intro q7 _ Wq7 OW; simp only [↓pc, ↓pn, vE, Hint.val, Act.put, eL]
   gi_wp2
   go_roundw
   case rel => exact ⟨k + 1, by omega, by go_num, (by rw [So.swR]; exact OwnE.pick OW.out [0] _ (by kernel_rfl))⟩
   case measure => (simp [intOf] <;> omega)
  have dhB5 := of_decide_eq_false hB5
  obtain rfl : n = k := by omega
  gi_wp2
  exact leafE HS HH OW [] Env.zero [0] [] rfl
end Go.Proofs.Ytdglhppcfdpcaaa.E
