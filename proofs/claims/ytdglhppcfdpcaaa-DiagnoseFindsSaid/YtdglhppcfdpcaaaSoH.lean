/- The stable sort: of ints. -/
import Derived.Test.YtdglhppcfdpcaaaSoF
import Derived.Test.YtdglhppcfdpcaaaSoG
import Derived.WalkKit
import Derived.Sort.CutIn
import Derived.IntWalk
namespace Go.Proofs.Ytdglhppcfdpcaaa.E
open Go Go.RowKit Go.Shelf
attribute [local go_sem] Oper.semAt_some
set_option linter.unusedVariables false
set_option linter.unusedSimpArgs false

theorem sosymN (v : Value) (g : Nat) : ∀ n, SymIH v g n
  | 0 => fun xs a m b h => absurd h (Nat.not_lt_zero _)
  | n + 1 => fun xs a m b h u1 u2 h1 h2 h3 h4 => sosym1 v xs a m b g (Lib.hid fun xs' a' m' b' h' => sosymN v g n xs' a' m' b' (by omega)) u1 u2 h1 h2 h3 h4
theorem ins_bl {w j : Nat} {ys : List Int} : So.bl kI w ys (j + 1) = So.sg kI (So.bl kI w ys j) (So.wj w j) (So.wj w j + w) := rfl
theorem szS_suc (r : Nat) : So.szS (r + 1) = So.szS r * 2 := rfl
attribute [local irreducible] So.sg So.Up So.seg So.bl So.ph So.wj So.szS kI So.srt
set_option maxRecDepth 100000 in
set_option maxHeartbeats 1000000 in
theorem sostb (v : Value) (xs : List Int) (n : Nat) (g : Nat) (h1 : n ≤ xs.length) (h2 : xs.length ≤ n) (h4 : xs.length ≤ 1000000) : Con Try.prog 47 #[v, .int .i64 (n : Int), .func (.func 21) #[] #[.pointer (some ⟨g, 0, none⟩)]] [slI v xs, ob g #[.func (.func 8) #[] #[]] 27] [0] (fun _ => [slI v (So.srt kI xs)]) (fun _ => .tuple #[]) := by
 refine Con.of (enters_of Try.func47 (by kernel_rfl) rfl) fun w cs HS HH OW => ?_
 have HW0 := So.wj_zero 20
 refine (callsIn_wide (n := 6)).1 ?_
 refine callsIn_of_wp_marks Try.func47 rfl trivial ?_ rfl
 simp only [Try.ntmps47, eF, Nat.reduceAdd, Nat.reduceSub]
 gi_upto_region 0 with fail
 refine rg (fun q1 => [.v (.int .i64 20)]) (fun _ L => L) OW ?_
 clear OW; intro q1 _ Wq1 OW; simp only [↓pc, ↓pn, vE, Hint.val, Act.put, eL]
 gi_upto_region 1 with fail
 refine rg (fun q2 => [.v (.int .i64 20),
  .v (.int .i64 0),
  .v (.int .i64 20)]) (fun _ L => L) OW ?_
 clear OW; intro q2 _ Wq2 OW; simp only [↓pc, ↓pn, vE, Hint.val, Act.put, eL]
 gi_wp2
 gi_loopw [7, 8] (fun z7 z8 wr => ∃ j : Nat, j ≤ n ∧ z7 = .int .i64 ((So.wj 20 j : Nat) : Int) ∧ z8 = .int .i64 ((So.wj 20 j + 20 : Nat) : Int) ∧ (So.wj 20 j ≤ n) ∧ OwnE (ids cs.flatten) w [slI v (So.bl kI 20 xs j), ob g #[.func (.func 8) #[] #[]] 27] wr) (fun z7 z8 _ => n + 1 - (intOf z8).toNat)
 case atStart => exact ⟨0, by omega, congrArg (fun n : Nat => Value.int .i64 (n : Int)) (So.wj_zero _).symm, congrArg (fun n : Nat => Value.int .i64 ((n + 20 : Nat) : Int)) (So.wj_zero _).symm, by rw [So.wj_zero]; omega, (by rw [So.bl]; exact OwnE.cast OW.out (by kernel_rfl))⟩
 case round =>
  obtain ⟨j, hk4, rfl, rfl, hw, hO⟩ := hrel
  clear OW
  have HW := Lib.hid hw
  clear hw
  have hw := HW.out
  have hw2 := So.wj_ge (w := 20) (by omega) j
  have hw3 := So.wj_succ 20 j
  have HS1 := Nat.le_of_eq (So.bl_len (key := kI) (w := 20) (ys := xs) (j := j) (by omega))
  have HS2 := Nat.le_of_eq (So.bl_len (key := kI) (w := 20) (ys := xs) (j := j) (by omega)).symm
  have OW := Lib.hid hO
  clear hO
  gi_upto_region 2 with fail
  refine rg (fun q5 => [.v (.int .i64 ((So.wj 20 j + 20 : Nat) : Int)),
   .v (.int .i64 (n : Int)),
   .v (.bool (decide (((So.wj 20 j + 20 : Nat) : Int) ≤ (n : Int))))]) (fun _ L => L) OW ?_
  clear OW; intro q5 _ Wq5 OW; simp only [↓pc, ↓pn, vE, Hint.val, Act.put, eL]
  cases hB6 : (decide (((So.wj 20 j + 20 : Nat) : Int) ≤ (n : Int)))
  case true =>
   have dhB6 := of_decide_eq_true hB6
   gi_upto_region 3 with fail
   refine rg (fun q7 => [.v (v),
    .v (.int .i64 ((So.wj 20 j : Nat) : Int)),
    .v (.int .i64 ((So.wj 20 j + 20 : Nat) : Int)),
    .v (.func (.func 21) #[] #[.pointer (some ⟨g, 0, none⟩)]),
    .c [0, 1] [0] (soinsI v (So.bl kI 20 xs j) (So.wj 20 j) (So.wj 20 j + 20) g (by omega) (by omega) (by omega))]) (fun q7 L => L.set 0 (slI v (So.sg kI (So.bl kI 20 xs j) (So.wj 20 j) (So.wj 20 j + 20)))) OW ?_
   clear OW; intro q7 _ Wq7 OW; simp only [↓pc, ↓pn, vE, Hint.val, Act.put, eL]
   gi_upto_region 4 with fail
   refine rg (fun q8 => [.v (.int .i64 ((So.wj 20 j + 20 : Nat) : Int)),
    .v (.int .i64 ((So.wj 20 j + 20 : Nat) : Int))]) (fun _ L => L) OW ?_
   clear OW; intro q8 _ Wq8 OW; simp only [↓pc, ↓pn, vE, Hint.val, Act.put, eL]
   gi_upto_region 5 with fail
   refine rg (fun q9 => [.v (.int .i64 ((So.wj 20 j + 20 : Nat) : Int)),
    .v (.int .i64 20),
    .t (tb (a := .int .i64 ((So.wj 20 j + 20 : Nat) : Int)) (b := .int .i64 20) fun _ _ _ _ => bin_add_nat (a := So.wj 20 j + 20) (b := 20) (by omega)),
    .v (.int .i64 (((So.wj 20 j + 20) + 20 : Nat) : Int))]) (fun _ L => L) OW ?_
   clear OW; intro q9 _ Wq9 OW; simp only [↓pc, ↓pn, vE, Hint.val, Act.put, eL]
   gi_wp2
   go_roundw
   case rel => exact ⟨j + 1, by omega, congrArg (fun n : Nat => Value.int .i64 (n : Int)) (So.wj_succ _ _).symm, congrArg (fun n : Nat => Value.int .i64 ((n + 20 : Nat) : Int)) (So.wj_succ _ _).symm, by rw [So.wj_succ]; omega, (by rw [ins_bl]; exact OwnE.pick OW.out [0, 1] _ (by kernel_rfl))⟩
   case measure => (simp [intOf] <;> omega)
  have dhB6 := of_decide_eq_false hB6
  gi_upto_region 6 with fail
  refine rg (fun q10 => [.v (v),
   .v (.int .i64 ((So.wj 20 j : Nat) : Int)),
   .v (.int .i64 (n : Int)),
   .v (.func (.func 21) #[] #[.pointer (some ⟨g, 0, none⟩)]),
   .c [0, 1] [0] (soinsI v (So.bl kI 20 xs j) (So.wj 20 j) n g (by omega) (by omega) (by omega))]) (fun q10 L => L.set 0 (slI v (So.sg kI (So.bl kI 20 xs j) (So.wj 20 j) n))) OW ?_
  clear OW; intro q10 _ Wq10 OW; simp only [↓pc, ↓pn, vE, Hint.val, Act.put, eL]
  gi_wp2
  gi_loopw [6] (fun z6 wr => ∃ r : Nat, r ≤ n ∧ z6 = .int .i64 ((So.szS r : Nat) : Int) ∧ (So.PhI kI xs n r (So.ph kI xs n r)) ∧ OwnE (ids cs.flatten) w [slI v (So.ph kI xs n r), ob g #[.func (.func 8) #[] #[]] 27] wr) (fun z6 _ => n + 1 - (intOf z6).toNat)
  case atStart => exact ⟨0, by omega, congrArg (fun n : Nat => Value.int .i64 (n : Int)) So.szS_zero.symm, So.PhI.zero (Nat.le_antisymm h1 h2), (by rw [So.ph_0 (j := j) (by omega) (by omega)]; exact OwnE.cast OW.out (by kernel_rfl))⟩
  case round =>
   obtain ⟨r, hk12, rfl, hp, hO⟩ := hrel
   clear OW
   have HP := Lib.hid hp
   clear hp
   have hs2 := So.szS_lt r
   have HS1 := Nat.le_of_eq HP.out.le
   have HS2 := Nat.le_of_eq HP.out.le.symm
   have OW := Lib.hid hO
   clear hO
   gi_upto_region 7 with fail
   refine rg (fun q13 => [.v (.int .i64 ((So.szS r : Nat) : Int)),
    .v (.int .i64 (n : Int)),
    .v (.bool (decide (((So.szS r : Nat) : Int) < (n : Int))))]) (fun _ L => L) OW ?_
   clear OW; intro q13 _ Wq13 OW; simp only [↓pc, ↓pn, vE, Hint.val, Act.put, eL]
   cases hB14 : (decide (((So.szS r : Nat) : Int) < (n : Int)))
   case true =>
    have dhB14 := of_decide_eq_true hB14
    gi_upto_region 8 with fail
    refine rg (fun q15 => [.v (.int .i64 ((So.szS r : Nat) : Int)),
     .t (tb (a := .int .i64 2) (b := .int .i64 ((So.szS r : Nat) : Int)) fun _ _ _ _ => bin_mul_nat (a := 2) (b := So.szS r) (by omega)),
     .v (.int .i64 0),
     .v (.int .i64 ((2 * (So.szS r) : Nat) : Int))]) (fun _ L => L) OW ?_
    clear OW; intro q15 _ Wq15 OW; simp only [↓pc, ↓pn, vE, Hint.val, Act.put, eL]
    gi_wp2
    gi_loopw [7, 8] (fun z7 z8 wr => ∃ j2 : Nat, j2 ≤ n ∧ z7 = .int .i64 ((So.wj (2 * So.szS r) j2 : Nat) : Int) ∧ z8 = .int .i64 ((So.wj (2 * So.szS r) j2 + 2 * So.szS r : Nat) : Int) ∧ (So.wj (2 * So.szS r) j2 ≤ n) ∧ OwnE (ids cs.flatten) w [slI v (So.bl kI (2 * So.szS r) (So.ph kI xs n r) j2), ob g #[.func (.func 8) #[] #[]] 27] wr) (fun z7 z8 _ => n + 1 - (intOf z8).toNat)
    case atStart => exact ⟨0, by omega, congrArg (fun n : Nat => Value.int .i64 (n : Int)) (So.wj_zero _).symm, congrArg (fun n : Nat => Value.int .i64 (n : Int)) (by rw [So.wj_zero, Nat.zero_add]), by rw [So.wj_zero]; omega, (by rw [So.bl]; exact OwnE.cast OW.out (by kernel_rfl))⟩
    case round =>
     obtain ⟨j2, hk17, rfl, rfl, hw, hO⟩ := hrel
     clear OW
     have HW := Lib.hid hw
     clear hw
     have hw := HW.out
     have hw2 := So.wj_ge (w := 2 * So.szS r) (by omega) j2
     have hw3 := So.wj_succ (2 * So.szS r) j2
     have HS3 := Nat.le_of_eq (HP.out.bll (j := j2) hw)
     have HS4 := Nat.le_of_eq (HP.out.bll (j := j2) hw).symm
     have OW := Lib.hid hO
     clear hO
     gi_upto_region 9 with fail
     refine rg (fun q18 => [.v (.int .i64 ((So.wj (2 * So.szS r) j2 + 2 * So.szS r : Nat) : Int)),
      .v (.int .i64 (n : Int)),
      .v (.bool (decide (((So.wj (2 * So.szS r) j2 + 2 * So.szS r : Nat) : Int) ≤ (n : Int))))]) (fun _ L => L) OW ?_
     clear OW; intro q18 _ Wq18 OW; simp only [↓pc, ↓pn, vE, Hint.val, Act.put, eL]
     cases hB19 : (decide (((So.wj (2 * So.szS r) j2 + 2 * So.szS r : Nat) : Int) ≤ (n : Int)))
     case true =>
      have dhB19 := of_decide_eq_true hB19
      gi_upto_region 10 with fail
      have HU := Lib.hid (HP.out.up2 (j := j2) (by omega))
      refine rg (fun q20 => [.v (v),
       .v (.int .i64 ((So.wj (2 * So.szS r) j2 : Nat) : Int)),
       .v (.int .i64 ((So.wj (2 * So.szS r) j2 : Nat) : Int)),
       .v (.int .i64 ((So.szS r : Nat) : Int)),
       .t (tb (a := .int .i64 ((So.wj (2 * So.szS r) j2 : Nat) : Int)) (b := .int .i64 ((So.szS r : Nat) : Int)) fun _ _ _ _ => bin_add_nat (a := So.wj (2 * So.szS r) j2) (b := So.szS r) (by omega)),
       .v (.int .i64 ((So.wj (2 * So.szS r) j2 + 2 * So.szS r : Nat) : Int)),
       .v (.func (.func 21) #[] #[.pointer (some ⟨g, 0, none⟩)]),
       .c [0, 1] [0] (sosymN v g ((So.wj (2 * So.szS r) j2 + 2 * So.szS r) - (So.wj (2 * So.szS r) j2) + 1) (So.bl kI (2 * So.szS r) (So.ph kI xs n r) j2) (So.wj (2 * So.szS r) j2) ((So.wj (2 * So.szS r) j2) + (So.szS r)) (So.wj (2 * So.szS r) j2 + 2 * So.szS r) (Nat.lt_succ_self _) HU.out.1 HU.out.2 (by omega) (by omega) (by omega) (by omega))]) (fun q20 L => L.set 0 (slI v (So.sg kI (So.bl kI (2 * So.szS r) (So.ph kI xs n r) j2) (So.wj (2 * So.szS r) j2) (So.wj (2 * So.szS r) j2 + 2 * So.szS r)))) OW ?_
      clear OW; intro q20 _ Wq20 OW; simp only [↓pc, ↓pn, vE, Hint.val, Act.put, eL]
      gi_upto_region 11 with fail
      refine rg (fun q21 => [.v (.int .i64 ((So.wj (2 * So.szS r) j2 + 2 * So.szS r : Nat) : Int)),
       .v (.int .i64 ((So.wj (2 * So.szS r) j2 + 2 * So.szS r : Nat) : Int))]) (fun _ L => L) OW ?_
      clear OW; intro q21 _ Wq21 OW; simp only [↓pc, ↓pn, vE, Hint.val, Act.put, eL]
      gi_upto_region 12 with fail
      refine rg (fun q22 => [.v (.int .i64 ((So.wj (2 * So.szS r) j2 + 2 * So.szS r : Nat) : Int)),
       .v (.int .i64 ((So.szS r : Nat) : Int)),
       .t (tb (a := .int .i64 2) (b := .int .i64 ((So.szS r : Nat) : Int)) fun _ _ _ _ => bin_mul_nat (a := 2) (b := So.szS r) (by omega)),
       .t (tb (a := .int .i64 ((So.wj (2 * So.szS r) j2 + 2 * So.szS r : Nat) : Int)) (b := .int .i64 ((2 * (So.szS r) : Nat) : Int)) fun _ _ _ _ => bin_add_nat (a := So.wj (2 * So.szS r) j2 + 2 * So.szS r) (b := 2 * (So.szS r)) (by omega)),
       .v (.int .i64 (((So.wj (2 * So.szS r) j2 + 2 * So.szS r) + (2 * (So.szS r)) : Nat) : Int))]) (fun _ L => L) OW ?_
      clear OW; intro q22 _ Wq22 OW; simp only [↓pc, ↓pn, vE, Hint.val, Act.put, eL]
      gi_wp2
      go_roundw
      case rel => exact ⟨j2 + 1, by omega, congrArg (fun n : Nat => Value.int .i64 (n : Int)) (So.wj_succ _ _).symm, congrArg (fun n : Nat => Value.int .i64 ((n + 2 * So.szS r : Nat) : Int)) (So.wj_succ _ _).symm, by rw [So.wj_succ]; omega, (by rw [ins_bl]; exact OwnE.pick OW.out [0, 1] _ (by kernel_rfl))⟩
      case measure => (simp [intOf] <;> omega)
     have dhB19 := of_decide_eq_false hB19
     gi_upto_region 13 with fail
     refine rg (fun q23 => [.v (.int .i64 ((So.wj (2 * So.szS r) j2 : Nat) : Int)),
      .v (.int .i64 ((So.szS r : Nat) : Int)),
      .t (tb (a := .int .i64 ((So.wj (2 * So.szS r) j2 : Nat) : Int)) (b := .int .i64 ((So.szS r : Nat) : Int)) fun _ _ _ _ => bin_add_nat (a := So.wj (2 * So.szS r) j2) (b := So.szS r) (by omega)),
      .v (.int .i64 (((So.wj (2 * So.szS r) j2) + (So.szS r) : Nat) : Int))]) (fun _ L => L) OW ?_
     clear OW; intro q23 _ Wq23 OW; simp only [↓pc, ↓pn, vE, Hint.val, Act.put, eL]
     gi_upto_region 14 with fail
     refine rg (fun q24 => [.v (.int .i64 (((So.wj (2 * So.szS r) j2) + (So.szS r) : Nat) : Int)),
      .v (.int .i64 (n : Int)),
      .v (.bool (decide ((((So.wj (2 * So.szS r) j2) + (So.szS r) : Nat) : Int) < (n : Int))))]) (fun _ L => L) OW ?_
     clear OW; intro q24 _ Wq24 OW; simp only [↓pc, ↓pn, vE, Hint.val, Act.put, eL]
     cases hB25 : (decide ((((So.wj (2 * So.szS r) j2) + (So.szS r) : Nat) : Int) < (n : Int)))
     case true =>
      have dhB25 := of_decide_eq_true hB25
      gi_upto_region 15 with fail
      have HU := Lib.hid (HP.out.up1 (j := j2) (by omega) (by omega))
      refine rg (fun q26 => [.v (v),
       .v (.int .i64 ((So.wj (2 * So.szS r) j2 : Nat) : Int)),
       .v (.int .i64 (((So.wj (2 * So.szS r) j2) + (So.szS r) : Nat) : Int)),
       .v (.int .i64 (n : Int)),
       .v (.func (.func 21) #[] #[.pointer (some ⟨g, 0, none⟩)]),
       .c [0, 1] [0] (sosymN v g (n - (So.wj (2 * So.szS r) j2) + 1) (So.bl kI (2 * So.szS r) (So.ph kI xs n r) j2) (So.wj (2 * So.szS r) j2) ((So.wj (2 * So.szS r) j2) + (So.szS r)) n (Nat.lt_succ_self _) HU.out.1 HU.out.2 (by omega) (by omega) (by omega) (by omega))]) (fun q26 L => L.set 0 (slI v (So.sg kI (So.bl kI (2 * So.szS r) (So.ph kI xs n r) j2) (So.wj (2 * So.szS r) j2) n))) OW ?_
      clear OW; intro q26 _ Wq26 OW; simp only [↓pc, ↓pn, vE, Hint.val, Act.put, eL]
      gi_upto_region 16 with fail
      refine rg (fun q27 => [.v (.int .i64 ((So.szS r : Nat) : Int)),
       .t (tb (a := .int .i64 ((So.szS r : Nat) : Int)) (b := .int .i64 2) fun _ _ _ _ => bin_mul_nat (a := So.szS r) (b := 2) (by omega)),
       .v (.int .i64 (((So.szS r) * 2 : Nat) : Int))]) (fun _ L => L) OW ?_
      clear OW; intro q27 _ Wq27 OW; simp only [↓pc, ↓pn, vE, Hint.val, Act.put, eL]
      gi_wp2
      go_roundw
      case rel => exact ⟨r + 1, by omega, congrArg (fun n : Nat => Value.int .i64 (n : Int)) (szS_suc r).symm, HP.out.next, (by (first | rw [So.ph_t (j := j2) (by omega) (by omega) (by omega)] | rw [So.ph_f (j := j2) (by omega) (by omega) (by omega)]); exact OwnE.pick OW.out [0, 1] _ (by kernel_rfl))⟩
      case measure => (simp [intOf] <;> omega)
     have dhB25 := of_decide_eq_false hB25
     gi_upto_region 16 with fail
     refine rg (fun q28 => [.v (.int .i64 ((So.szS r : Nat) : Int)),
      .t (tb (a := .int .i64 ((So.szS r : Nat) : Int)) (b := .int .i64 2) fun _ _ _ _ => bin_mul_nat (a := So.szS r) (b := 2) (by omega)),
      .v (.int .i64 (((So.szS r) * 2 : Nat) : Int))]) (fun _ L => L) OW ?_
     clear OW; intro q28 _ Wq28 OW; simp only [↓pc, ↓pn, vE, Hint.val, Act.put, eL]
     gi_wp2
     go_roundw
     case rel => exact ⟨r + 1, by omega, congrArg (fun n : Nat => Value.int .i64 (n : Int)) (szS_suc r).symm, HP.out.next, (by (first | rw [So.ph_t (j := j2) (by omega) (by omega) (by omega)] | rw [So.ph_f (j := j2) (by omega) (by omega) (by omega)]); exact OwnE.pick OW.out [0, 1] _ (by kernel_rfl))⟩
     case measure => (simp [intOf] <;> omega)
   have dhB14 := of_decide_eq_false hB14
   gi_wp2
   exact leafE HS HH OW [] Env.zero [0] [(1, 1)] rfl (by kernel_rfl) (by rw [HP.out.fin (by omega)]; (repeat (first | rw [hB6] | rw [hB14] | rw [cond_true] | rw [cond_false])); kernel_rfl)
set_option maxRecDepth 100000 in
set_option maxHeartbeats 1000000 in
theorem sosrt (v : Value) (xs : List Int) (g : Nat) (h4 : xs.length ≤ 1000000) : Con Try.prog 20 #[v, .func (.func 21) #[] #[.pointer (some ⟨g, 0, none⟩)]] [slI v xs, ob g #[.func (.func 8) #[] #[]] 27] [0] (fun _ => [slI v (So.srt kI xs)]) (fun _ => .tuple #[]) := by
 refine Con.of (enters_of Try.func20 (by kernel_rfl) rfl) fun w cs HS HH OW => ?_
 refine (callsIn_wide (n := 6)).1 ?_
 refine callsIn_of_wp_marks Try.func20 rfl trivial ?_ rfl
 simp only [Try.ntmps20, eF, Nat.reduceAdd, Nat.reduceSub]
 gi_upto_region 0 with fail
 refine rg (fun q1 => [.v (v),
  .v (v),
  .m (lenS 0 (slI v xs) (fun _ h => h)),
  .v (.func (.func 21) #[] #[.pointer (some ⟨g, 0, none⟩)]),
  .c [0, 1] [0] (sostb v xs xs.length g (by omega) (by omega) (by omega))]) (fun q1 L => L.set 0 (slI v (So.srt kI xs))) OW ?_
 clear OW; intro q1 _ Wq1 OW; simp only [↓pc, ↓pn, vE, Hint.val, Act.put, eL]
 gi_wp2
 exact leafE HS HH OW [] Env.zero [0] [(1, 1)] rfl
end Go.Proofs.Ytdglhppcfdpcaaa.E
