/- The merge: of ints. -/
import Derived.Test.YtdglhppcfdpcaaaSoE
import Derived.WalkKit
import Derived.Sort.CutIn
import Derived.IntWalk
namespace Go.Proofs.Ytdglhppcfdpcaaa.E
open Go Go.RowKit Go.Shelf
attribute [local go_sem] Oper.semAt_some
set_option linter.unusedVariables false
set_option linter.unusedSimpArgs false

attribute [local irreducible] So.mvL So.mvR So.sg So.rotL So.Up So.seg kI bp1 bp2 bp3 loM hiM kcmp_0
/-- The merge of shorter parts. -/
def SymIH (v : Value) (g n : Nat) : Prop := ∀ (xs : List Int) (a m b : Nat), b - a < n → So.Up kI (So.seg xs a m) → So.Up kI (So.seg xs m b) → a < m → m < b → b ≤ xs.length → xs.length ≤ 1000000 → Con Try.prog 75 #[v, .int .i64 (a : Int), .int .i64 (m : Int), .int .i64 (b : Int), .func (.func 21) #[] #[.pointer (some ⟨g, 0, none⟩)]] [slI v xs, ob g #[.func (.func 8) #[] #[]] 27] [0] (fun _ => [slI v (So.sg kI xs a b)]) (fun _ => .tuple #[])
set_option maxRecDepth 100000 in
set_option maxHeartbeats 1000000 in
theorem sosym1 (v : Value) (xs : List Int) (a m b : Nat) (g : Nat) (IH : Hid (SymIH v g (b - a))) (u1 : So.Up kI (So.seg xs a m)) (u2 : So.Up kI (So.seg xs m b)) (h1 : a < m) (h2 : m < b) (h3 : b ≤ xs.length) (h4 : xs.length ≤ 1000000) : Con Try.prog 75 #[v, .int .i64 (a : Int), .int .i64 (m : Int), .int .i64 (b : Int), .func (.func 21) #[] #[.pointer (some ⟨g, 0, none⟩)]] [slI v xs, ob g #[.func (.func 8) #[] #[]] 27] [0] (fun _ => [slI v (So.sg kI xs a b)]) (fun _ => .tuple #[]) := by
 refine Con.of (enters_of Try.func75 (by kernel_rfl) rfl) fun w cs HS HH OW => ?_
 have HV1 := Lib.hid u1
 have HV2 := Lib.hid u2
 clear u1 u2
 have HLH := lohi h1 h2
 refine (callsIn_wide (n := 6)).1 ?_
 refine callsIn_of_wp_marks Try.func75 rfl trivial ?_ rfl
 simp only [Try.ntmps75, eF, Nat.reduceAdd, Nat.reduceSub]
 gi_upto_region 0 with fail
 refine rg (fun q1 => [.v (.int .i64 (m : Int)),
  .v (.int .i64 (a : Int)),
  .t (tb (a := .int .i64 (m : Int)) (b := .int .i64 (a : Int)) fun _ _ _ _ => bin_sub_n (a := m) (b := a) (by first | omega | (simp only [List.length_set]; omega)) (by first | omega | (simp only [List.length_set]; omega))),
  .v (.bool (((m - a : Nat) : Int) == 1))]) (fun _ L => L) OW ?_
 clear OW; intro q1 _ Wq1 OW; simp only [↓pc, ↓pn, vE, Hint.val, Act.put, eL]
 cases hB2 : (((m - a : Nat) : Int) == 1)
 case true =>
  have dhB2 := Lib.hid (eq_of_beq hB2)
  gi_upto_region 1 with fail
  have hm1 := Int.le_of_eq (eq_of_beq hB2)
  have hm2 := Int.le_of_eq (eq_of_beq hB2).symm
  refine rg (fun q3 => [.v (.int .i64 (m : Int)),
   .v (.int .i64 (m : Int))]) (fun _ L => L) OW ?_
  clear OW; intro q3 _ Wq3 OW; simp only [↓pc, ↓pn, vE, Hint.val, Act.put, eL]
  gi_upto_region 2 with fail
  refine rg (fun q4 => [.v (.int .i64 (b : Int)),
   .v (.int .i64 (b : Int))]) (fun _ L => L) OW ?_
  clear OW; intro q4 _ Wq4 OW; simp only [↓pc, ↓pn, vE, Hint.val, Act.put, eL]
  gi_wp2
  gi_loopw [10, 11] (fun z10 z11 wr => ∃ s : Nat, s ≤ b - m ∧ z10 = .int .i64 (((bsS (bp1 xs a) m b s).1 : Nat) : Int) ∧ z11 = .int .i64 (((bsS (bp1 xs a) m b s).2 : Nat) : Int) ∧ (BsI (bp1 xs a) m b s (bsS (bp1 xs a) m b s)) ∧ OwnE (ids cs.flatten) w [slI v xs, ob g #[.func (.func 8) #[] #[]] 27] wr) (fun z10 z11 _ => (intOf z11).toNat - (intOf z10).toNat)
  case atStart => exact ⟨0, by omega, rfl, rfl, BsI.zero (by omega), (by skip; exact OwnE.cast OW.out (by kernel_rfl))⟩
  case round =>
   obtain ⟨s, hk6, rfl, rfl, hb1, hO⟩ := hrel
   clear OW
   have HB1 := Lib.hid hb1
   clear hb1
   have bi1 := HB1.out.lo
   have bi2 := HB1.out.le
   have bi3 := HB1.out.hi
   have bi4 := HB1.out.tm
   have OW := Lib.hid hO
   clear hO
   gi_upto_region 3 with fail
   refine rg (fun q7 => [.v (.int .i64 (((bsS (bp1 xs a) m b s).1 : Nat) : Int)),
    .v (.int .i64 (((bsS (bp1 xs a) m b s).2 : Nat) : Int)),
    .v (.bool (decide ((((bsS (bp1 xs a) m b s).1 : Nat) : Int) < (((bsS (bp1 xs a) m b s).2 : Nat) : Int))))]) (fun _ L => L) OW ?_
   clear OW; intro q7 _ Wq7 OW; simp only [↓pc, ↓pn, vE, Hint.val, Act.put, eL]
   cases hB8 : (decide ((((bsS (bp1 xs a) m b s).1 : Nat) : Int) < (((bsS (bp1 xs a) m b s).2 : Nat) : Int)))
   case true =>
    have dhB8 := of_decide_eq_true hB8
    gi_upto_region 4 with fail
    refine rg (fun q9 => [.v (.int .i64 (((bsS (bp1 xs a) m b s).1 : Nat) : Int)),
     .v (.int .i64 (((bsS (bp1 xs a) m b s).2 : Nat) : Int)),
     .t (tb (a := .int .i64 (((bsS (bp1 xs a) m b s).1 : Nat) : Int)) (b := .int .i64 (((bsS (bp1 xs a) m b s).2 : Nat) : Int)) fun _ _ _ _ => bin_add_nat (a := (bsS (bp1 xs a) m b s).1) (b := (bsS (bp1 xs a) m b s).2) (by first | omega | (simp only [List.length_set]; omega))),
     .t (tc (k := .i64) (l := .u64) (a := .int .i64 ((((bsS (bp1 xs a) m b s).1) + ((bsS (bp1 xs a) m b s).2) : Nat) : Int)) fun _ _ _ hS hT => cvt_i64u hS hT (by first | omega | (simp only [List.length_set]; omega))),
     .t (tb (a := .int .u64 ((((bsS (bp1 xs a) m b s).1) + ((bsS (bp1 xs a) m b s).2) : Nat) : Int)) (b := .int .u64 1) fun _ _ _ _ => bin_shr_u64 1 (by decide)),
     .t (tc (k := .u64) (l := .i64) (a := .int .u64 (((((bsS (bp1 xs a) m b s).1) + ((bsS (bp1 xs a) m b s).2)) / 2 : Nat) : Int)) fun _ _ _ hS hT => cvt_u64i hS hT (by first | omega | (simp only [List.length_set]; omega))),
     .v (.int .i64 (((((bsS (bp1 xs a) m b s).1) + ((bsS (bp1 xs a) m b s).2)) / 2 : Nat) : Int))]) (fun _ L => L) OW ?_
    clear OW; intro q9 _ Wq9 OW; simp only [↓pc, ↓pn, vE, Hint.val, Act.put, eL]
    gi_upto_region 5 with fail
    refine rg (fun q10 => [.v (.func (.func 21) #[] #[.pointer (some ⟨g, 0, none⟩)]),
     .v (v),
     .v (.int .i64 (((((bsS (bp1 xs a) m b s).1) + ((bsS (bp1 xs a) m b s).2)) / 2 : Nat) : Int)),
     .m (idxS 0 (slI v xs) ((((bsS (bp1 xs a) m b s).1) + ((bsS (bp1 xs a) m b s).2)) / 2) 1 (fun _ h => h) (by first | omega | (simp only [List.length_set]; omega))),
     .m (ldS (u := .int .i64 (xs.getD ((((bsS (bp1 xs a) m b s).1) + ((bsS (bp1 xs a) m b s).2)) / 2) 0)) (d := 0) 0 (slI v xs) ((((bsS (bp1 xs a) m b s).1) + ((bsS (bp1 xs a) m b s).2)) / 2) 1 0 (fun _ h => h) (fun _ => rfl) (by first | omega | (simp only [List.length_set]; omega)) (Nat.le_of_ble_eq_true rfl) (by kernel_rfl)),
     .v (v),
     .v (.int .i64 (a : Int)),
     .m (idxS 0 (slI v xs) a 1 (fun _ h => h) (by first | omega | (simp only [List.length_set]; omega))),
     .m (ldS (u := .int .i64 (xs.getD a 0)) (d := 0) 0 (slI v xs) a 1 0 (fun _ h => h) (fun _ => rfl) (by first | omega | (simp only [List.length_set]; omega)) (Nat.le_of_ble_eq_true rfl) (by kernel_rfl)),
     .c [1] [] (kclo (xs.getD ((((bsS (bp1 xs a) m b s).1) + ((bsS (bp1 xs a) m b s).2)) / 2) 0) (xs.getD a 0) g),
     .v (.bool (decide ((kcmp_0 ((xs.getD ((((bsS (bp1 xs a) m b s).1) + ((bsS (bp1 xs a) m b s).2)) / 2) 0) % 4) ((xs.getD a 0) % 4)) < 0)))]) (fun _ L => L) OW ?_
    clear OW; intro q10 _ Wq10 OW; simp only [↓pc, ↓pn, vE, Hint.val, Act.put, eL]
    cases hB11 : (decide ((kcmp_0 ((xs.getD ((((bsS (bp1 xs a) m b s).1) + ((bsS (bp1 xs a) m b s).2)) / 2) 0) % 4) ((xs.getD a 0) % 4)) < 0))
    case true =>
     have dhB11 := of_decide_eq_true hB11
     gi_upto_region 6 with fail
     have HP := bp1_of hB11
     refine rg (fun q12 => [.v (.int .i64 (((((bsS (bp1 xs a) m b s).1) + ((bsS (bp1 xs a) m b s).2)) / 2 : Nat) : Int)),
      .t (tb (a := .int .i64 (((((bsS (bp1 xs a) m b s).1) + ((bsS (bp1 xs a) m b s).2)) / 2 : Nat) : Int)) (b := .int .i64 1) fun _ _ _ _ => bin_add_nat (a := (((bsS (bp1 xs a) m b s).1) + ((bsS (bp1 xs a) m b s).2)) / 2) (b := 1) (by first | omega | (simp only [List.length_set]; omega))),
      .v (.int .i64 ((((((bsS (bp1 xs a) m b s).1) + ((bsS (bp1 xs a) m b s).2)) / 2) + 1 : Nat) : Int))]) (fun _ L => L) OW ?_
     clear OW; intro q12 _ Wq12 OW; simp only [↓pc, ↓pn, vE, Hint.val, Act.put, eL]
     gi_wp2
     go_roundw
     case rel => exact ⟨s + 1, by omega, by first | exact congrArg (fun n : Nat => Value.int .i64 (n : Int)) (bsS_t HP).1.symm | exact congrArg (fun n : Nat => Value.int .i64 (n : Int)) (bsS_f HP).1.symm, by first | exact congrArg (fun n : Nat => Value.int .i64 (n : Int)) (bsS_t HP).2.symm | exact congrArg (fun n : Nat => Value.int .i64 (n : Int)) (bsS_f HP).2.symm, HB1.out.next (bp1_mono h3 HV2.out) (by omega), (by skip; exact OwnE.pick OW.out [0, 1] _ (by kernel_rfl))⟩
     case measure => (simp [intOf] <;> omega)
    have dhB11 := of_decide_eq_false hB11
    gi_upto_region 7 with fail
    have HP := bp1_of hB11
    refine rg (fun q13 => [.v (.int .i64 (((((bsS (bp1 xs a) m b s).1) + ((bsS (bp1 xs a) m b s).2)) / 2 : Nat) : Int)),
     .v (.int .i64 (((((bsS (bp1 xs a) m b s).1) + ((bsS (bp1 xs a) m b s).2)) / 2 : Nat) : Int))]) (fun _ L => L) OW ?_
    clear OW; intro q13 _ Wq13 OW; simp only [↓pc, ↓pn, vE, Hint.val, Act.put, eL]
    gi_wp2
    go_roundw
    case rel => exact ⟨s + 1, by omega, by first | exact congrArg (fun n : Nat => Value.int .i64 (n : Int)) (bsS_t HP).1.symm | exact congrArg (fun n : Nat => Value.int .i64 (n : Int)) (bsS_f HP).1.symm, by first | exact congrArg (fun n : Nat => Value.int .i64 (n : Int)) (bsS_t HP).2.symm | exact congrArg (fun n : Nat => Value.int .i64 (n : Int)) (bsS_f HP).2.symm, HB1.out.next (bp1_mono h3 HV2.out) (by omega), (by skip; exact OwnE.pick OW.out [0, 1] _ (by kernel_rfl))⟩
    case measure => (simp [intOf] <;> omega)
   have dhB8 := of_decide_eq_false hB8
   gi_upto_region 8 with fail
   refine rg (fun q14 => [.v (.int .i64 (a : Int)),
    .v (.int .i64 (a : Int))]) (fun _ L => L) OW ?_
   clear OW; intro q14 _ Wq14 OW; simp only [↓pc, ↓pn, vE, Hint.val, Act.put, eL]
   gi_wp2
   gi_loopw [13] (fun z13 wr => ∃ t : Nat, t ≤ (bsS (bp1 xs a) m b s).1 - 1 - a ∧ z13 = .int .i64 ((a + t : Nat) : Int) ∧ OwnE (ids cs.flatten) w [slI v (So.mvR 0 xs a t), ob g #[.func (.func 8) #[] #[]] 27] wr) (fun z13 _ => b - (intOf z13).toNat)
   case atStart => exact ⟨0, by omega, rfl, (by rw [So.mvR]; exact OwnE.cast OW.out (by kernel_rfl))⟩
   case round =>
    obtain ⟨t, hk16, rfl, hO⟩ := hrel
    clear OW
    have HS3 := Nat.le_of_eq (So.mvR_len 0 xs a t)
    have HS4 := Nat.le_of_eq (So.mvR_len 0 xs a t).symm
    have OW := Lib.hid hO
    clear hO
    gi_upto_region 9 with fail
    refine rg (fun q17 => [.v (.int .i64 ((a + t : Nat) : Int)),
     .v (.int .i64 (((bsS (bp1 xs a) m b s).1 : Nat) : Int)),
     .t (tb (a := .int .i64 (((bsS (bp1 xs a) m b s).1 : Nat) : Int)) (b := .int .i64 1) fun _ _ _ _ => bin_sub_n (a := (bsS (bp1 xs a) m b s).1) (b := 1) (by first | omega | (simp only [List.length_set]; omega)) (by first | omega | (simp only [List.length_set]; omega))),
     .v (.bool (decide (((a + t : Nat) : Int) < ((((bsS (bp1 xs a) m b s).1) - 1 : Nat) : Int))))]) (fun _ L => L) OW ?_
    clear OW; intro q17 _ Wq17 OW; simp only [↓pc, ↓pn, vE, Hint.val, Act.put, eL]
    cases hB18 : (decide (((a + t : Nat) : Int) < ((((bsS (bp1 xs a) m b s).1) - 1 : Nat) : Int)))
    case true =>
     have dhB18 := of_decide_eq_true hB18
     gi_upto_region 11 with fail
     refine rg (fun q19 => [.v (v),
      .v (.int .i64 ((a + t : Nat) : Int)),
      .v (v),
      .v (.int .i64 ((a + t : Nat) : Int)),
      .t (tb (a := .int .i64 ((a + t : Nat) : Int)) (b := .int .i64 1) fun _ _ _ _ => bin_add_nat (a := a + t) (b := 1) (by first | omega | (simp only [List.length_set]; omega))),
      .v (v),
      .v (.int .i64 ((a + t : Nat) : Int)),
      .t (tb (a := .int .i64 ((a + t : Nat) : Int)) (b := .int .i64 1) fun _ _ _ _ => bin_add_nat (a := a + t) (b := 1) (by first | omega | (simp only [List.length_set]; omega))),
      .m (idxS 0 (slI v (So.mvR 0 xs a t)) ((a + t) + 1) 1 (fun _ h => h) (by first | omega | (simp only [List.length_set]; omega))),
      .m (ldS (u := .int .i64 ((So.mvR 0 xs a t).getD ((a + t) + 1) 0)) (d := 0) 0 (slI v (So.mvR 0 xs a t)) ((a + t) + 1) 1 0 (fun _ h => h) (fun _ => rfl) (by first | omega | (simp only [List.length_set]; omega)) (Nat.le_of_ble_eq_true rfl) (by kernel_rfl)),
      .v (v),
      .v (.int .i64 ((a + t : Nat) : Int)),
      .m (idxS 0 (slI v (So.mvR 0 xs a t)) (a + t) 1 (fun _ h => h) (by first | omega | (simp only [List.length_set]; omega))),
      .m (ldS (u := .int .i64 ((So.mvR 0 xs a t).getD (a + t) 0)) (d := 0) 0 (slI v (So.mvR 0 xs a t)) (a + t) 1 0 (fun _ h => h) (fun _ => rfl) (by first | omega | (simp only [List.length_set]; omega)) (Nat.le_of_ble_eq_true rfl) (by kernel_rfl)),
      .m (idxS 0 (slI v (So.mvR 0 xs a t)) (a + t) 1 (fun _ h => h) (by first | omega | (simp only [List.length_set]; omega))),
      .m (stS (T := 3) (v := v) (xs := So.mvR 0 xs a t) (en := eI) (z := [.int .i64 0]) (d := 0) (a := ((So.mvR 0 xs a t).getD ((a + t) + 1) 0)) (u := .int .i64 ((So.mvR 0 xs a t).getD ((a + t) + 1) 0)) 0 (a + t) 1 0 (fun _ => rfl) (by first | omega | (simp only [List.length_set]; omega)) (by decide) (by kernel_rfl)),
      .m (idxS 0 (slI v ((So.mvR 0 xs a t).set (a + t) ((So.mvR 0 xs a t).getD ((a + t) + 1) 0))) ((a + t) + 1) 1 (fun _ h => h) (by first | omega | (simp only [List.length_set]; omega))),
      .m (stS (T := 3) (v := v) (xs := (So.mvR 0 xs a t).set (a + t) ((So.mvR 0 xs a t).getD ((a + t) + 1) 0)) (en := eI) (z := [.int .i64 0]) (d := 0) (a := ((So.mvR 0 xs a t).getD (a + t) 0)) (u := .int .i64 ((So.mvR 0 xs a t).getD (a + t) 0)) 0 ((a + t) + 1) 1 0 (fun _ => rfl) (by first | omega | (simp only [List.length_set]; omega)) (by decide) (by kernel_rfl))]) (fun q19 L => L.set 0 (slI v (((So.mvR 0 xs a t).set (a + t) ((So.mvR 0 xs a t).getD ((a + t) + 1) 0)).set ((a + t) + 1) ((So.mvR 0 xs a t).getD (a + t) 0)))) OW ?_
     clear OW; intro q19 _ Wq19 OW; simp only [↓pc, ↓pn, vE, Hint.val, Act.put, eL]
     gi_upto_region 10 with fail
     refine rg (fun q20 => [.v (.int .i64 ((a + t : Nat) : Int)),
      .t (tb (a := .int .i64 ((a + t : Nat) : Int)) (b := .int .i64 1) fun _ _ _ _ => bin_add_nat (a := a + t) (b := 1) (by first | omega | (simp only [List.length_set]; omega))),
      .v (.int .i64 (((a + t) + 1 : Nat) : Int))]) (fun _ L => L) OW ?_
     clear OW; intro q20 _ Wq20 OW; simp only [↓pc, ↓pn, vE, Hint.val, Act.put, eL]
     gi_wp2
     go_roundw
     case rel => exact ⟨t + 1, by omega, rfl, (by rw [So.mvR]; exact OwnE.pick OW.out [0, 1] _ (by kernel_rfl))⟩
     case measure => (simp [intOf] <;> omega)
    have dhB18 := of_decide_eq_false hB18
    gi_wp2
    exact leafE HS HH OW [] Env.zero [0] [(1, 1)] rfl (by kernel_rfl) (by (first | rw [HMD.out.sg.1] | (rw [mrg1 (a := a) (b := b) (t := t) (by omega) (by omega) h3 HV2.out HB1.out (by omega) (by omega)]) | (rw [mrg2 (a := a) (b := b) (t := t) (by omega) (by omega) h3 HV1.out HB2.out (by omega) (by omega)]) | (rw [Mid_b HMD.out (by have hnn := nand_dec (by assumption); omega)])); (repeat (first | rw [hB2] | rw [hB8] | rw [hB18] | rw [cond_true] | rw [cond_false])); kernel_rfl)
 have dhB2 := ne_of_beq_false hB2
 gi_upto_region 12 with fail
 refine rg (fun q21 => [.v (.int .i64 (b : Int)),
  .v (.int .i64 (m : Int)),
  .t (tb (a := .int .i64 (b : Int)) (b := .int .i64 (m : Int)) fun _ _ _ _ => bin_sub_n (a := b) (b := m) (by first | omega | (simp only [List.length_set]; omega)) (by first | omega | (simp only [List.length_set]; omega))),
  .v (.bool (((b - m : Nat) : Int) == 1))]) (fun _ L => L) OW ?_
 clear OW; intro q21 _ Wq21 OW; simp only [↓pc, ↓pn, vE, Hint.val, Act.put, eL]
 cases hB22 : (((b - m : Nat) : Int) == 1)
 case true =>
  have dhB22 := Lib.hid (eq_of_beq hB22)
  gi_upto_region 13 with fail
  have hm1 := Int.le_of_eq (eq_of_beq hB22)
  have hm2 := Int.le_of_eq (eq_of_beq hB22).symm
  refine rg (fun q23 => [.v (.int .i64 (a : Int)),
   .v (.int .i64 (a : Int))]) (fun _ L => L) OW ?_
  clear OW; intro q23 _ Wq23 OW; simp only [↓pc, ↓pn, vE, Hint.val, Act.put, eL]
  gi_upto_region 14 with fail
  refine rg (fun q24 => [.v (.int .i64 (m : Int)),
   .v (.int .i64 (m : Int))]) (fun _ L => L) OW ?_
  clear OW; intro q24 _ Wq24 OW; simp only [↓pc, ↓pn, vE, Hint.val, Act.put, eL]
  gi_wp2
  gi_loopw [14, 15] (fun z14 z15 wr => ∃ s : Nat, s ≤ m - a ∧ z14 = .int .i64 (((bsS (bp2 xs m) a m s).1 : Nat) : Int) ∧ z15 = .int .i64 (((bsS (bp2 xs m) a m s).2 : Nat) : Int) ∧ (BsI (bp2 xs m) a m s (bsS (bp2 xs m) a m s)) ∧ OwnE (ids cs.flatten) w [slI v xs, ob g #[.func (.func 8) #[] #[]] 27] wr) (fun z14 z15 _ => (intOf z15).toNat - (intOf z14).toNat)
  case atStart => exact ⟨0, by omega, rfl, rfl, BsI.zero (by omega), (by skip; exact OwnE.cast OW.out (by kernel_rfl))⟩
  case round =>
   obtain ⟨s, hk26, rfl, rfl, hb2, hO⟩ := hrel
   clear OW
   have HB2 := Lib.hid hb2
   clear hb2
   have bi1 := HB2.out.lo
   have bi2 := HB2.out.le
   have bi3 := HB2.out.hi
   have bi4 := HB2.out.tm
   have OW := Lib.hid hO
   clear hO
   gi_upto_region 15 with fail
   refine rg (fun q27 => [.v (.int .i64 (((bsS (bp2 xs m) a m s).1 : Nat) : Int)),
    .v (.int .i64 (((bsS (bp2 xs m) a m s).2 : Nat) : Int)),
    .v (.bool (decide ((((bsS (bp2 xs m) a m s).1 : Nat) : Int) < (((bsS (bp2 xs m) a m s).2 : Nat) : Int))))]) (fun _ L => L) OW ?_
   clear OW; intro q27 _ Wq27 OW; simp only [↓pc, ↓pn, vE, Hint.val, Act.put, eL]
   cases hB28 : (decide ((((bsS (bp2 xs m) a m s).1 : Nat) : Int) < (((bsS (bp2 xs m) a m s).2 : Nat) : Int)))
   case true =>
    have dhB28 := of_decide_eq_true hB28
    gi_upto_region 16 with fail
    refine rg (fun q29 => [.v (.int .i64 (((bsS (bp2 xs m) a m s).1 : Nat) : Int)),
     .v (.int .i64 (((bsS (bp2 xs m) a m s).2 : Nat) : Int)),
     .t (tb (a := .int .i64 (((bsS (bp2 xs m) a m s).1 : Nat) : Int)) (b := .int .i64 (((bsS (bp2 xs m) a m s).2 : Nat) : Int)) fun _ _ _ _ => bin_add_nat (a := (bsS (bp2 xs m) a m s).1) (b := (bsS (bp2 xs m) a m s).2) (by first | omega | (simp only [List.length_set]; omega))),
     .t (tc (k := .i64) (l := .u64) (a := .int .i64 ((((bsS (bp2 xs m) a m s).1) + ((bsS (bp2 xs m) a m s).2) : Nat) : Int)) fun _ _ _ hS hT => cvt_i64u hS hT (by first | omega | (simp only [List.length_set]; omega))),
     .t (tb (a := .int .u64 ((((bsS (bp2 xs m) a m s).1) + ((bsS (bp2 xs m) a m s).2) : Nat) : Int)) (b := .int .u64 1) fun _ _ _ _ => bin_shr_u64 1 (by decide)),
     .t (tc (k := .u64) (l := .i64) (a := .int .u64 (((((bsS (bp2 xs m) a m s).1) + ((bsS (bp2 xs m) a m s).2)) / 2 : Nat) : Int)) fun _ _ _ hS hT => cvt_u64i hS hT (by first | omega | (simp only [List.length_set]; omega))),
     .v (.int .i64 (((((bsS (bp2 xs m) a m s).1) + ((bsS (bp2 xs m) a m s).2)) / 2 : Nat) : Int))]) (fun _ L => L) OW ?_
    clear OW; intro q29 _ Wq29 OW; simp only [↓pc, ↓pn, vE, Hint.val, Act.put, eL]
    gi_upto_region 17 with fail
    refine rg (fun q30 => [.v (.func (.func 21) #[] #[.pointer (some ⟨g, 0, none⟩)]),
     .v (v),
     .v (.int .i64 (m : Int)),
     .m (idxS 0 (slI v xs) m 1 (fun _ h => h) (by first | omega | (simp only [List.length_set]; omega))),
     .m (ldS (u := .int .i64 (xs.getD m 0)) (d := 0) 0 (slI v xs) m 1 0 (fun _ h => h) (fun _ => rfl) (by first | omega | (simp only [List.length_set]; omega)) (Nat.le_of_ble_eq_true rfl) (by kernel_rfl)),
     .v (v),
     .v (.int .i64 (((((bsS (bp2 xs m) a m s).1) + ((bsS (bp2 xs m) a m s).2)) / 2 : Nat) : Int)),
     .m (idxS 0 (slI v xs) ((((bsS (bp2 xs m) a m s).1) + ((bsS (bp2 xs m) a m s).2)) / 2) 1 (fun _ h => h) (by first | omega | (simp only [List.length_set]; omega))),
     .m (ldS (u := .int .i64 (xs.getD ((((bsS (bp2 xs m) a m s).1) + ((bsS (bp2 xs m) a m s).2)) / 2) 0)) (d := 0) 0 (slI v xs) ((((bsS (bp2 xs m) a m s).1) + ((bsS (bp2 xs m) a m s).2)) / 2) 1 0 (fun _ h => h) (fun _ => rfl) (by first | omega | (simp only [List.length_set]; omega)) (Nat.le_of_ble_eq_true rfl) (by kernel_rfl)),
     .c [1] [] (kclo (xs.getD m 0) (xs.getD ((((bsS (bp2 xs m) a m s).1) + ((bsS (bp2 xs m) a m s).2)) / 2) 0) g),
     .v (.bool (decide ((kcmp_0 ((xs.getD m 0) % 4) ((xs.getD ((((bsS (bp2 xs m) a m s).1) + ((bsS (bp2 xs m) a m s).2)) / 2) 0) % 4)) < 0))),
     .v (.bool (!(decide ((kcmp_0 ((xs.getD m 0) % 4) ((xs.getD ((((bsS (bp2 xs m) a m s).1) + ((bsS (bp2 xs m) a m s).2)) / 2) 0) % 4)) < 0))))]) (fun _ L => L) OW ?_
    clear OW; intro q30 _ Wq30 OW; simp only [↓pc, ↓pn, vE, Hint.val, Act.put, eL]
    cases hB31 : (!(decide ((kcmp_0 ((xs.getD m 0) % 4) ((xs.getD ((((bsS (bp2 xs m) a m s).1) + ((bsS (bp2 xs m) a m s).2)) / 2) 0) % 4)) < 0)))
    case true =>
     have dhB31 := of_decide_eq_false (by first | exact (Bool.not_not _).symm.trans (congrArg (fun b => !b) hB31) | simpa using hB31)
     gi_upto_region 18 with fail
     have HP := bp2_of hB31
     refine rg (fun q32 => [.v (.int .i64 (((((bsS (bp2 xs m) a m s).1) + ((bsS (bp2 xs m) a m s).2)) / 2 : Nat) : Int)),
      .t (tb (a := .int .i64 (((((bsS (bp2 xs m) a m s).1) + ((bsS (bp2 xs m) a m s).2)) / 2 : Nat) : Int)) (b := .int .i64 1) fun _ _ _ _ => bin_add_nat (a := (((bsS (bp2 xs m) a m s).1) + ((bsS (bp2 xs m) a m s).2)) / 2) (b := 1) (by first | omega | (simp only [List.length_set]; omega))),
      .v (.int .i64 ((((((bsS (bp2 xs m) a m s).1) + ((bsS (bp2 xs m) a m s).2)) / 2) + 1 : Nat) : Int))]) (fun _ L => L) OW ?_
     clear OW; intro q32 _ Wq32 OW; simp only [↓pc, ↓pn, vE, Hint.val, Act.put, eL]
     gi_wp2
     go_roundw
     case rel => exact ⟨s + 1, by omega, by first | exact congrArg (fun n : Nat => Value.int .i64 (n : Int)) (bsS_t HP).1.symm | exact congrArg (fun n : Nat => Value.int .i64 (n : Int)) (bsS_f HP).1.symm, by first | exact congrArg (fun n : Nat => Value.int .i64 (n : Int)) (bsS_t HP).2.symm | exact congrArg (fun n : Nat => Value.int .i64 (n : Int)) (bsS_f HP).2.symm, HB2.out.next (bp2_mono (by omega) HV1.out) (by omega), (by skip; exact OwnE.pick OW.out [0, 1] _ (by kernel_rfl))⟩
     case measure => (simp [intOf] <;> omega)
    have dhB31 := of_decide_eq_true (by first | exact (Bool.not_not _).symm.trans (congrArg (fun b => !b) hB31) | simpa using hB31)
    gi_upto_region 19 with fail
    have HP := bp2_of hB31
    refine rg (fun q33 => [.v (.int .i64 (((((bsS (bp2 xs m) a m s).1) + ((bsS (bp2 xs m) a m s).2)) / 2 : Nat) : Int)),
     .v (.int .i64 (((((bsS (bp2 xs m) a m s).1) + ((bsS (bp2 xs m) a m s).2)) / 2 : Nat) : Int))]) (fun _ L => L) OW ?_
    clear OW; intro q33 _ Wq33 OW; simp only [↓pc, ↓pn, vE, Hint.val, Act.put, eL]
    gi_wp2
    go_roundw
    case rel => exact ⟨s + 1, by omega, by first | exact congrArg (fun n : Nat => Value.int .i64 (n : Int)) (bsS_t HP).1.symm | exact congrArg (fun n : Nat => Value.int .i64 (n : Int)) (bsS_f HP).1.symm, by first | exact congrArg (fun n : Nat => Value.int .i64 (n : Int)) (bsS_t HP).2.symm | exact congrArg (fun n : Nat => Value.int .i64 (n : Int)) (bsS_f HP).2.symm, HB2.out.next (bp2_mono (by omega) HV1.out) (by omega), (by skip; exact OwnE.pick OW.out [0, 1] _ (by kernel_rfl))⟩
    case measure => (simp [intOf] <;> omega)
   have dhB28 := of_decide_eq_false hB28
   gi_upto_region 20 with fail
   refine rg (fun q34 => [.v (.int .i64 (m : Int)),
    .v (.int .i64 (m : Int))]) (fun _ L => L) OW ?_
   clear OW; intro q34 _ Wq34 OW; simp only [↓pc, ↓pn, vE, Hint.val, Act.put, eL]
   gi_wp2
   gi_loopw [17] (fun z17 wr => ∃ t : Nat, t ≤ m - (bsS (bp2 xs m) a m s).1 ∧ z17 = .int .i64 ((m - t : Nat) : Int) ∧ OwnE (ids cs.flatten) w [slI v (So.mvL 0 xs m t), ob g #[.func (.func 8) #[] #[]] 27] wr) (fun z17 _ => (intOf z17).toNat)
   case atStart => exact ⟨0, by omega, rfl, (by rw [So.mvL]; exact OwnE.cast OW.out (by kernel_rfl))⟩
   case round =>
    obtain ⟨t, hk36, rfl, hO⟩ := hrel
    clear OW
    have HS3 := Nat.le_of_eq (So.mvL_len 0 xs m t)
    have HS4 := Nat.le_of_eq (So.mvL_len 0 xs m t).symm
    have OW := Lib.hid hO
    clear hO
    gi_upto_region 21 with fail
    refine rg (fun q37 => [.v (.int .i64 ((m - t : Nat) : Int)),
     .v (.int .i64 (((bsS (bp2 xs m) a m s).1 : Nat) : Int)),
     .v (.bool (decide ((((bsS (bp2 xs m) a m s).1 : Nat) : Int) < ((m - t : Nat) : Int))))]) (fun _ L => L) OW ?_
    clear OW; intro q37 _ Wq37 OW; simp only [↓pc, ↓pn, vE, Hint.val, Act.put, eL]
    cases hB38 : (decide ((((bsS (bp2 xs m) a m s).1 : Nat) : Int) < ((m - t : Nat) : Int)))
    case true =>
     have dhB38 := of_decide_eq_true hB38
     gi_upto_region 23 with fail
     refine rg (fun q39 => [.v (v),
      .v (.int .i64 ((m - t : Nat) : Int)),
      .v (v),
      .v (.int .i64 ((m - t : Nat) : Int)),
      .t (tb (a := .int .i64 ((m - t : Nat) : Int)) (b := .int .i64 1) fun _ _ _ _ => bin_sub_n (a := m - t) (b := 1) (by first | omega | (simp only [List.length_set]; omega)) (by first | omega | (simp only [List.length_set]; omega))),
      .v (v),
      .v (.int .i64 ((m - t : Nat) : Int)),
      .t (tb (a := .int .i64 ((m - t : Nat) : Int)) (b := .int .i64 1) fun _ _ _ _ => bin_sub_n (a := m - t) (b := 1) (by first | omega | (simp only [List.length_set]; omega)) (by first | omega | (simp only [List.length_set]; omega))),
      .m (idxS 0 (slI v (So.mvL 0 xs m t)) ((m - t) - 1) 1 (fun _ h => h) (by first | omega | (simp only [List.length_set]; omega))),
      .m (ldS (u := .int .i64 ((So.mvL 0 xs m t).getD ((m - t) - 1) 0)) (d := 0) 0 (slI v (So.mvL 0 xs m t)) ((m - t) - 1) 1 0 (fun _ h => h) (fun _ => rfl) (by first | omega | (simp only [List.length_set]; omega)) (Nat.le_of_ble_eq_true rfl) (by kernel_rfl)),
      .v (v),
      .v (.int .i64 ((m - t : Nat) : Int)),
      .m (idxS 0 (slI v (So.mvL 0 xs m t)) (m - t) 1 (fun _ h => h) (by first | omega | (simp only [List.length_set]; omega))),
      .m (ldS (u := .int .i64 ((So.mvL 0 xs m t).getD (m - t) 0)) (d := 0) 0 (slI v (So.mvL 0 xs m t)) (m - t) 1 0 (fun _ h => h) (fun _ => rfl) (by first | omega | (simp only [List.length_set]; omega)) (Nat.le_of_ble_eq_true rfl) (by kernel_rfl)),
      .m (idxS 0 (slI v (So.mvL 0 xs m t)) (m - t) 1 (fun _ h => h) (by first | omega | (simp only [List.length_set]; omega))),
      .m (stS (T := 3) (v := v) (xs := So.mvL 0 xs m t) (en := eI) (z := [.int .i64 0]) (d := 0) (a := ((So.mvL 0 xs m t).getD ((m - t) - 1) 0)) (u := .int .i64 ((So.mvL 0 xs m t).getD ((m - t) - 1) 0)) 0 (m - t) 1 0 (fun _ => rfl) (by first | omega | (simp only [List.length_set]; omega)) (by decide) (by kernel_rfl)),
      .m (idxS 0 (slI v ((So.mvL 0 xs m t).set (m - t) ((So.mvL 0 xs m t).getD ((m - t) - 1) 0))) ((m - t) - 1) 1 (fun _ h => h) (by first | omega | (simp only [List.length_set]; omega))),
      .m (stS (T := 3) (v := v) (xs := (So.mvL 0 xs m t).set (m - t) ((So.mvL 0 xs m t).getD ((m - t) - 1) 0)) (en := eI) (z := [.int .i64 0]) (d := 0) (a := ((So.mvL 0 xs m t).getD (m - t) 0)) (u := .int .i64 ((So.mvL 0 xs m t).getD (m - t) 0)) 0 ((m - t) - 1) 1 0 (fun _ => rfl) (by first | omega | (simp only [List.length_set]; omega)) (by decide) (by kernel_rfl))]) (fun q39 L => L.set 0 (slI v (((So.mvL 0 xs m t).set (m - t) ((So.mvL 0 xs m t).getD ((m - t) - 1) 0)).set ((m - t) - 1) ((So.mvL 0 xs m t).getD (m - t) 0)))) OW ?_
     clear OW; intro q39 _ Wq39 OW; simp only [↓pc, ↓pn, vE, Hint.val, Act.put, eL]
     gi_upto_region 22 with fail
     refine rg (fun q40 => [.v (.int .i64 ((m - t : Nat) : Int)),
      .t (tb (a := .int .i64 ((m - t : Nat) : Int)) (b := .int .i64 1) fun _ _ _ _ => bin_sub_n (a := m - t) (b := 1) (by first | omega | (simp only [List.length_set]; omega)) (by first | omega | (simp only [List.length_set]; omega))),
      .v (.int .i64 (((m - t) - 1 : Nat) : Int))]) (fun _ L => L) OW ?_
     clear OW; intro q40 _ Wq40 OW; simp only [↓pc, ↓pn, vE, Hint.val, Act.put, eL]
     gi_wp2
     go_roundw
     case rel => exact ⟨t + 1, by omega, rfl, (by rw [So.mvL]; exact OwnE.pick OW.out [0, 1] _ (by kernel_rfl))⟩
     case measure => (simp [intOf] <;> omega)
    have dhB38 := of_decide_eq_false hB38
    gi_wp2
    exact leafE HS HH OW [] Env.zero [0] [(1, 1)] rfl (by kernel_rfl) (by (first | rw [HMD.out.sg.1] | (rw [mrg1 (a := a) (b := b) (t := t) (by omega) (by omega) h3 HV2.out HB1.out (by omega) (by omega)]) | (rw [mrg2 (a := a) (b := b) (t := t) (by omega) (by omega) h3 HV1.out HB2.out (by omega) (by omega)]) | (rw [Mid_b HMD.out (by have hnn := nand_dec (by assumption); omega)])); (repeat (first | rw [hB2] | rw [hB22] | rw [hB28] | rw [hB38] | rw [cond_true] | rw [cond_false])); kernel_rfl)
 have dhB22 := ne_of_beq_false hB22
 gi_upto_region 24 with fail
 refine rg (fun q41 => [.v (.int .i64 (a : Int)),
  .v (.int .i64 (b : Int)),
  .t (tb (a := .int .i64 (a : Int)) (b := .int .i64 (b : Int)) fun _ _ _ _ => bin_add_nat (a := a) (b := b) (by first | omega | (simp only [List.length_set]; omega))),
  .t (tc (k := .i64) (l := .u64) (a := .int .i64 ((a + b : Nat) : Int)) fun _ _ _ hS hT => cvt_i64u hS hT (by first | omega | (simp only [List.length_set]; omega))),
  .t (tb (a := .int .u64 ((a + b : Nat) : Int)) (b := .int .u64 1) fun _ _ _ _ => bin_shr_u64 1 (by decide)),
  .t (tc (k := .u64) (l := .i64) (a := .int .u64 (((a + b) / 2 : Nat) : Int)) fun _ _ _ hS hT => cvt_u64i hS hT (by first | omega | (simp only [List.length_set]; omega))),
  .v (.int .i64 (((a + b) / 2 : Nat) : Int))]) (fun _ L => L) OW ?_
 clear OW; intro q41 _ Wq41 OW; simp only [↓pc, ↓pn, vE, Hint.val, Act.put, eL]
 gi_upto_region 25 with fail
 refine rg (fun q42 => [.v (.int .i64 (((a + b) / 2 : Nat) : Int)),
  .v (.int .i64 (m : Int)),
  .t (tb (a := .int .i64 (((a + b) / 2 : Nat) : Int)) (b := .int .i64 (m : Int)) fun _ _ _ _ => bin_add_nat (a := (a + b) / 2) (b := m) (by first | omega | (simp only [List.length_set]; omega))),
  .v (.int .i64 ((((a + b) / 2) + m : Nat) : Int))]) (fun _ L => L) OW ?_
 clear OW; intro q42 _ Wq42 OW; simp only [↓pc, ↓pn, vE, Hint.val, Act.put, eL]
 gi_upto_region 26 with fail
 refine rg (fun q43 => [.v (.int .i64 0),
  .v (.int .i64 0)]) (fun _ L => L) OW ?_
 clear OW; intro q43 _ Wq43 OW; simp only [↓pc, ↓pn, vE, Hint.val, Act.put, eL]
 gi_upto_region 27 with fail
 refine rg (fun q44 => [.v (.int .i64 (m : Int)),
  .v (.int .i64 (((a + b) / 2 : Nat) : Int)),
  .v (.bool (decide ((((a + b) / 2 : Nat) : Int) < (m : Int))))]) (fun _ L => L) OW ?_
 clear OW; intro q44 _ Wq44 OW; simp only [↓pc, ↓pn, vE, Hint.val, Act.put, eL]
 cases hB45 : (decide ((((a + b) / 2 : Nat) : Int) < (m : Int)))
 case true =>
  have dhB45 := of_decide_eq_true hB45
  gi_upto_region 28 with fail
  refine rg (fun q46 => [.v (.int .i64 ((((a + b) / 2) + m : Nat) : Int)),
   .v (.int .i64 (b : Int)),
   .t (tb (a := .int .i64 ((((a + b) / 2) + m : Nat) : Int)) (b := .int .i64 (b : Int)) fun _ _ _ _ => bin_sub_n (a := ((a + b) / 2) + m) (b := b) (by first | omega | (simp only [List.length_set]; omega)) (by first | omega | (simp only [List.length_set]; omega))),
   .v (.int .i64 (((((a + b) / 2) + m) - b : Nat) : Int))]) (fun _ L => L) OW ?_
  clear OW; intro q46 _ Wq46 OW; simp only [↓pc, ↓pn, vE, Hint.val, Act.put, eL]
  gi_upto_region 29 with fail
  refine rg (fun q47 => [.v (.int .i64 (((a + b) / 2 : Nat) : Int)),
   .v (.int .i64 (((a + b) / 2 : Nat) : Int))]) (fun _ L => L) OW ?_
  clear OW; intro q47 _ Wq47 OW; simp only [↓pc, ↓pn, vE, Hint.val, Act.put, eL]
  gi_upto_region 32 with fail
  refine rg (fun q48 => [.v (.int .i64 ((((a + b) / 2) + m : Nat) : Int)),
   .t (tb (a := .int .i64 ((((a + b) / 2) + m : Nat) : Int)) (b := .int .i64 1) fun _ _ _ _ => bin_sub_n (a := ((a + b) / 2) + m) (b := 1) (by first | omega | (simp only [List.length_set]; omega)) (by first | omega | (simp only [List.length_set]; omega))),
   .v (.int .i64 (((((a + b) / 2) + m) - 1 : Nat) : Int))]) (fun _ L => L) OW ?_
  clear OW; intro q48 _ Wq48 OW; simp only [↓pc, ↓pn, vE, Hint.val, Act.put, eL]
  gi_wp2
  gi_loopw [20, 21] (fun z20 z21 wr => ∃ s : Nat, s ≤ hiM a m b - loM a m b ∧ z20 = .int .i64 (((bsS (bp3 xs ((a + b) / 2 + m - 1)) (loM a m b) (hiM a m b) s).1 : Nat) : Int) ∧ z21 = .int .i64 (((bsS (bp3 xs ((a + b) / 2 + m - 1)) (loM a m b) (hiM a m b) s).2 : Nat) : Int) ∧ (BsI (bp3 xs ((a + b) / 2 + m - 1)) (loM a m b) (hiM a m b) s (bsS (bp3 xs ((a + b) / 2 + m - 1)) (loM a m b) (hiM a m b) s)) ∧ OwnE (ids cs.flatten) w [slI v xs, ob g #[.func (.func 8) #[] #[]] 27] wr) (fun z20 z21 _ => (intOf z21).toNat - (intOf z20).toNat)
  case atStart => exact ⟨0, by omega, by first | exact congrArg (fun n : Nat => Value.int .i64 (n : Int)) (lo_t (a := a) (m := m) (b := b) (by omega)).1.symm | exact congrArg (fun n : Nat => Value.int .i64 (n : Int)) (lo_f (a := a) (m := m) (b := b) (by omega)).1.symm, by first | exact congrArg (fun n : Nat => Value.int .i64 (n : Int)) (lo_t (a := a) (m := m) (b := b) (by omega)).2.symm | exact congrArg (fun n : Nat => Value.int .i64 (n : Int)) (lo_f (a := a) (m := m) (b := b) (by omega)).2.symm, BsI.zero (by omega), (by skip; exact OwnE.cast OW.out (by kernel_rfl))⟩
  case round =>
   obtain ⟨s, hk50, rfl, rfl, hb3, hO⟩ := hrel
   clear OW
   have HB3 := Lib.hid hb3
   clear hb3
   have bi1 := HB3.out.lo
   have bi2 := HB3.out.le
   have bi3 := HB3.out.hi
   have bi4 := HB3.out.tm
   have OW := Lib.hid hO
   clear hO
   gi_upto_region 33 with fail
   refine rg (fun q51 => [.v (.int .i64 (((bsS (bp3 xs ((a + b) / 2 + m - 1)) (loM a m b) (hiM a m b) s).1 : Nat) : Int)),
    .v (.int .i64 (((bsS (bp3 xs ((a + b) / 2 + m - 1)) (loM a m b) (hiM a m b) s).2 : Nat) : Int)),
    .v (.bool (decide ((((bsS (bp3 xs ((a + b) / 2 + m - 1)) (loM a m b) (hiM a m b) s).1 : Nat) : Int) < (((bsS (bp3 xs ((a + b) / 2 + m - 1)) (loM a m b) (hiM a m b) s).2 : Nat) : Int))))]) (fun _ L => L) OW ?_
   clear OW; intro q51 _ Wq51 OW; simp only [↓pc, ↓pn, vE, Hint.val, Act.put, eL]
   cases hB52 : (decide ((((bsS (bp3 xs ((a + b) / 2 + m - 1)) (loM a m b) (hiM a m b) s).1 : Nat) : Int) < (((bsS (bp3 xs ((a + b) / 2 + m - 1)) (loM a m b) (hiM a m b) s).2 : Nat) : Int)))
   case true =>
    have dhB52 := of_decide_eq_true hB52
    gi_upto_region 34 with fail
    have HPB := p3_bd h1 h2 (c := ((bsS (bp3 xs ((a + b) / 2 + m - 1)) (loM a m b) (hiM a m b) s).1 + (bsS (bp3 xs ((a + b) / 2 + m - 1)) (loM a m b) (hiM a m b) s).2) / 2) (by omega) (by omega)
    refine rg (fun q53 => [.v (.int .i64 (((bsS (bp3 xs ((a + b) / 2 + m - 1)) (loM a m b) (hiM a m b) s).1 : Nat) : Int)),
     .v (.int .i64 (((bsS (bp3 xs ((a + b) / 2 + m - 1)) (loM a m b) (hiM a m b) s).2 : Nat) : Int)),
     .t (tb (a := .int .i64 (((bsS (bp3 xs ((a + b) / 2 + m - 1)) (loM a m b) (hiM a m b) s).1 : Nat) : Int)) (b := .int .i64 (((bsS (bp3 xs ((a + b) / 2 + m - 1)) (loM a m b) (hiM a m b) s).2 : Nat) : Int)) fun _ _ _ _ => bin_add_nat (a := (bsS (bp3 xs ((a + b) / 2 + m - 1)) (loM a m b) (hiM a m b) s).1) (b := (bsS (bp3 xs ((a + b) / 2 + m - 1)) (loM a m b) (hiM a m b) s).2) (by first | omega | (simp only [List.length_set]; omega))),
     .t (tc (k := .i64) (l := .u64) (a := .int .i64 ((((bsS (bp3 xs ((a + b) / 2 + m - 1)) (loM a m b) (hiM a m b) s).1) + ((bsS (bp3 xs ((a + b) / 2 + m - 1)) (loM a m b) (hiM a m b) s).2) : Nat) : Int)) fun _ _ _ hS hT => cvt_i64u hS hT (by first | omega | (simp only [List.length_set]; omega))),
     .t (tb (a := .int .u64 ((((bsS (bp3 xs ((a + b) / 2 + m - 1)) (loM a m b) (hiM a m b) s).1) + ((bsS (bp3 xs ((a + b) / 2 + m - 1)) (loM a m b) (hiM a m b) s).2) : Nat) : Int)) (b := .int .u64 1) fun _ _ _ _ => bin_shr_u64 1 (by decide)),
     .t (tc (k := .u64) (l := .i64) (a := .int .u64 (((((bsS (bp3 xs ((a + b) / 2 + m - 1)) (loM a m b) (hiM a m b) s).1) + ((bsS (bp3 xs ((a + b) / 2 + m - 1)) (loM a m b) (hiM a m b) s).2)) / 2 : Nat) : Int)) fun _ _ _ hS hT => cvt_u64i hS hT (by first | omega | (simp only [List.length_set]; omega))),
     .v (.int .i64 (((((bsS (bp3 xs ((a + b) / 2 + m - 1)) (loM a m b) (hiM a m b) s).1) + ((bsS (bp3 xs ((a + b) / 2 + m - 1)) (loM a m b) (hiM a m b) s).2)) / 2 : Nat) : Int))]) (fun _ L => L) OW ?_
    clear OW; intro q53 _ Wq53 OW; simp only [↓pc, ↓pn, vE, Hint.val, Act.put, eL]
    gi_upto_region 35 with fail
    refine rg (fun q54 => [.v (.func (.func 21) #[] #[.pointer (some ⟨g, 0, none⟩)]),
     .v (v),
     .v (.int .i64 (((((a + b) / 2) + m) - 1 : Nat) : Int)),
     .v (.int .i64 (((((bsS (bp3 xs ((a + b) / 2 + m - 1)) (loM a m b) (hiM a m b) s).1) + ((bsS (bp3 xs ((a + b) / 2 + m - 1)) (loM a m b) (hiM a m b) s).2)) / 2 : Nat) : Int)),
     .t (tb (a := .int .i64 (((((a + b) / 2) + m) - 1 : Nat) : Int)) (b := .int .i64 (((((bsS (bp3 xs ((a + b) / 2 + m - 1)) (loM a m b) (hiM a m b) s).1) + ((bsS (bp3 xs ((a + b) / 2 + m - 1)) (loM a m b) (hiM a m b) s).2)) / 2 : Nat) : Int)) fun _ _ _ _ => bin_sub_n (a := (((a + b) / 2) + m) - 1) (b := (((bsS (bp3 xs ((a + b) / 2 + m - 1)) (loM a m b) (hiM a m b) s).1) + ((bsS (bp3 xs ((a + b) / 2 + m - 1)) (loM a m b) (hiM a m b) s).2)) / 2) (by first | omega | (simp only [List.length_set]; omega)) (by first | omega | (simp only [List.length_set]; omega))),
     .m (idxS 0 (slI v xs) (((((a + b) / 2) + m) - 1) - ((((bsS (bp3 xs ((a + b) / 2 + m - 1)) (loM a m b) (hiM a m b) s).1) + ((bsS (bp3 xs ((a + b) / 2 + m - 1)) (loM a m b) (hiM a m b) s).2)) / 2)) 1 (fun _ h => h) (by first | omega | (simp only [List.length_set]; omega))),
     .m (ldS (u := .int .i64 (xs.getD (((((a + b) / 2) + m) - 1) - ((((bsS (bp3 xs ((a + b) / 2 + m - 1)) (loM a m b) (hiM a m b) s).1) + ((bsS (bp3 xs ((a + b) / 2 + m - 1)) (loM a m b) (hiM a m b) s).2)) / 2)) 0)) (d := 0) 0 (slI v xs) (((((a + b) / 2) + m) - 1) - ((((bsS (bp3 xs ((a + b) / 2 + m - 1)) (loM a m b) (hiM a m b) s).1) + ((bsS (bp3 xs ((a + b) / 2 + m - 1)) (loM a m b) (hiM a m b) s).2)) / 2)) 1 0 (fun _ h => h) (fun _ => rfl) (by first | omega | (simp only [List.length_set]; omega)) (Nat.le_of_ble_eq_true rfl) (by kernel_rfl)),
     .v (v),
     .v (.int .i64 (((((bsS (bp3 xs ((a + b) / 2 + m - 1)) (loM a m b) (hiM a m b) s).1) + ((bsS (bp3 xs ((a + b) / 2 + m - 1)) (loM a m b) (hiM a m b) s).2)) / 2 : Nat) : Int)),
     .m (idxS 0 (slI v xs) ((((bsS (bp3 xs ((a + b) / 2 + m - 1)) (loM a m b) (hiM a m b) s).1) + ((bsS (bp3 xs ((a + b) / 2 + m - 1)) (loM a m b) (hiM a m b) s).2)) / 2) 1 (fun _ h => h) (by first | omega | (simp only [List.length_set]; omega))),
     .m (ldS (u := .int .i64 (xs.getD ((((bsS (bp3 xs ((a + b) / 2 + m - 1)) (loM a m b) (hiM a m b) s).1) + ((bsS (bp3 xs ((a + b) / 2 + m - 1)) (loM a m b) (hiM a m b) s).2)) / 2) 0)) (d := 0) 0 (slI v xs) ((((bsS (bp3 xs ((a + b) / 2 + m - 1)) (loM a m b) (hiM a m b) s).1) + ((bsS (bp3 xs ((a + b) / 2 + m - 1)) (loM a m b) (hiM a m b) s).2)) / 2) 1 0 (fun _ h => h) (fun _ => rfl) (by first | omega | (simp only [List.length_set]; omega)) (Nat.le_of_ble_eq_true rfl) (by kernel_rfl)),
     .c [1] [] (kclo (xs.getD (((((a + b) / 2) + m) - 1) - ((((bsS (bp3 xs ((a + b) / 2 + m - 1)) (loM a m b) (hiM a m b) s).1) + ((bsS (bp3 xs ((a + b) / 2 + m - 1)) (loM a m b) (hiM a m b) s).2)) / 2)) 0) (xs.getD ((((bsS (bp3 xs ((a + b) / 2 + m - 1)) (loM a m b) (hiM a m b) s).1) + ((bsS (bp3 xs ((a + b) / 2 + m - 1)) (loM a m b) (hiM a m b) s).2)) / 2) 0) g),
     .v (.bool (decide ((kcmp_0 ((xs.getD (((((a + b) / 2) + m) - 1) - ((((bsS (bp3 xs ((a + b) / 2 + m - 1)) (loM a m b) (hiM a m b) s).1) + ((bsS (bp3 xs ((a + b) / 2 + m - 1)) (loM a m b) (hiM a m b) s).2)) / 2)) 0) % 4) ((xs.getD ((((bsS (bp3 xs ((a + b) / 2 + m - 1)) (loM a m b) (hiM a m b) s).1) + ((bsS (bp3 xs ((a + b) / 2 + m - 1)) (loM a m b) (hiM a m b) s).2)) / 2) 0) % 4)) < 0))),
     .v (.bool (!(decide ((kcmp_0 ((xs.getD (((((a + b) / 2) + m) - 1) - ((((bsS (bp3 xs ((a + b) / 2 + m - 1)) (loM a m b) (hiM a m b) s).1) + ((bsS (bp3 xs ((a + b) / 2 + m - 1)) (loM a m b) (hiM a m b) s).2)) / 2)) 0) % 4) ((xs.getD ((((bsS (bp3 xs ((a + b) / 2 + m - 1)) (loM a m b) (hiM a m b) s).1) + ((bsS (bp3 xs ((a + b) / 2 + m - 1)) (loM a m b) (hiM a m b) s).2)) / 2) 0) % 4)) < 0))))]) (fun _ L => L) OW ?_
    clear OW; intro q54 _ Wq54 OW; simp only [↓pc, ↓pn, vE, Hint.val, Act.put, eL]
    cases hB55 : (!(decide ((kcmp_0 ((xs.getD (((((a + b) / 2) + m) - 1) - ((((bsS (bp3 xs ((a + b) / 2 + m - 1)) (loM a m b) (hiM a m b) s).1) + ((bsS (bp3 xs ((a + b) / 2 + m - 1)) (loM a m b) (hiM a m b) s).2)) / 2)) 0) % 4) ((xs.getD ((((bsS (bp3 xs ((a + b) / 2 + m - 1)) (loM a m b) (hiM a m b) s).1) + ((bsS (bp3 xs ((a + b) / 2 + m - 1)) (loM a m b) (hiM a m b) s).2)) / 2) 0) % 4)) < 0)))
    case true =>
     have dhB55 := of_decide_eq_false (by first | exact (Bool.not_not _).symm.trans (congrArg (fun b => !b) hB55) | simpa using hB55)
     gi_upto_region 36 with fail
     have HP := bp3_of hB55
     refine rg (fun q56 => [.v (.int .i64 (((((bsS (bp3 xs ((a + b) / 2 + m - 1)) (loM a m b) (hiM a m b) s).1) + ((bsS (bp3 xs ((a + b) / 2 + m - 1)) (loM a m b) (hiM a m b) s).2)) / 2 : Nat) : Int)),
      .t (tb (a := .int .i64 (((((bsS (bp3 xs ((a + b) / 2 + m - 1)) (loM a m b) (hiM a m b) s).1) + ((bsS (bp3 xs ((a + b) / 2 + m - 1)) (loM a m b) (hiM a m b) s).2)) / 2 : Nat) : Int)) (b := .int .i64 1) fun _ _ _ _ => bin_add_nat (a := (((bsS (bp3 xs ((a + b) / 2 + m - 1)) (loM a m b) (hiM a m b) s).1) + ((bsS (bp3 xs ((a + b) / 2 + m - 1)) (loM a m b) (hiM a m b) s).2)) / 2) (b := 1) (by first | omega | (simp only [List.length_set]; omega))),
      .v (.int .i64 ((((((bsS (bp3 xs ((a + b) / 2 + m - 1)) (loM a m b) (hiM a m b) s).1) + ((bsS (bp3 xs ((a + b) / 2 + m - 1)) (loM a m b) (hiM a m b) s).2)) / 2) + 1 : Nat) : Int))]) (fun _ L => L) OW ?_
     clear OW; intro q56 _ Wq56 OW; simp only [↓pc, ↓pn, vE, Hint.val, Act.put, eL]
     gi_wp2
     go_roundw
     case rel => exact ⟨s + 1, by omega, by first | exact congrArg (fun n : Nat => Value.int .i64 (n : Int)) (bsS_t HP).1.symm | exact congrArg (fun n : Nat => Value.int .i64 (n : Int)) (bsS_f HP).1.symm, by first | exact congrArg (fun n : Nat => Value.int .i64 (n : Int)) (bsS_t HP).2.symm | exact congrArg (fun n : Nat => Value.int .i64 (n : Int)) (bsS_f HP).2.symm, HB3.out.next (bp3_mono h1 h2 h3 HV1.out HV2.out) (by omega), (by skip; exact OwnE.pick OW.out [0, 1] _ (by kernel_rfl))⟩
     case measure => (simp [intOf] <;> omega)
    have dhB55 := of_decide_eq_true (by first | exact (Bool.not_not _).symm.trans (congrArg (fun b => !b) hB55) | simpa using hB55)
    gi_upto_region 37 with fail
    have HP := bp3_of hB55
    refine rg (fun q57 => [.v (.int .i64 (((((bsS (bp3 xs ((a + b) / 2 + m - 1)) (loM a m b) (hiM a m b) s).1) + ((bsS (bp3 xs ((a + b) / 2 + m - 1)) (loM a m b) (hiM a m b) s).2)) / 2 : Nat) : Int)),
     .v (.int .i64 (((((bsS (bp3 xs ((a + b) / 2 + m - 1)) (loM a m b) (hiM a m b) s).1) + ((bsS (bp3 xs ((a + b) / 2 + m - 1)) (loM a m b) (hiM a m b) s).2)) / 2 : Nat) : Int))]) (fun _ L => L) OW ?_
    clear OW; intro q57 _ Wq57 OW; simp only [↓pc, ↓pn, vE, Hint.val, Act.put, eL]
    gi_wp2
    go_roundw
    case rel => exact ⟨s + 1, by omega, by first | exact congrArg (fun n : Nat => Value.int .i64 (n : Int)) (bsS_t HP).1.symm | exact congrArg (fun n : Nat => Value.int .i64 (n : Int)) (bsS_f HP).1.symm, by first | exact congrArg (fun n : Nat => Value.int .i64 (n : Int)) (bsS_t HP).2.symm | exact congrArg (fun n : Nat => Value.int .i64 (n : Int)) (bsS_f HP).2.symm, HB3.out.next (bp3_mono h1 h2 h3 HV1.out HV2.out) (by omega), (by skip; exact OwnE.pick OW.out [0, 1] _ (by kernel_rfl))⟩
    case measure => (simp [intOf] <;> omega)
   have dhB52 := of_decide_eq_false hB52
   gi_upto_region 38 with fail
   have HMD := Lib.hid (mid_of h1 h2 h3 HV1.out HV2.out HB3.out (by omega))
   have hmd := Mid_hd HMD.out
   have HR5 := Nat.le_of_eq (So.rotL_len (ys := xs) hmd.2.2.2.2.2.2.1 hmd.2.2.2.2.2.2.2 (by omega))
   have HR6 := Nat.le_of_eq (So.rotL_len (ys := xs) hmd.2.2.2.2.2.2.1 hmd.2.2.2.2.2.2.2 (by omega)).symm
   have HU1 := Lib.hid HMD.out.sg.2.1
   have HU2 := Lib.hid HMD.out.sg.2.2.1
   have HU3 := Lib.hid HMD.out.sg.2.2.2.1
   have HU4 := Lib.hid HMD.out.sg.2.2.2.2
   refine rg (fun q58 => [.v (.int .i64 ((((a + b) / 2) + m : Nat) : Int)),
    .v (.int .i64 (((bsS (bp3 xs ((a + b) / 2 + m - 1)) (loM a m b) (hiM a m b) s).1 : Nat) : Int)),
    .t (tb (a := .int .i64 ((((a + b) / 2) + m : Nat) : Int)) (b := .int .i64 (((bsS (bp3 xs ((a + b) / 2 + m - 1)) (loM a m b) (hiM a m b) s).1 : Nat) : Int)) fun _ _ _ _ => bin_sub_n (a := ((a + b) / 2) + m) (b := (bsS (bp3 xs ((a + b) / 2 + m - 1)) (loM a m b) (hiM a m b) s).1) (by first | omega | (simp only [List.length_set]; omega)) (by first | omega | (simp only [List.length_set]; omega))),
    .v (.int .i64 (((((a + b) / 2) + m) - ((bsS (bp3 xs ((a + b) / 2 + m - 1)) (loM a m b) (hiM a m b) s).1) : Nat) : Int))]) (fun _ L => L) OW ?_
   clear OW; intro q58 _ Wq58 OW; simp only [↓pc, ↓pn, vE, Hint.val, Act.put, eL]
   gi_upto_region 39 with fail
   refine rg (fun q59 => [.v (.int .i64 (((bsS (bp3 xs ((a + b) / 2 + m - 1)) (loM a m b) (hiM a m b) s).1 : Nat) : Int)),
    .v (.int .i64 (m : Int)),
    .v (.bool (decide ((((bsS (bp3 xs ((a + b) / 2 + m - 1)) (loM a m b) (hiM a m b) s).1 : Nat) : Int) < (m : Int)))),
    .v (.bool (decide ((((bsS (bp3 xs ((a + b) / 2 + m - 1)) (loM a m b) (hiM a m b) s).1 : Nat) : Int) < (m : Int)))),
    .v (.int .i64 (m : Int)),
    .v (.int .i64 (((((a + b) / 2) + m) - ((bsS (bp3 xs ((a + b) / 2 + m - 1)) (loM a m b) (hiM a m b) s).1) : Nat) : Int)),
    .v (.bool (decide ((m : Int) < (((((a + b) / 2) + m) - ((bsS (bp3 xs ((a + b) / 2 + m - 1)) (loM a m b) (hiM a m b) s).1) : Nat) : Int)))),
    .k (.bool ((decide ((((bsS (bp3 xs ((a + b) / 2 + m - 1)) (loM a m b) (hiM a m b) s).1 : Nat) : Int) < (m : Int))) && (decide ((m : Int) < (((((a + b) / 2) + m) - ((bsS (bp3 xs ((a + b) / 2 + m - 1)) (loM a m b) (hiM a m b) s).1) : Nat) : Int)))))]) (fun _ L => L) OW ?_
   clear OW; intro q59 _ Wq59 OW; simp only [↓pc, ↓pn, vE, Hint.val, Act.put, eL]
   gi_upto_if 185 with fail
   gi_cut [] from 185 (fun wx => OwnE (ids cs.flatten) w [slI v (So.rotL xs (bsS (bp3 xs ((a + b) / 2 + m - 1)) (loM a m b) (hiM a m b) s).1 m ((a + b) / 2 + m - (bsS (bp3 xs ((a + b) / 2 + m - 1)) (loM a m b) (hiM a m b) s).1)), ob g #[.func (.func 8) #[] #[]] 27] wx)
   case first =>
    cases hB60 : ((decide ((((bsS (bp3 xs ((a + b) / 2 + m - 1)) (loM a m b) (hiM a m b) s).1 : Nat) : Int) < (m : Int))) && (decide ((m : Int) < (((((a + b) / 2) + m) - ((bsS (bp3 xs ((a + b) / 2 + m - 1)) (loM a m b) (hiM a m b) s).1) : Nat) : Int))))
    case true =>
     gi_upto_region 40 with fail
     have hnd := and_dec hB60
     refine rg (fun q61 => [.v (v),
      .v (.int .i64 (((bsS (bp3 xs ((a + b) / 2 + m - 1)) (loM a m b) (hiM a m b) s).1 : Nat) : Int)),
      .v (.int .i64 (m : Int)),
      .v (.int .i64 (((((a + b) / 2) + m) - ((bsS (bp3 xs ((a + b) / 2 + m - 1)) (loM a m b) (hiM a m b) s).1) : Nat) : Int)),
      .v (.func (.func 21) #[] #[.pointer (some ⟨g, 0, none⟩)]),
      .c [0] [0] (sorotI v (.func (.func 21) #[] #[.pointer (some ⟨g, 0, none⟩)]) xs ((bsS (bp3 xs ((a + b) / 2 + m - 1)) (loM a m b) (hiM a m b) s).1) m ((((a + b) / 2) + m) - ((bsS (bp3 xs ((a + b) / 2 + m - 1)) (loM a m b) (hiM a m b) s).1)) (by omega) (by omega) (by omega) (by omega))]) (fun q61 L => L.set 0 (slI v (So.rotL xs ((bsS (bp3 xs ((a + b) / 2 + m - 1)) (loM a m b) (hiM a m b) s).1) m ((((a + b) / 2) + m) - ((bsS (bp3 xs ((a + b) / 2 + m - 1)) (loM a m b) (hiM a m b) s).1))))) OW ?_
     clear OW; intro q61 _ Wq61 OW; simp only [↓pc, ↓pn, vE, Hint.val, Act.put, eL]
     (repeat gi_step); gi_meet; exact (by exact OwnE.pick OW.out [0, 1] _ (by kernel_rfl))
    (repeat gi_step); gi_meet; exact (by have hnn := nand_dec hB60; rw [rot_no (by omega) (by omega) (by omega)]; exact OwnE.pick OW.out [0, 1] _ (by kernel_rfl))
   case rest =>
    have hO := hcut
    clear OW; have OW := Lib.hid hO; clear hO
    gi_upto_region 41 with fail
    refine rg (fun q62 => [.v (.int .i64 (a : Int)),
     .v (.int .i64 (((bsS (bp3 xs ((a + b) / 2 + m - 1)) (loM a m b) (hiM a m b) s).1 : Nat) : Int)),
     .v (.bool (decide ((a : Int) < (((bsS (bp3 xs ((a + b) / 2 + m - 1)) (loM a m b) (hiM a m b) s).1 : Nat) : Int)))),
     .v (.bool (decide ((a : Int) < (((bsS (bp3 xs ((a + b) / 2 + m - 1)) (loM a m b) (hiM a m b) s).1 : Nat) : Int)))),
     .v (.int .i64 (((bsS (bp3 xs ((a + b) / 2 + m - 1)) (loM a m b) (hiM a m b) s).1 : Nat) : Int)),
     .v (.int .i64 (((a + b) / 2 : Nat) : Int)),
     .v (.bool (decide ((((bsS (bp3 xs ((a + b) / 2 + m - 1)) (loM a m b) (hiM a m b) s).1 : Nat) : Int) < (((a + b) / 2 : Nat) : Int)))),
     .k (.bool ((decide ((a : Int) < (((bsS (bp3 xs ((a + b) / 2 + m - 1)) (loM a m b) (hiM a m b) s).1 : Nat) : Int))) && (decide ((((bsS (bp3 xs ((a + b) / 2 + m - 1)) (loM a m b) (hiM a m b) s).1 : Nat) : Int) < (((a + b) / 2 : Nat) : Int)))))]) (fun _ L => L) OW ?_
    clear OW; intro q62 _ Wq62 OW; simp only [↓pc, ↓pn, vE, Hint.val, Act.put, eL]
    gi_upto_if 199 with fail
    gi_cut [] from 199 (fun wx => OwnE (ids cs.flatten) w [slI v (So.sg kI (So.rotL xs (bsS (bp3 xs ((a + b) / 2 + m - 1)) (loM a m b) (hiM a m b) s).1 m ((a + b) / 2 + m - (bsS (bp3 xs ((a + b) / 2 + m - 1)) (loM a m b) (hiM a m b) s).1)) a ((a + b) / 2)), ob g #[.func (.func 8) #[] #[]] 27] wx)
    case first =>
     cases hB63 : ((decide ((a : Int) < (((bsS (bp3 xs ((a + b) / 2 + m - 1)) (loM a m b) (hiM a m b) s).1 : Nat) : Int))) && (decide ((((bsS (bp3 xs ((a + b) / 2 + m - 1)) (loM a m b) (hiM a m b) s).1 : Nat) : Int) < (((a + b) / 2 : Nat) : Int))))
     case true =>
      gi_upto_region 42 with fail
      have hnd := and_dec hB63
      refine rg (fun q64 => [.v (v),
       .v (.int .i64 (a : Int)),
       .v (.int .i64 (((bsS (bp3 xs ((a + b) / 2 + m - 1)) (loM a m b) (hiM a m b) s).1 : Nat) : Int)),
       .v (.int .i64 (((a + b) / 2 : Nat) : Int)),
       .v (.func (.func 21) #[] #[.pointer (some ⟨g, 0, none⟩)]),
       .c [0, 1] [0] (IH.out (So.rotL xs (bsS (bp3 xs ((a + b) / 2 + m - 1)) (loM a m b) (hiM a m b) s).1 m ((a + b) / 2 + m - (bsS (bp3 xs ((a + b) / 2 + m - 1)) (loM a m b) (hiM a m b) s).1)) a ((bsS (bp3 xs ((a + b) / 2 + m - 1)) (loM a m b) (hiM a m b) s).1) ((a + b) / 2) (by omega) (by first | exact HU1.out | exact HU3.out) (by first | exact HU2.out | exact HU4.out) (by omega) (by omega) (by omega) (by omega))]) (fun q64 L => L.set 0 (slI v (So.sg kI (So.rotL xs (bsS (bp3 xs ((a + b) / 2 + m - 1)) (loM a m b) (hiM a m b) s).1 m ((a + b) / 2 + m - (bsS (bp3 xs ((a + b) / 2 + m - 1)) (loM a m b) (hiM a m b) s).1)) a ((a + b) / 2)))) OW ?_
      clear OW; intro q64 _ Wq64 OW; simp only [↓pc, ↓pn, vE, Hint.val, Act.put, eL]
      (repeat gi_step); gi_meet; exact (by exact OwnE.pick OW.out [0, 1] _ (by kernel_rfl))
     (repeat gi_step); gi_meet; exact (by have hnn := nand_dec hB63; rw [Mid_a HMD.out (by omega)]; exact OwnE.pick OW.out [0, 1] _ (by kernel_rfl))
    case rest =>
     have hO := hcut
     clear OW; have OW := Lib.hid hO; clear hO
     gi_upto_region 43 with fail
     have HR7 := Nat.le_of_eq (So.sg_len (key := kI) (So.rotL xs (bsS (bp3 xs ((a + b) / 2 + m - 1)) (loM a m b) (hiM a m b) s).1 m ((a + b) / 2 + m - (bsS (bp3 xs ((a + b) / 2 + m - 1)) (loM a m b) (hiM a m b) s).1)) hmd.1 (by omega))
     have HR8 := Nat.le_of_eq (So.sg_len (key := kI) (So.rotL xs (bsS (bp3 xs ((a + b) / 2 + m - 1)) (loM a m b) (hiM a m b) s).1 m ((a + b) / 2 + m - (bsS (bp3 xs ((a + b) / 2 + m - 1)) (loM a m b) (hiM a m b) s).1)) hmd.1 (by omega)).symm
     refine rg (fun q65 => [.v (.int .i64 (((a + b) / 2 : Nat) : Int)),
      .v (.int .i64 (((((a + b) / 2) + m) - ((bsS (bp3 xs ((a + b) / 2 + m - 1)) (loM a m b) (hiM a m b) s).1) : Nat) : Int)),
      .v (.bool (decide ((((a + b) / 2 : Nat) : Int) < (((((a + b) / 2) + m) - ((bsS (bp3 xs ((a + b) / 2 + m - 1)) (loM a m b) (hiM a m b) s).1) : Nat) : Int)))),
      .v (.bool (decide ((((a + b) / 2 : Nat) : Int) < (((((a + b) / 2) + m) - ((bsS (bp3 xs ((a + b) / 2 + m - 1)) (loM a m b) (hiM a m b) s).1) : Nat) : Int)))),
      .v (.int .i64 (((((a + b) / 2) + m) - ((bsS (bp3 xs ((a + b) / 2 + m - 1)) (loM a m b) (hiM a m b) s).1) : Nat) : Int)),
      .v (.int .i64 (b : Int)),
      .v (.bool (decide ((((((a + b) / 2) + m) - ((bsS (bp3 xs ((a + b) / 2 + m - 1)) (loM a m b) (hiM a m b) s).1) : Nat) : Int) < (b : Int)))),
      .k (.bool ((decide ((((a + b) / 2 : Nat) : Int) < (((((a + b) / 2) + m) - ((bsS (bp3 xs ((a + b) / 2 + m - 1)) (loM a m b) (hiM a m b) s).1) : Nat) : Int))) && (decide ((((((a + b) / 2) + m) - ((bsS (bp3 xs ((a + b) / 2 + m - 1)) (loM a m b) (hiM a m b) s).1) : Nat) : Int) < (b : Int)))))]) (fun _ L => L) OW ?_
     clear OW; intro q65 _ Wq65 OW; simp only [↓pc, ↓pn, vE, Hint.val, Act.put, eL]
     cases hB66 : ((decide ((((a + b) / 2 : Nat) : Int) < (((((a + b) / 2) + m) - ((bsS (bp3 xs ((a + b) / 2 + m - 1)) (loM a m b) (hiM a m b) s).1) : Nat) : Int))) && (decide ((((((a + b) / 2) + m) - ((bsS (bp3 xs ((a + b) / 2 + m - 1)) (loM a m b) (hiM a m b) s).1) : Nat) : Int) < (b : Int))))
     case true =>
      gi_upto_region 44 with fail
      have hnd := and_dec hB66
      refine rg (fun q67 => [.v (v),
       .v (.int .i64 (((a + b) / 2 : Nat) : Int)),
       .v (.int .i64 (((((a + b) / 2) + m) - ((bsS (bp3 xs ((a + b) / 2 + m - 1)) (loM a m b) (hiM a m b) s).1) : Nat) : Int)),
       .v (.int .i64 (b : Int)),
       .v (.func (.func 21) #[] #[.pointer (some ⟨g, 0, none⟩)]),
       .c [0, 1] [0] (IH.out (So.sg kI (So.rotL xs (bsS (bp3 xs ((a + b) / 2 + m - 1)) (loM a m b) (hiM a m b) s).1 m ((a + b) / 2 + m - (bsS (bp3 xs ((a + b) / 2 + m - 1)) (loM a m b) (hiM a m b) s).1)) a ((a + b) / 2)) ((a + b) / 2) ((((a + b) / 2) + m) - ((bsS (bp3 xs ((a + b) / 2 + m - 1)) (loM a m b) (hiM a m b) s).1)) b (by omega) (by first | exact HU1.out | exact HU3.out) (by first | exact HU2.out | exact HU4.out) (by omega) (by omega) (by omega) (by omega))]) (fun q67 L => L.set 0 (slI v (So.sg kI (So.sg kI (So.rotL xs (bsS (bp3 xs ((a + b) / 2 + m - 1)) (loM a m b) (hiM a m b) s).1 m ((a + b) / 2 + m - (bsS (bp3 xs ((a + b) / 2 + m - 1)) (loM a m b) (hiM a m b) s).1)) a ((a + b) / 2)) ((a + b) / 2) b))) OW ?_
      clear OW; intro q67 _ Wq67 OW; simp only [↓pc, ↓pn, vE, Hint.val, Act.put, eL]
      gi_wp2
      exact leafE HS HH OW [] Env.zero [0] [(1, 1)] rfl (by kernel_rfl) (by (first | rw [HMD.out.sg.1] | (rw [mrg1 (a := a) (b := b) (t := t) (by omega) (by omega) h3 HV2.out HB1.out (by omega) (by omega)]) | (rw [mrg2 (a := a) (b := b) (t := t) (by omega) (by omega) h3 HV1.out HB2.out (by omega) (by omega)]) | (rw [Mid_b HMD.out (by have hnn := nand_dec (by assumption); omega)])); (repeat (first | rw [hB2] | rw [hB22] | rw [hB45] | rw [hB52] | rw [hB66] | rw [cond_true] | rw [cond_false])); kernel_rfl)
     gi_wp2
     exact leafE HS HH OW [] Env.zero [0] [(1, 1)] rfl (by kernel_rfl) (by (first | rw [HMD.out.sg.1] | (rw [mrg1 (a := a) (b := b) (t := t) (by omega) (by omega) h3 HV2.out HB1.out (by omega) (by omega)]) | (rw [mrg2 (a := a) (b := b) (t := t) (by omega) (by omega) h3 HV1.out HB2.out (by omega) (by omega)]) | (rw [Mid_b HMD.out (by have hnn := nand_dec (by assumption); omega)])); (repeat (first | rw [hB2] | rw [hB22] | rw [hB45] | rw [hB52] | rw [hB66] | rw [cond_true] | rw [cond_false])); kernel_rfl)
 have dhB45 := of_decide_eq_false hB45
 gi_upto_region 30 with fail
 refine rg (fun q68 => [.v (.int .i64 (a : Int)),
  .v (.int .i64 (a : Int))]) (fun _ L => L) OW ?_
 clear OW; intro q68 _ Wq68 OW; simp only [↓pc, ↓pn, vE, Hint.val, Act.put, eL]
 gi_upto_region 31 with fail
 refine rg (fun q69 => [.v (.int .i64 (m : Int)),
  .v (.int .i64 (m : Int))]) (fun _ L => L) OW ?_
 clear OW; intro q69 _ Wq69 OW; simp only [↓pc, ↓pn, vE, Hint.val, Act.put, eL]
 gi_upto_region 32 with fail
 refine rg (fun q70 => [.v (.int .i64 ((((a + b) / 2) + m : Nat) : Int)),
  .t (tb (a := .int .i64 ((((a + b) / 2) + m : Nat) : Int)) (b := .int .i64 1) fun _ _ _ _ => bin_sub_n (a := ((a + b) / 2) + m) (b := 1) (by first | omega | (simp only [List.length_set]; omega)) (by first | omega | (simp only [List.length_set]; omega))),
  .v (.int .i64 (((((a + b) / 2) + m) - 1 : Nat) : Int))]) (fun _ L => L) OW ?_
 clear OW; intro q70 _ Wq70 OW; simp only [↓pc, ↓pn, vE, Hint.val, Act.put, eL]
 gi_wp2
 gi_loopw [20, 21] (fun z20 z21 wr => ∃ s : Nat, s ≤ hiM a m b - loM a m b ∧ z20 = .int .i64 (((bsS (bp3 xs ((a + b) / 2 + m - 1)) (loM a m b) (hiM a m b) s).1 : Nat) : Int) ∧ z21 = .int .i64 (((bsS (bp3 xs ((a + b) / 2 + m - 1)) (loM a m b) (hiM a m b) s).2 : Nat) : Int) ∧ (BsI (bp3 xs ((a + b) / 2 + m - 1)) (loM a m b) (hiM a m b) s (bsS (bp3 xs ((a + b) / 2 + m - 1)) (loM a m b) (hiM a m b) s)) ∧ OwnE (ids cs.flatten) w [slI v xs, ob g #[.func (.func 8) #[] #[]] 27] wr) (fun z20 z21 _ => (intOf z21).toNat - (intOf z20).toNat)
 case atStart => exact ⟨0, by omega, by first | exact congrArg (fun n : Nat => Value.int .i64 (n : Int)) (lo_t (a := a) (m := m) (b := b) (by omega)).1.symm | exact congrArg (fun n : Nat => Value.int .i64 (n : Int)) (lo_f (a := a) (m := m) (b := b) (by omega)).1.symm, by first | exact congrArg (fun n : Nat => Value.int .i64 (n : Int)) (lo_t (a := a) (m := m) (b := b) (by omega)).2.symm | exact congrArg (fun n : Nat => Value.int .i64 (n : Int)) (lo_f (a := a) (m := m) (b := b) (by omega)).2.symm, BsI.zero (by omega), (by skip; exact OwnE.cast OW.out (by kernel_rfl))⟩
 case round =>
  obtain ⟨s, hk72, rfl, rfl, hb3, hO⟩ := hrel
  clear OW
  have HB3 := Lib.hid hb3
  clear hb3
  have bi1 := HB3.out.lo
  have bi2 := HB3.out.le
  have bi3 := HB3.out.hi
  have bi4 := HB3.out.tm
  have OW := Lib.hid hO
  clear hO
  gi_upto_region 33 with fail
  refine rg (fun q73 => [.v (.int .i64 (((bsS (bp3 xs ((a + b) / 2 + m - 1)) (loM a m b) (hiM a m b) s).1 : Nat) : Int)),
   .v (.int .i64 (((bsS (bp3 xs ((a + b) / 2 + m - 1)) (loM a m b) (hiM a m b) s).2 : Nat) : Int)),
   .v (.bool (decide ((((bsS (bp3 xs ((a + b) / 2 + m - 1)) (loM a m b) (hiM a m b) s).1 : Nat) : Int) < (((bsS (bp3 xs ((a + b) / 2 + m - 1)) (loM a m b) (hiM a m b) s).2 : Nat) : Int))))]) (fun _ L => L) OW ?_
  clear OW; intro q73 _ Wq73 OW; simp only [↓pc, ↓pn, vE, Hint.val, Act.put, eL]
  cases hB74 : (decide ((((bsS (bp3 xs ((a + b) / 2 + m - 1)) (loM a m b) (hiM a m b) s).1 : Nat) : Int) < (((bsS (bp3 xs ((a + b) / 2 + m - 1)) (loM a m b) (hiM a m b) s).2 : Nat) : Int)))
  case true =>
   have dhB74 := of_decide_eq_true hB74
   gi_upto_region 34 with fail
   have HPB := p3_bd h1 h2 (c := ((bsS (bp3 xs ((a + b) / 2 + m - 1)) (loM a m b) (hiM a m b) s).1 + (bsS (bp3 xs ((a + b) / 2 + m - 1)) (loM a m b) (hiM a m b) s).2) / 2) (by omega) (by omega)
   refine rg (fun q75 => [.v (.int .i64 (((bsS (bp3 xs ((a + b) / 2 + m - 1)) (loM a m b) (hiM a m b) s).1 : Nat) : Int)),
    .v (.int .i64 (((bsS (bp3 xs ((a + b) / 2 + m - 1)) (loM a m b) (hiM a m b) s).2 : Nat) : Int)),
    .t (tb (a := .int .i64 (((bsS (bp3 xs ((a + b) / 2 + m - 1)) (loM a m b) (hiM a m b) s).1 : Nat) : Int)) (b := .int .i64 (((bsS (bp3 xs ((a + b) / 2 + m - 1)) (loM a m b) (hiM a m b) s).2 : Nat) : Int)) fun _ _ _ _ => bin_add_nat (a := (bsS (bp3 xs ((a + b) / 2 + m - 1)) (loM a m b) (hiM a m b) s).1) (b := (bsS (bp3 xs ((a + b) / 2 + m - 1)) (loM a m b) (hiM a m b) s).2) (by first | omega | (simp only [List.length_set]; omega))),
    .t (tc (k := .i64) (l := .u64) (a := .int .i64 ((((bsS (bp3 xs ((a + b) / 2 + m - 1)) (loM a m b) (hiM a m b) s).1) + ((bsS (bp3 xs ((a + b) / 2 + m - 1)) (loM a m b) (hiM a m b) s).2) : Nat) : Int)) fun _ _ _ hS hT => cvt_i64u hS hT (by first | omega | (simp only [List.length_set]; omega))),
    .t (tb (a := .int .u64 ((((bsS (bp3 xs ((a + b) / 2 + m - 1)) (loM a m b) (hiM a m b) s).1) + ((bsS (bp3 xs ((a + b) / 2 + m - 1)) (loM a m b) (hiM a m b) s).2) : Nat) : Int)) (b := .int .u64 1) fun _ _ _ _ => bin_shr_u64 1 (by decide)),
    .t (tc (k := .u64) (l := .i64) (a := .int .u64 (((((bsS (bp3 xs ((a + b) / 2 + m - 1)) (loM a m b) (hiM a m b) s).1) + ((bsS (bp3 xs ((a + b) / 2 + m - 1)) (loM a m b) (hiM a m b) s).2)) / 2 : Nat) : Int)) fun _ _ _ hS hT => cvt_u64i hS hT (by first | omega | (simp only [List.length_set]; omega))),
    .v (.int .i64 (((((bsS (bp3 xs ((a + b) / 2 + m - 1)) (loM a m b) (hiM a m b) s).1) + ((bsS (bp3 xs ((a + b) / 2 + m - 1)) (loM a m b) (hiM a m b) s).2)) / 2 : Nat) : Int))]) (fun _ L => L) OW ?_
   clear OW; intro q75 _ Wq75 OW; simp only [↓pc, ↓pn, vE, Hint.val, Act.put, eL]
   gi_upto_region 35 with fail
   refine rg (fun q76 => [.v (.func (.func 21) #[] #[.pointer (some ⟨g, 0, none⟩)]),
    .v (v),
    .v (.int .i64 (((((a + b) / 2) + m) - 1 : Nat) : Int)),
    .v (.int .i64 (((((bsS (bp3 xs ((a + b) / 2 + m - 1)) (loM a m b) (hiM a m b) s).1) + ((bsS (bp3 xs ((a + b) / 2 + m - 1)) (loM a m b) (hiM a m b) s).2)) / 2 : Nat) : Int)),
    .t (tb (a := .int .i64 (((((a + b) / 2) + m) - 1 : Nat) : Int)) (b := .int .i64 (((((bsS (bp3 xs ((a + b) / 2 + m - 1)) (loM a m b) (hiM a m b) s).1) + ((bsS (bp3 xs ((a + b) / 2 + m - 1)) (loM a m b) (hiM a m b) s).2)) / 2 : Nat) : Int)) fun _ _ _ _ => bin_sub_n (a := (((a + b) / 2) + m) - 1) (b := (((bsS (bp3 xs ((a + b) / 2 + m - 1)) (loM a m b) (hiM a m b) s).1) + ((bsS (bp3 xs ((a + b) / 2 + m - 1)) (loM a m b) (hiM a m b) s).2)) / 2) (by first | omega | (simp only [List.length_set]; omega)) (by first | omega | (simp only [List.length_set]; omega))),
    .m (idxS 0 (slI v xs) (((((a + b) / 2) + m) - 1) - ((((bsS (bp3 xs ((a + b) / 2 + m - 1)) (loM a m b) (hiM a m b) s).1) + ((bsS (bp3 xs ((a + b) / 2 + m - 1)) (loM a m b) (hiM a m b) s).2)) / 2)) 1 (fun _ h => h) (by first | omega | (simp only [List.length_set]; omega))),
    .m (ldS (u := .int .i64 (xs.getD (((((a + b) / 2) + m) - 1) - ((((bsS (bp3 xs ((a + b) / 2 + m - 1)) (loM a m b) (hiM a m b) s).1) + ((bsS (bp3 xs ((a + b) / 2 + m - 1)) (loM a m b) (hiM a m b) s).2)) / 2)) 0)) (d := 0) 0 (slI v xs) (((((a + b) / 2) + m) - 1) - ((((bsS (bp3 xs ((a + b) / 2 + m - 1)) (loM a m b) (hiM a m b) s).1) + ((bsS (bp3 xs ((a + b) / 2 + m - 1)) (loM a m b) (hiM a m b) s).2)) / 2)) 1 0 (fun _ h => h) (fun _ => rfl) (by first | omega | (simp only [List.length_set]; omega)) (Nat.le_of_ble_eq_true rfl) (by kernel_rfl)),
    .v (v),
    .v (.int .i64 (((((bsS (bp3 xs ((a + b) / 2 + m - 1)) (loM a m b) (hiM a m b) s).1) + ((bsS (bp3 xs ((a + b) / 2 + m - 1)) (loM a m b) (hiM a m b) s).2)) / 2 : Nat) : Int)),
    .m (idxS 0 (slI v xs) ((((bsS (bp3 xs ((a + b) / 2 + m - 1)) (loM a m b) (hiM a m b) s).1) + ((bsS (bp3 xs ((a + b) / 2 + m - 1)) (loM a m b) (hiM a m b) s).2)) / 2) 1 (fun _ h => h) (by first | omega | (simp only [List.length_set]; omega))),
    .m (ldS (u := .int .i64 (xs.getD ((((bsS (bp3 xs ((a + b) / 2 + m - 1)) (loM a m b) (hiM a m b) s).1) + ((bsS (bp3 xs ((a + b) / 2 + m - 1)) (loM a m b) (hiM a m b) s).2)) / 2) 0)) (d := 0) 0 (slI v xs) ((((bsS (bp3 xs ((a + b) / 2 + m - 1)) (loM a m b) (hiM a m b) s).1) + ((bsS (bp3 xs ((a + b) / 2 + m - 1)) (loM a m b) (hiM a m b) s).2)) / 2) 1 0 (fun _ h => h) (fun _ => rfl) (by first | omega | (simp only [List.length_set]; omega)) (Nat.le_of_ble_eq_true rfl) (by kernel_rfl)),
    .c [1] [] (kclo (xs.getD (((((a + b) / 2) + m) - 1) - ((((bsS (bp3 xs ((a + b) / 2 + m - 1)) (loM a m b) (hiM a m b) s).1) + ((bsS (bp3 xs ((a + b) / 2 + m - 1)) (loM a m b) (hiM a m b) s).2)) / 2)) 0) (xs.getD ((((bsS (bp3 xs ((a + b) / 2 + m - 1)) (loM a m b) (hiM a m b) s).1) + ((bsS (bp3 xs ((a + b) / 2 + m - 1)) (loM a m b) (hiM a m b) s).2)) / 2) 0) g),
    .v (.bool (decide ((kcmp_0 ((xs.getD (((((a + b) / 2) + m) - 1) - ((((bsS (bp3 xs ((a + b) / 2 + m - 1)) (loM a m b) (hiM a m b) s).1) + ((bsS (bp3 xs ((a + b) / 2 + m - 1)) (loM a m b) (hiM a m b) s).2)) / 2)) 0) % 4) ((xs.getD ((((bsS (bp3 xs ((a + b) / 2 + m - 1)) (loM a m b) (hiM a m b) s).1) + ((bsS (bp3 xs ((a + b) / 2 + m - 1)) (loM a m b) (hiM a m b) s).2)) / 2) 0) % 4)) < 0))),
    .v (.bool (!(decide ((kcmp_0 ((xs.getD (((((a + b) / 2) + m) - 1) - ((((bsS (bp3 xs ((a + b) / 2 + m - 1)) (loM a m b) (hiM a m b) s).1) + ((bsS (bp3 xs ((a + b) / 2 + m - 1)) (loM a m b) (hiM a m b) s).2)) / 2)) 0) % 4) ((xs.getD ((((bsS (bp3 xs ((a + b) / 2 + m - 1)) (loM a m b) (hiM a m b) s).1) + ((bsS (bp3 xs ((a + b) / 2 + m - 1)) (loM a m b) (hiM a m b) s).2)) / 2) 0) % 4)) < 0))))]) (fun _ L => L) OW ?_
   clear OW; intro q76 _ Wq76 OW; simp only [↓pc, ↓pn, vE, Hint.val, Act.put, eL]
   cases hB77 : (!(decide ((kcmp_0 ((xs.getD (((((a + b) / 2) + m) - 1) - ((((bsS (bp3 xs ((a + b) / 2 + m - 1)) (loM a m b) (hiM a m b) s).1) + ((bsS (bp3 xs ((a + b) / 2 + m - 1)) (loM a m b) (hiM a m b) s).2)) / 2)) 0) % 4) ((xs.getD ((((bsS (bp3 xs ((a + b) / 2 + m - 1)) (loM a m b) (hiM a m b) s).1) + ((bsS (bp3 xs ((a + b) / 2 + m - 1)) (loM a m b) (hiM a m b) s).2)) / 2) 0) % 4)) < 0)))
   case true =>
    have dhB77 := of_decide_eq_false (by first | exact (Bool.not_not _).symm.trans (congrArg (fun b => !b) hB77) | simpa using hB77)
    gi_upto_region 36 with fail
    have HP := bp3_of hB77
    refine rg (fun q78 => [.v (.int .i64 (((((bsS (bp3 xs ((a + b) / 2 + m - 1)) (loM a m b) (hiM a m b) s).1) + ((bsS (bp3 xs ((a + b) / 2 + m - 1)) (loM a m b) (hiM a m b) s).2)) / 2 : Nat) : Int)),
     .t (tb (a := .int .i64 (((((bsS (bp3 xs ((a + b) / 2 + m - 1)) (loM a m b) (hiM a m b) s).1) + ((bsS (bp3 xs ((a + b) / 2 + m - 1)) (loM a m b) (hiM a m b) s).2)) / 2 : Nat) : Int)) (b := .int .i64 1) fun _ _ _ _ => bin_add_nat (a := (((bsS (bp3 xs ((a + b) / 2 + m - 1)) (loM a m b) (hiM a m b) s).1) + ((bsS (bp3 xs ((a + b) / 2 + m - 1)) (loM a m b) (hiM a m b) s).2)) / 2) (b := 1) (by first | omega | (simp only [List.length_set]; omega))),
     .v (.int .i64 ((((((bsS (bp3 xs ((a + b) / 2 + m - 1)) (loM a m b) (hiM a m b) s).1) + ((bsS (bp3 xs ((a + b) / 2 + m - 1)) (loM a m b) (hiM a m b) s).2)) / 2) + 1 : Nat) : Int))]) (fun _ L => L) OW ?_
    clear OW; intro q78 _ Wq78 OW; simp only [↓pc, ↓pn, vE, Hint.val, Act.put, eL]
    gi_wp2
    go_roundw
    case rel => exact ⟨s + 1, by omega, by first | exact congrArg (fun n : Nat => Value.int .i64 (n : Int)) (bsS_t HP).1.symm | exact congrArg (fun n : Nat => Value.int .i64 (n : Int)) (bsS_f HP).1.symm, by first | exact congrArg (fun n : Nat => Value.int .i64 (n : Int)) (bsS_t HP).2.symm | exact congrArg (fun n : Nat => Value.int .i64 (n : Int)) (bsS_f HP).2.symm, HB3.out.next (bp3_mono h1 h2 h3 HV1.out HV2.out) (by omega), (by skip; exact OwnE.pick OW.out [0, 1] _ (by kernel_rfl))⟩
    case measure => (simp [intOf] <;> omega)
   have dhB77 := of_decide_eq_true (by first | exact (Bool.not_not _).symm.trans (congrArg (fun b => !b) hB77) | simpa using hB77)
   gi_upto_region 37 with fail
   have HP := bp3_of hB77
   refine rg (fun q79 => [.v (.int .i64 (((((bsS (bp3 xs ((a + b) / 2 + m - 1)) (loM a m b) (hiM a m b) s).1) + ((bsS (bp3 xs ((a + b) / 2 + m - 1)) (loM a m b) (hiM a m b) s).2)) / 2 : Nat) : Int)),
    .v (.int .i64 (((((bsS (bp3 xs ((a + b) / 2 + m - 1)) (loM a m b) (hiM a m b) s).1) + ((bsS (bp3 xs ((a + b) / 2 + m - 1)) (loM a m b) (hiM a m b) s).2)) / 2 : Nat) : Int))]) (fun _ L => L) OW ?_
   clear OW; intro q79 _ Wq79 OW; simp only [↓pc, ↓pn, vE, Hint.val, Act.put, eL]
   gi_wp2
   go_roundw
   case rel => exact ⟨s + 1, by omega, by first | exact congrArg (fun n : Nat => Value.int .i64 (n : Int)) (bsS_t HP).1.symm | exact congrArg (fun n : Nat => Value.int .i64 (n : Int)) (bsS_f HP).1.symm, by first | exact congrArg (fun n : Nat => Value.int .i64 (n : Int)) (bsS_t HP).2.symm | exact congrArg (fun n : Nat => Value.int .i64 (n : Int)) (bsS_f HP).2.symm, HB3.out.next (bp3_mono h1 h2 h3 HV1.out HV2.out) (by omega), (by skip; exact OwnE.pick OW.out [0, 1] _ (by kernel_rfl))⟩
   case measure => (simp [intOf] <;> omega)
  have dhB74 := of_decide_eq_false hB74
  gi_upto_region 38 with fail
  have HMD := Lib.hid (mid_of h1 h2 h3 HV1.out HV2.out HB3.out (by omega))
  have hmd := Mid_hd HMD.out
  have HR5 := Nat.le_of_eq (So.rotL_len (ys := xs) hmd.2.2.2.2.2.2.1 hmd.2.2.2.2.2.2.2 (by omega))
  have HR6 := Nat.le_of_eq (So.rotL_len (ys := xs) hmd.2.2.2.2.2.2.1 hmd.2.2.2.2.2.2.2 (by omega)).symm
  have HU1 := Lib.hid HMD.out.sg.2.1
  have HU2 := Lib.hid HMD.out.sg.2.2.1
  have HU3 := Lib.hid HMD.out.sg.2.2.2.1
  have HU4 := Lib.hid HMD.out.sg.2.2.2.2
  refine rg (fun q80 => [.v (.int .i64 ((((a + b) / 2) + m : Nat) : Int)),
   .v (.int .i64 (((bsS (bp3 xs ((a + b) / 2 + m - 1)) (loM a m b) (hiM a m b) s).1 : Nat) : Int)),
   .t (tb (a := .int .i64 ((((a + b) / 2) + m : Nat) : Int)) (b := .int .i64 (((bsS (bp3 xs ((a + b) / 2 + m - 1)) (loM a m b) (hiM a m b) s).1 : Nat) : Int)) fun _ _ _ _ => bin_sub_n (a := ((a + b) / 2) + m) (b := (bsS (bp3 xs ((a + b) / 2 + m - 1)) (loM a m b) (hiM a m b) s).1) (by first | omega | (simp only [List.length_set]; omega)) (by first | omega | (simp only [List.length_set]; omega))),
   .v (.int .i64 (((((a + b) / 2) + m) - ((bsS (bp3 xs ((a + b) / 2 + m - 1)) (loM a m b) (hiM a m b) s).1) : Nat) : Int))]) (fun _ L => L) OW ?_
  clear OW; intro q80 _ Wq80 OW; simp only [↓pc, ↓pn, vE, Hint.val, Act.put, eL]
  gi_upto_region 39 with fail
  refine rg (fun q81 => [.v (.int .i64 (((bsS (bp3 xs ((a + b) / 2 + m - 1)) (loM a m b) (hiM a m b) s).1 : Nat) : Int)),
   .v (.int .i64 (m : Int)),
   .v (.bool (decide ((((bsS (bp3 xs ((a + b) / 2 + m - 1)) (loM a m b) (hiM a m b) s).1 : Nat) : Int) < (m : Int)))),
   .v (.bool (decide ((((bsS (bp3 xs ((a + b) / 2 + m - 1)) (loM a m b) (hiM a m b) s).1 : Nat) : Int) < (m : Int)))),
   .v (.int .i64 (m : Int)),
   .v (.int .i64 (((((a + b) / 2) + m) - ((bsS (bp3 xs ((a + b) / 2 + m - 1)) (loM a m b) (hiM a m b) s).1) : Nat) : Int)),
   .v (.bool (decide ((m : Int) < (((((a + b) / 2) + m) - ((bsS (bp3 xs ((a + b) / 2 + m - 1)) (loM a m b) (hiM a m b) s).1) : Nat) : Int)))),
   .k (.bool ((decide ((((bsS (bp3 xs ((a + b) / 2 + m - 1)) (loM a m b) (hiM a m b) s).1 : Nat) : Int) < (m : Int))) && (decide ((m : Int) < (((((a + b) / 2) + m) - ((bsS (bp3 xs ((a + b) / 2 + m - 1)) (loM a m b) (hiM a m b) s).1) : Nat) : Int)))))]) (fun _ L => L) OW ?_
  clear OW; intro q81 _ Wq81 OW; simp only [↓pc, ↓pn, vE, Hint.val, Act.put, eL]
  gi_upto_if 185 with fail
  gi_cut [] from 185 (fun wx => OwnE (ids cs.flatten) w [slI v (So.rotL xs (bsS (bp3 xs ((a + b) / 2 + m - 1)) (loM a m b) (hiM a m b) s).1 m ((a + b) / 2 + m - (bsS (bp3 xs ((a + b) / 2 + m - 1)) (loM a m b) (hiM a m b) s).1)), ob g #[.func (.func 8) #[] #[]] 27] wx)
  case first =>
   cases hB82 : ((decide ((((bsS (bp3 xs ((a + b) / 2 + m - 1)) (loM a m b) (hiM a m b) s).1 : Nat) : Int) < (m : Int))) && (decide ((m : Int) < (((((a + b) / 2) + m) - ((bsS (bp3 xs ((a + b) / 2 + m - 1)) (loM a m b) (hiM a m b) s).1) : Nat) : Int))))
   case true =>
    gi_upto_region 40 with fail
    have hnd := and_dec hB82
    refine rg (fun q83 => [.v (v),
     .v (.int .i64 (((bsS (bp3 xs ((a + b) / 2 + m - 1)) (loM a m b) (hiM a m b) s).1 : Nat) : Int)),
     .v (.int .i64 (m : Int)),
     .v (.int .i64 (((((a + b) / 2) + m) - ((bsS (bp3 xs ((a + b) / 2 + m - 1)) (loM a m b) (hiM a m b) s).1) : Nat) : Int)),
     .v (.func (.func 21) #[] #[.pointer (some ⟨g, 0, none⟩)]),
     .c [0] [0] (sorotI v (.func (.func 21) #[] #[.pointer (some ⟨g, 0, none⟩)]) xs ((bsS (bp3 xs ((a + b) / 2 + m - 1)) (loM a m b) (hiM a m b) s).1) m ((((a + b) / 2) + m) - ((bsS (bp3 xs ((a + b) / 2 + m - 1)) (loM a m b) (hiM a m b) s).1)) (by omega) (by omega) (by omega) (by omega))]) (fun q83 L => L.set 0 (slI v (So.rotL xs ((bsS (bp3 xs ((a + b) / 2 + m - 1)) (loM a m b) (hiM a m b) s).1) m ((((a + b) / 2) + m) - ((bsS (bp3 xs ((a + b) / 2 + m - 1)) (loM a m b) (hiM a m b) s).1))))) OW ?_
    clear OW; intro q83 _ Wq83 OW; simp only [↓pc, ↓pn, vE, Hint.val, Act.put, eL]
    (repeat gi_step); gi_meet; exact (by exact OwnE.pick OW.out [0, 1] _ (by kernel_rfl))
   (repeat gi_step); gi_meet; exact (by have hnn := nand_dec hB82; rw [rot_no (by omega) (by omega) (by omega)]; exact OwnE.pick OW.out [0, 1] _ (by kernel_rfl))
  case rest =>
   have hO := hcut
   clear OW; have OW := Lib.hid hO; clear hO
   gi_upto_region 41 with fail
   refine rg (fun q84 => [.v (.int .i64 (a : Int)),
    .v (.int .i64 (((bsS (bp3 xs ((a + b) / 2 + m - 1)) (loM a m b) (hiM a m b) s).1 : Nat) : Int)),
    .v (.bool (decide ((a : Int) < (((bsS (bp3 xs ((a + b) / 2 + m - 1)) (loM a m b) (hiM a m b) s).1 : Nat) : Int)))),
    .v (.bool (decide ((a : Int) < (((bsS (bp3 xs ((a + b) / 2 + m - 1)) (loM a m b) (hiM a m b) s).1 : Nat) : Int)))),
    .v (.int .i64 (((bsS (bp3 xs ((a + b) / 2 + m - 1)) (loM a m b) (hiM a m b) s).1 : Nat) : Int)),
    .v (.int .i64 (((a + b) / 2 : Nat) : Int)),
    .v (.bool (decide ((((bsS (bp3 xs ((a + b) / 2 + m - 1)) (loM a m b) (hiM a m b) s).1 : Nat) : Int) < (((a + b) / 2 : Nat) : Int)))),
    .k (.bool ((decide ((a : Int) < (((bsS (bp3 xs ((a + b) / 2 + m - 1)) (loM a m b) (hiM a m b) s).1 : Nat) : Int))) && (decide ((((bsS (bp3 xs ((a + b) / 2 + m - 1)) (loM a m b) (hiM a m b) s).1 : Nat) : Int) < (((a + b) / 2 : Nat) : Int)))))]) (fun _ L => L) OW ?_
   clear OW; intro q84 _ Wq84 OW; simp only [↓pc, ↓pn, vE, Hint.val, Act.put, eL]
   gi_upto_if 199 with fail
   gi_cut [] from 199 (fun wx => OwnE (ids cs.flatten) w [slI v (So.sg kI (So.rotL xs (bsS (bp3 xs ((a + b) / 2 + m - 1)) (loM a m b) (hiM a m b) s).1 m ((a + b) / 2 + m - (bsS (bp3 xs ((a + b) / 2 + m - 1)) (loM a m b) (hiM a m b) s).1)) a ((a + b) / 2)), ob g #[.func (.func 8) #[] #[]] 27] wx)
   case first =>
    cases hB85 : ((decide ((a : Int) < (((bsS (bp3 xs ((a + b) / 2 + m - 1)) (loM a m b) (hiM a m b) s).1 : Nat) : Int))) && (decide ((((bsS (bp3 xs ((a + b) / 2 + m - 1)) (loM a m b) (hiM a m b) s).1 : Nat) : Int) < (((a + b) / 2 : Nat) : Int))))
    case true =>
     gi_upto_region 42 with fail
     have hnd := and_dec hB85
     refine rg (fun q86 => [.v (v),
      .v (.int .i64 (a : Int)),
      .v (.int .i64 (((bsS (bp3 xs ((a + b) / 2 + m - 1)) (loM a m b) (hiM a m b) s).1 : Nat) : Int)),
      .v (.int .i64 (((a + b) / 2 : Nat) : Int)),
      .v (.func (.func 21) #[] #[.pointer (some ⟨g, 0, none⟩)]),
      .c [0, 1] [0] (IH.out (So.rotL xs (bsS (bp3 xs ((a + b) / 2 + m - 1)) (loM a m b) (hiM a m b) s).1 m ((a + b) / 2 + m - (bsS (bp3 xs ((a + b) / 2 + m - 1)) (loM a m b) (hiM a m b) s).1)) a ((bsS (bp3 xs ((a + b) / 2 + m - 1)) (loM a m b) (hiM a m b) s).1) ((a + b) / 2) (by omega) (by first | exact HU1.out | exact HU3.out) (by first | exact HU2.out | exact HU4.out) (by omega) (by omega) (by omega) (by omega))]) (fun q86 L => L.set 0 (slI v (So.sg kI (So.rotL xs (bsS (bp3 xs ((a + b) / 2 + m - 1)) (loM a m b) (hiM a m b) s).1 m ((a + b) / 2 + m - (bsS (bp3 xs ((a + b) / 2 + m - 1)) (loM a m b) (hiM a m b) s).1)) a ((a + b) / 2)))) OW ?_
     clear OW; intro q86 _ Wq86 OW; simp only [↓pc, ↓pn, vE, Hint.val, Act.put, eL]
     (repeat gi_step); gi_meet; exact (by exact OwnE.pick OW.out [0, 1] _ (by kernel_rfl))
    (repeat gi_step); gi_meet; exact (by have hnn := nand_dec hB85; rw [Mid_a HMD.out (by omega)]; exact OwnE.pick OW.out [0, 1] _ (by kernel_rfl))
   case rest =>
    have hO := hcut
    clear OW; have OW := Lib.hid hO; clear hO
    gi_upto_region 43 with fail
    have HR7 := Nat.le_of_eq (So.sg_len (key := kI) (So.rotL xs (bsS (bp3 xs ((a + b) / 2 + m - 1)) (loM a m b) (hiM a m b) s).1 m ((a + b) / 2 + m - (bsS (bp3 xs ((a + b) / 2 + m - 1)) (loM a m b) (hiM a m b) s).1)) hmd.1 (by omega))
    have HR8 := Nat.le_of_eq (So.sg_len (key := kI) (So.rotL xs (bsS (bp3 xs ((a + b) / 2 + m - 1)) (loM a m b) (hiM a m b) s).1 m ((a + b) / 2 + m - (bsS (bp3 xs ((a + b) / 2 + m - 1)) (loM a m b) (hiM a m b) s).1)) hmd.1 (by omega)).symm
    refine rg (fun q87 => [.v (.int .i64 (((a + b) / 2 : Nat) : Int)),
     .v (.int .i64 (((((a + b) / 2) + m) - ((bsS (bp3 xs ((a + b) / 2 + m - 1)) (loM a m b) (hiM a m b) s).1) : Nat) : Int)),
     .v (.bool (decide ((((a + b) / 2 : Nat) : Int) < (((((a + b) / 2) + m) - ((bsS (bp3 xs ((a + b) / 2 + m - 1)) (loM a m b) (hiM a m b) s).1) : Nat) : Int)))),
     .v (.bool (decide ((((a + b) / 2 : Nat) : Int) < (((((a + b) / 2) + m) - ((bsS (bp3 xs ((a + b) / 2 + m - 1)) (loM a m b) (hiM a m b) s).1) : Nat) : Int)))),
     .v (.int .i64 (((((a + b) / 2) + m) - ((bsS (bp3 xs ((a + b) / 2 + m - 1)) (loM a m b) (hiM a m b) s).1) : Nat) : Int)),
     .v (.int .i64 (b : Int)),
     .v (.bool (decide ((((((a + b) / 2) + m) - ((bsS (bp3 xs ((a + b) / 2 + m - 1)) (loM a m b) (hiM a m b) s).1) : Nat) : Int) < (b : Int)))),
     .k (.bool ((decide ((((a + b) / 2 : Nat) : Int) < (((((a + b) / 2) + m) - ((bsS (bp3 xs ((a + b) / 2 + m - 1)) (loM a m b) (hiM a m b) s).1) : Nat) : Int))) && (decide ((((((a + b) / 2) + m) - ((bsS (bp3 xs ((a + b) / 2 + m - 1)) (loM a m b) (hiM a m b) s).1) : Nat) : Int) < (b : Int)))))]) (fun _ L => L) OW ?_
    clear OW; intro q87 _ Wq87 OW; simp only [↓pc, ↓pn, vE, Hint.val, Act.put, eL]
    cases hB88 : ((decide ((((a + b) / 2 : Nat) : Int) < (((((a + b) / 2) + m) - ((bsS (bp3 xs ((a + b) / 2 + m - 1)) (loM a m b) (hiM a m b) s).1) : Nat) : Int))) && (decide ((((((a + b) / 2) + m) - ((bsS (bp3 xs ((a + b) / 2 + m - 1)) (loM a m b) (hiM a m b) s).1) : Nat) : Int) < (b : Int))))
    case true =>
     gi_upto_region 44 with fail
     have hnd := and_dec hB88
     refine rg (fun q89 => [.v (v),
      .v (.int .i64 (((a + b) / 2 : Nat) : Int)),
      .v (.int .i64 (((((a + b) / 2) + m) - ((bsS (bp3 xs ((a + b) / 2 + m - 1)) (loM a m b) (hiM a m b) s).1) : Nat) : Int)),
      .v (.int .i64 (b : Int)),
      .v (.func (.func 21) #[] #[.pointer (some ⟨g, 0, none⟩)]),
      .c [0, 1] [0] (IH.out (So.sg kI (So.rotL xs (bsS (bp3 xs ((a + b) / 2 + m - 1)) (loM a m b) (hiM a m b) s).1 m ((a + b) / 2 + m - (bsS (bp3 xs ((a + b) / 2 + m - 1)) (loM a m b) (hiM a m b) s).1)) a ((a + b) / 2)) ((a + b) / 2) ((((a + b) / 2) + m) - ((bsS (bp3 xs ((a + b) / 2 + m - 1)) (loM a m b) (hiM a m b) s).1)) b (by omega) (by first | exact HU1.out | exact HU3.out) (by first | exact HU2.out | exact HU4.out) (by omega) (by omega) (by omega) (by omega))]) (fun q89 L => L.set 0 (slI v (So.sg kI (So.sg kI (So.rotL xs (bsS (bp3 xs ((a + b) / 2 + m - 1)) (loM a m b) (hiM a m b) s).1 m ((a + b) / 2 + m - (bsS (bp3 xs ((a + b) / 2 + m - 1)) (loM a m b) (hiM a m b) s).1)) a ((a + b) / 2)) ((a + b) / 2) b))) OW ?_
     clear OW; intro q89 _ Wq89 OW; simp only [↓pc, ↓pn, vE, Hint.val, Act.put, eL]
     gi_wp2
     exact leafE HS HH OW [] Env.zero [0] [(1, 1)] rfl (by kernel_rfl) (by (first | rw [HMD.out.sg.1] | (rw [mrg1 (a := a) (b := b) (t := t) (by omega) (by omega) h3 HV2.out HB1.out (by omega) (by omega)]) | (rw [mrg2 (a := a) (b := b) (t := t) (by omega) (by omega) h3 HV1.out HB2.out (by omega) (by omega)]) | (rw [Mid_b HMD.out (by have hnn := nand_dec (by assumption); omega)])); (repeat (first | rw [hB2] | rw [hB22] | rw [hB45] | rw [hB74] | rw [hB88] | rw [cond_true] | rw [cond_false])); kernel_rfl)
    gi_wp2
    exact leafE HS HH OW [] Env.zero [0] [(1, 1)] rfl (by kernel_rfl) (by (first | rw [HMD.out.sg.1] | (rw [mrg1 (a := a) (b := b) (t := t) (by omega) (by omega) h3 HV2.out HB1.out (by omega) (by omega)]) | (rw [mrg2 (a := a) (b := b) (t := t) (by omega) (by omega) h3 HV1.out HB2.out (by omega) (by omega)]) | (rw [Mid_b HMD.out (by have hnn := nand_dec (by assumption); omega)])); (repeat (first | rw [hB2] | rw [hB22] | rw [hB45] | rw [hB74] | rw [hB88] | rw [cond_true] | rw [cond_false])); kernel_rfl)
end Go.Proofs.Ytdglhppcfdpcaaa.E
