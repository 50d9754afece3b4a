/- The kind of a set of places. -/
import Derived.Test.YtdglhppcfdpcaaaTaN
import Derived.WalkKit
import Derived.Sort.CutIn
import Derived.IntWalk
namespace Go.Proofs.Ytdglhppcfdpcaaa.E
open Go Go.RowKit Go.Shelf
attribute [local go_sem] Oper.semAt_some
set_option linter.unusedVariables false
set_option linter.unusedSimpArgs false

def kb1 (xs : List Pp) : Nat → Bool
  | 0 => true
  | k + 1 => ((kb1 xs k) && (((xs.drop 1).getD k zPp).x1 == (xs.getD 0 zPp).x1)) && (((xs.drop 1).getD k zPp).x2 == (xs.getD 0 zPp).x2)
def kb2 (xs : List Pp) : Nat → Bool
  | 0 => true
  | k + 1 => ((kb2 xs k) && (((xs.drop 1).getD k zPp).x1 == (xs.getD 0 zPp).x1)) && (((xs.drop 1).getD k zPp).x3 == (xs.getD 0 zPp).x3)
def knd (xs : List Pp) : Int := bif decide (xs.length = 1) then 1 else bif kb1 xs (xs.length - 1) then 2 else bif kb2 xs (xs.length - 1) then 3 else 4
theorem knd_1 {xs : List Pp} (h : ((xs.length : Nat) : Int) == 1) : (1 : Int) = knd xs := by
  have h1 : xs.length = 1 := by have := eq_of_beq h; omega
  unfold knd; rw [decide_eq_true h1]; rfl
theorem knd_2 {xs : List Pp} {k : Nat} (h : (((xs.length : Nat) : Int) == 1) = false) (hk : k = xs.length - 1) (h2 : kb1 xs k = true) : (2 : Int) = knd xs := by
  have h1 : xs.length ≠ 1 := by have := ne_of_beq_false h; omega
  subst hk; unfold knd; rw [decide_eq_false h1, h2]; rfl
theorem knd_3 {xs : List Pp} {k : Nat} (h : (((xs.length : Nat) : Int) == 1) = false) (hk : k = xs.length - 1) (h2 : kb1 xs k = false) (h3 : kb2 xs k = true) : (3 : Int) = knd xs := by
  have h1 : xs.length ≠ 1 := by have := ne_of_beq_false h; omega
  subst hk; unfold knd; rw [decide_eq_false h1, h2, h3]; rfl
theorem knd_4 {xs : List Pp} {k : Nat} (h : (((xs.length : Nat) : Int) == 1) = false) (hk : k = xs.length - 1) (h2 : kb1 xs k = false) (h3 : kb2 xs k = false) : (4 : Int) = knd xs := by
  have h1 : xs.length ≠ 1 := by have := ne_of_beq_false h; omega
  subst hk; unfold knd; rw [decide_eq_false h1, h2, h3]; rfl
set_option maxRecDepth 100000 in
set_option maxHeartbeats 1000000 in
theorem tkind_c (v : Value) (xs : List Pp) (h0 : 1 ≤ xs.length) (hx : xs.length ≤ 1000000) (bq0 : Objs) (hq0 : SqE ePp v xs bq0) : Con Try.prog 26 #[v] [.c bq0] [] (fun _ => []) (fun _ => .int .i64 (knd xs)) := by
 refine Con.of (enters_of Try.func26 (by kernel_rfl) rfl) fun w cs HS HH OW => ?_
 refine (callsIn_wide (n := 6)).1 ?_
 refine callsIn_of_wp_marks Try.func26 rfl trivial ?_ rfl
 simp only [Try.ntmps26, eF, Nat.reduceAdd, Nat.reduceSub]
 gi_upto_region 0 with fail
 refine rg (fun q1 => [.v (.int .i64 0)]) (fun _ L => L) OW ?_
 clear OW; intro q1 _ Wq1 OW; simp only [↓pc, ↓pn, vE, Hint.val, Act.put, eL]
 gi_upto_region 1 with fail
 refine rg (fun q2 => [.v (.bool true),
  .v (.bool true)]) (fun _ L => L) OW ?_
 clear OW; intro q2 _ Wq2 OW; simp only [↓pc, ↓pn, vE, Hint.val, Act.put, eL]
 gi_upto_region 2 with fail
 refine rg (fun q3 => [.v (v),
  .m (slR 0 (.c bq0) 1 4 (cP hq0) (by first | omega | (have := List.length_drop (i := 1) (l := xs); omega))),
  .m (lenR 0 (.c bq0) (cP (SqE.drop (k := 4) (fun _ => rfl) hq0 h0).1)),
  .v (.int .i64 0)]) (fun _ L => L) OW ?_
 clear OW; intro q3 _ Wq3 OW; simp only [↓pc, ↓pn, vE, Hint.val, Act.put, eL]
 gi_wp2
 gi_loopw [10, 3, 4] (fun z10 z3 z4 wr => ∃ k : Nat, k ≤ (xs.drop 1).length ∧ z10 = .int .i64 (k : Int) ∧ z3 = .bool (kb1 xs k) ∧ z4 = .bool (kb2 xs k) ∧ OwnE (ids cs.flatten) w [.c bq0] wr) (fun z10 z3 z4 _ => 1000001 - (intOf z10).toNat)
 case atStart => exact ⟨0, by omega, rfl, rfl, rfl, (by skip; exact OwnE.cast OW.out (by kernel_rfl))⟩
 case round =>
  obtain ⟨k, hk5, rfl, rfl, rfl, hO⟩ := hrel
  clear OW
  have HLD : (xs.drop 1).length ≤ 1000000 := by rw [List.length_drop]; omega
  have OW := Lib.hid hO
  clear hO
  gi_upto_region 3 with fail
  refine rg (fun q6 => [.v (.bool (decide ((k : Int) < (((xs.drop 1).length : Nat) : Int))))]) (fun _ L => L) OW ?_
  clear OW; intro q6 _ Wq6 OW; simp only [↓pc, ↓pn, vE, Hint.val, Act.put, eL]
  cases hB7 : (decide ((k : Int) < (((xs.drop 1).length : Nat) : Int)))
  case true =>
   have dhB7 := of_decide_eq_true hB7
   gi_upto_region 4 with fail
   refine rg (fun q8 => [.m (idxR 0 (.c bq0) k 4 (cP (SqE.drop (k := 4) (fun _ => rfl) hq0 h0).1) (by first | omega | (have := List.length_drop (i := 1) (l := xs); omega))),
    .m (lsR (l := [.int .i64 (((xs.drop 1).getD k zPp).x0), .int .i64 (((xs.drop 1).getD k zPp).x1), .int .i64 (((xs.drop 1).getD k zPp).x2), .int .i64 (((xs.drop 1).getD k zPp).x3)]) (d := zPp) 0 (.c bq0) k 4 0 (cP (SqE.drop (k := 4) (fun _ => rfl) hq0 h0).1) (fun _ => rfl) (by first | omega | (have := List.length_drop (i := 1) (l := xs); omega)) (Nat.le_of_ble_eq_true rfl) (by kernel_rfl)),
    .m (al 1),
    .m (ss 1)]) (fun q8 L => L ++ [ob ((q8 2).blk 0) #[.int .i64 (((xs.drop 1).getD k zPp).x0), .int .i64 (((xs.drop 1).getD k zPp).x1), .int .i64 (((xs.drop 1).getD k zPp).x2), .int .i64 (((xs.drop 1).getD k zPp).x3)] 32]) OW ?_
   clear OW; intro q8 _ Wq8 OW; simp only [↓pc, ↓pn, vE, Hint.val, Act.put, eL]
   gi_upto_region 5 with fail
   refine rg (fun q9 => [.v (.bool (kb1 xs k)),
    .v (.bool (kb1 xs k)),
    .v (.pointer (some ⟨(q8 2).blk 0, 1, none⟩)),
    .m (ld 1 (.int .i64 (((xs.drop 1).getD k zPp).x1))),
    .v (v),
    .m (idxR 0 (.c bq0) 0 4 (cP hq0.1) (by first | omega | (have := List.length_drop (i := 1) (l := xs); omega))),
    .m (fldR 0 (.c bq0) (0 * 4) 1 (cP hq0.1) (by first | omega | (have := List.length_drop (i := 1) (l := xs); omega))),
    .m (ldR (u := .int .i64 ((xs.getD 0 zPp).x1)) (d := zPp) 0 (.c bq0) 0 4 1 (cP hq0.1) (fun _ => rfl) (by first | omega | (have := List.length_drop (i := 1) (l := xs); omega)) (Nat.le_of_ble_eq_true rfl) (by kernel_rfl)),
    .v (.bool ((((xs.drop 1).getD k zPp).x1) == ((xs.getD 0 zPp).x1))),
    .k (.bool ((kb1 xs k) && ((((xs.drop 1).getD k zPp).x1) == ((xs.getD 0 zPp).x1)))),
    .v (.bool ((kb1 xs k) && ((((xs.drop 1).getD k zPp).x1) == ((xs.getD 0 zPp).x1)))),
    .v (.pointer (some ⟨(q8 2).blk 0, 2, none⟩)),
    .m (ld 1 (.int .i64 (((xs.drop 1).getD k zPp).x2))),
    .v (v),
    .m (idxR 0 (.c bq0) 0 4 (cP hq0.1) (by first | omega | (have := List.length_drop (i := 1) (l := xs); omega))),
    .m (fldR 0 (.c bq0) (0 * 4) 2 (cP hq0.1) (by first | omega | (have := List.length_drop (i := 1) (l := xs); omega))),
    .m (ldR (u := .int .i64 ((xs.getD 0 zPp).x2)) (d := zPp) 0 (.c bq0) 0 4 2 (cP hq0.1) (fun _ => rfl) (by first | omega | (have := List.length_drop (i := 1) (l := xs); omega)) (Nat.le_of_ble_eq_true rfl) (by kernel_rfl)),
    .v (.bool ((((xs.drop 1).getD k zPp).x2) == ((xs.getD 0 zPp).x2))),
    .k (.bool (((kb1 xs k) && ((((xs.drop 1).getD k zPp).x1) == ((xs.getD 0 zPp).x1))) && ((((xs.drop 1).getD k zPp).x2) == ((xs.getD 0 zPp).x2)))),
    .v (.bool (((kb1 xs k) && ((((xs.drop 1).getD k zPp).x1) == ((xs.getD 0 zPp).x1))) && ((((xs.drop 1).getD k zPp).x2) == ((xs.getD 0 zPp).x2))))]) (fun _ L => L) OW ?_
   clear OW; intro q9 _ Wq9 OW; simp only [↓pc, ↓pn, vE, Hint.val, Act.put, eL]
   gi_upto_region 6 with fail
   refine rg (fun q10 => [.v (.bool (kb2 xs k)),
    .v (.bool (kb2 xs k)),
    .v (.pointer (some ⟨(q8 2).blk 0, 1, none⟩)),
    .m (ld 1 (.int .i64 (((xs.drop 1).getD k zPp).x1))),
    .v (v),
    .m (idxR 0 (.c bq0) 0 4 (cP hq0.1) (by first | omega | (have := List.length_drop (i := 1) (l := xs); omega))),
    .m (fldR 0 (.c bq0) (0 * 4) 1 (cP hq0.1) (by first | omega | (have := List.length_drop (i := 1) (l := xs); omega))),
    .m (ldR (u := .int .i64 ((xs.getD 0 zPp).x1)) (d := zPp) 0 (.c bq0) 0 4 1 (cP hq0.1) (fun _ => rfl) (by first | omega | (have := List.length_drop (i := 1) (l := xs); omega)) (Nat.le_of_ble_eq_true rfl) (by kernel_rfl)),
    .v (.bool ((((xs.drop 1).getD k zPp).x1) == ((xs.getD 0 zPp).x1))),
    .k (.bool ((kb2 xs k) && ((((xs.drop 1).getD k zPp).x1) == ((xs.getD 0 zPp).x1)))),
    .v (.bool ((kb2 xs k) && ((((xs.drop 1).getD k zPp).x1) == ((xs.getD 0 zPp).x1)))),
    .v (.pointer (some ⟨(q8 2).blk 0, 3, none⟩)),
    .m (ld 1 (.int .i64 (((xs.drop 1).getD k zPp).x3))),
    .v (v),
    .m (idxR 0 (.c bq0) 0 4 (cP hq0.1) (by first | omega | (have := List.length_drop (i := 1) (l := xs); omega))),
    .m (fldR 0 (.c bq0) (0 * 4) 3 (cP hq0.1) (by first | omega | (have := List.length_drop (i := 1) (l := xs); omega))),
    .m (ldR (u := .int .i64 ((xs.getD 0 zPp).x3)) (d := zPp) 0 (.c bq0) 0 4 3 (cP hq0.1) (fun _ => rfl) (by first | omega | (have := List.length_drop (i := 1) (l := xs); omega)) (Nat.le_of_ble_eq_true rfl) (by kernel_rfl)),
    .v (.bool ((((xs.drop 1).getD k zPp).x3) == ((xs.getD 0 zPp).x3))),
    .k (.bool (((kb2 xs k) && ((((xs.drop 1).getD k zPp).x1) == ((xs.getD 0 zPp).x1))) && ((((xs.drop 1).getD k zPp).x3) == ((xs.getD 0 zPp).x3)))),
    .v (.bool (((kb2 xs k) && ((((xs.drop 1).getD k zPp).x1) == ((xs.getD 0 zPp).x1))) && ((((xs.drop 1).getD k zPp).x3) == ((xs.getD 0 zPp).x3))))]) (fun _ L => L) OW ?_
   clear OW; intro q10 _ Wq10 OW; simp only [↓pc, ↓pn, vE, Hint.val, Act.put, eL]
   gi_upto_region 7 with fail
   refine rg (fun q11 => [.t (tb (a := .int .i64 (k : Int)) (b := .int .i64 1) fun _ _ _ _ => bin_add_nat (a := k) (b := 1) (by first | omega | (have := List.length_drop (i := 1) (l := xs); omega))),
    .v (.int .i64 ((k + 1 : Nat) : Int))]) (fun _ L => L) OW ?_
   clear OW; intro q11 _ Wq11 OW; simp only [↓pc, ↓pn, vE, Hint.val, Act.put, eL]
   gi_wp2
   go_roundw
   case rel => exact ⟨k + 1, by omega, by go_num, rfl, rfl, (by skip; exact OwnE.pick OW.out [0] _ (by kernel_rfl))⟩
   case measure => (simp [intOf] <;> omega)
  have dhB7 := of_decide_eq_false hB7
  gi_upto_region 8 with fail
  refine rg (fun q12 => [.v (v),
   .m (lenR 0 (.c bq0) (cP hq0.1)),
   .v (.bool ((xs.length : Int) == 1)),
   .v (.bool ((xs.length : Int) == 1))]) (fun _ L => L) OW ?_
  clear OW; intro q12 _ Wq12 OW; simp only [↓pc, ↓pn, vE, Hint.val, Act.put, eL]
  cases hB13 : ((xs.length : Int) == 1)
  case true =>
   have dhB13 := Lib.hid (eq_of_beq hB13)
   gi_upto_region 9 with fail
   refine rg (fun q14 => [.v (.int .i64 1)]) (fun _ L => L) OW ?_
   clear OW; intro q14 _ Wq14 OW; simp only [↓pc, ↓pn, vE, Hint.val, Act.put, eL]
   gi_wp2
   exact leafE HS HH OW [.t (.int .i64 1)] Env.zero [] [(0, 0)] (by first | exact congrArg (Value.int .i64) (knd_1 (by assumption)) | exact congrArg (Value.int .i64) (knd_2 (k := k) (by assumption) (by have := List.length_drop (i := 1) (l := xs); omega) (by assumption)) | exact congrArg (Value.int .i64) (knd_3 (k := k) (by assumption) (by have := List.length_drop (i := 1) (l := xs); omega) (by assumption) (by assumption)) | exact congrArg (Value.int .i64) (knd_4 (k := k) (by assumption) (by have := List.length_drop (i := 1) (l := xs); omega) (by assumption) (by assumption)))
  have dhB13 := ne_of_beq_false hB13
  gi_upto_region 10 with fail
  refine rg (fun q15 => [.v (.bool (kb1 xs k)),
   .v (.bool (kb1 xs k))]) (fun _ L => L) OW ?_
  clear OW; intro q15 _ Wq15 OW; simp only [↓pc, ↓pn, vE, Hint.val, Act.put, eL]
  cases hB16 : (kb1 xs k)
  case true =>
   gi_upto_region 11 with fail
   refine rg (fun q17 => [.v (.int .i64 2)]) (fun _ L => L) OW ?_
   clear OW; intro q17 _ Wq17 OW; simp only [↓pc, ↓pn, vE, Hint.val, Act.put, eL]
   gi_wp2
   exact leafE HS HH OW [.t (.int .i64 2)] Env.zero [] [(0, 0)] (by first | exact congrArg (Value.int .i64) (knd_1 (by assumption)) | exact congrArg (Value.int .i64) (knd_2 (k := k) (by assumption) (by have := List.length_drop (i := 1) (l := xs); omega) (by assumption)) | exact congrArg (Value.int .i64) (knd_3 (k := k) (by assumption) (by have := List.length_drop (i := 1) (l := xs); omega) (by assumption) (by assumption)) | exact congrArg (Value.int .i64) (knd_4 (k := k) (by assumption) (by have := List.length_drop (i := 1) (l := xs); omega) (by assumption) (by assumption)))
  gi_upto_region 12 with fail
  refine rg (fun q18 => [.v (.bool (kb2 xs k)),
   .v (.bool (kb2 xs k))]) (fun _ L => L) OW ?_
  clear OW; intro q18 _ Wq18 OW; simp only [↓pc, ↓pn, vE, Hint.val, Act.put, eL]
  cases hB19 : (kb2 xs k)
  case true =>
   gi_upto_region 13 with fail
   refine rg (fun q20 => [.v (.int .i64 3)]) (fun _ L => L) OW ?_
   clear OW; intro q20 _ Wq20 OW; simp only [↓pc, ↓pn, vE, Hint.val, Act.put, eL]
   gi_wp2
   exact leafE HS HH OW [.t (.int .i64 3)] Env.zero [] [(0, 0)] (by first | exact congrArg (Value.int .i64) (knd_1 (by assumption)) | exact congrArg (Value.int .i64) (knd_2 (k := k) (by assumption) (by have := List.length_drop (i := 1) (l := xs); omega) (by assumption)) | exact congrArg (Value.int .i64) (knd_3 (k := k) (by assumption) (by have := List.length_drop (i := 1) (l := xs); omega) (by assumption) (by assumption)) | exact congrArg (Value.int .i64) (knd_4 (k := k) (by assumption) (by have := List.length_drop (i := 1) (l := xs); omega) (by assumption) (by assumption)))
  gi_upto_region 14 with fail
  refine rg (fun q21 => [.v (.int .i64 4)]) (fun _ L => L) OW ?_
  clear OW; intro q21 _ Wq21 OW; simp only [↓pc, ↓pn, vE, Hint.val, Act.put, eL]
  gi_wp2
  exact leafE HS HH OW [.t (.int .i64 4)] Env.zero [] [(0, 0)] (by first | exact congrArg (Value.int .i64) (knd_1 (by assumption)) | exact congrArg (Value.int .i64) (knd_2 (k := k) (by assumption) (by have := List.length_drop (i := 1) (l := xs); omega) (by assumption)) | exact congrArg (Value.int .i64) (knd_3 (k := k) (by assumption) (by have := List.length_drop (i := 1) (l := xs); omega) (by assumption) (by assumption)) | exact congrArg (Value.int .i64) (knd_4 (k := k) (by assumption) (by have := List.length_drop (i := 1) (l := xs); omega) (by assumption) (by assumption)))
theorem tkind (v : Value) (xs : List Pp) (h0 : 1 ≤ xs.length) (hx : xs.length ≤ 1000000) : Con Try.prog 26 #[v] [.p (SqE ePp v xs)] [] (fun _ => []) (fun _ => .int .i64 (knd xs)) :=
 Con.ro 0 rfl (fun bq0 hq0 => tkind_c v xs h0 hx bq0 hq0) (enters_of Try.func26 (by kernel_rfl) rfl)
end Go.Proofs.Ytdglhppcfdpcaaa.E
