/- Places: where they stand in a list; bare ones. -/
import Derived.Test.YtdglhppcfdpcaaaTaK
import Derived.WalkKit
import Derived.Sort.CutIn
import Derived.IntWalk
namespace Go.Proofs.Ytdglhppcfdpcaaa.E
open Go Go.RowKit Go.Shelf
attribute [local go_sem] Oper.semAt_some
set_option linter.unusedVariables false
set_option linter.unusedSimpArgs false

structure Pp where
  x0 : Int
  x1 : Int
  x2 : Int
  x3 : Int
def zPp : Pp := ⟨0, 0, 0, 0⟩
def ePp (x : Pp) : List Value := [.int .i64 x.x0, .int .i64 x.x1, .int .i64 x.x2, .int .i64 x.x3]
theorem slTPp : SlT Try.prog 71 32 [.int .i64 0, .int .i64 0, .int .i64 0, .int .i64 0] := SlT.mk' (by kernel_rfl) (by kernel_rfl) rfl
abbrev slPp (v : Value) (xs : List Pp) : Ent := .p (SlE ePp [.int .i64 0, .int .i64 0, .int .i64 0, .int .i64 0] 32 v xs)
theorem h1Pp : ∀ y, ∀ u ∈ ePp y, u.oneCell' = true := fun y u hu => by
  simp only [ePp, List.mem_cons, List.not_mem_nil, or_false] at hu
  rcases hu with rfl | rfl | rfl | rfl <;> rfl
def tbare_0 (kd : Int) (a1 : Int) : Int := (bif kd == 2 then a1 else (bif kd == 3 then a1 else (bif kd == 4 then 0 else a1)))
def tbare_1 (kd : Int) (a2 : Int) : Int := (bif kd == 2 then a2 else (bif kd == 3 then 0 else (bif kd == 4 then 0 else a2)))
def tbare_2 (kd : Int) (a3 : Int) : Int := (bif kd == 2 then 0 else (bif kd == 3 then a3 else (bif kd == 4 then 0 else a3)))
set_option maxRecDepth 100000 in
set_option maxHeartbeats 1000000 in
theorem tbare (kd a0 a1 a2 a3 : Int) : Con Try.prog 27 #[.int .i64 kd, .agg #[.int .i64 a0, .int .i64 a1, .int .i64 a2, .int .i64 a3]] [] [] (fun _ => []) (fun _ => .agg #[.int .i64 a0, .int .i64 (tbare_0 kd a1), .int .i64 (tbare_1 kd a2), .int .i64 (tbare_2 kd a3)]) := by
 refine Con.of (enters_of Try.func27 (by kernel_rfl) rfl) fun w cs HS HH OW => ?_
 refine (callsIn_wide (n := 6)).1 ?_
 refine callsIn_of_wp_marks Try.func27 rfl trivial ?_ rfl
 simp only [Try.ntmps27, eF, Nat.reduceAdd, Nat.reduceSub]
 gi_upto_region 0 with fail
 refine rg (fun q1 => [.m (bx 0),
  .m (al 1)]) (fun q1 L => L ++ [ob ((q1 0).blk 0) #[.int .i64 a0, .int .i64 a1, .int .i64 a2, .int .i64 a3] 32, ob ((q1 1).blk 0) #[.int .i64 0, .int .i64 0, .int .i64 0, .int .i64 0] 32]) OW ?_
 clear OW; intro q1 _ Wq1 OW; simp only [↓pc, ↓pn, vE, Hint.val, Act.put, eL]
 gi_upto_region 1 with fail
 refine rg (fun q2 => [.v (.int .i64 kd)]) (fun _ L => L) OW ?_
 clear OW; intro q2 _ Wq2 OW; simp only [↓pc, ↓pn, vE, Hint.val, Act.put, eL]
 gi_upto_region 2 with fail
 refine rg (fun q3 => [.v (.bool (kd == 2)),
  .v (.bool (kd == 2))]) (fun _ L => L) OW ?_
 clear OW; intro q3 _ Wq3 OW; simp only [↓pc, ↓pn, vE, Hint.val, Act.put, eL]
 cases hB4 : (kd == 2)
 case true =>
  have dhB4 := Lib.hid (eq_of_beq hB4)
  gi_upto_region 3 with fail
  refine rg (fun q5 => [.v (.pointer (some ⟨(q1 0).blk 0, 3, none⟩)),
   .m (st 0)]) (fun q5 L => L.set 0 (ob ((q1 0).blk 0) #[.int .i64 a0, .int .i64 a1, .int .i64 a2, .int .i64 0] 32)) OW ?_
  clear OW; intro q5 _ Wq5 OW; simp only [↓pc, ↓pn, vE, Hint.val, Act.put, eL]
  gi_upto_region 8 with fail
  refine rg (fun q6 => [.m (ls 0 ([.int .i64 a0, .int .i64 a1, .int .i64 a2, .int .i64 0])),
   .m (ss 1)]) (fun q6 L => L.set 1 (ob ((q1 1).blk 0) #[.int .i64 a0, .int .i64 a1, .int .i64 a2, .int .i64 0] 32)) OW ?_
  clear OW; intro q6 _ Wq6 OW; simp only [↓pc, ↓pn, vE, Hint.val, Act.put, eL]
  gi_wp2
  exact leafE HS HH OW [.s ([.int .i64 a0, .int .i64 a1, .int .i64 a2, .int .i64 0]) 1] Env.zero [] [] (by (try simp only [tbare_0, tbare_1, tbare_2]); (repeat (first | rw [hB4] | rw [cond_true] | rw [cond_false])); first | rfl | kernel_rfl) (by kernel_rfl) (by (try simp only [tbare_0, tbare_1, tbare_2]); (repeat (first | rw [hB4] | rw [cond_true] | rw [cond_false])); kernel_rfl)
 have dhB4 := ne_of_beq_false hB4
 gi_upto_region 4 with fail
 refine rg (fun q7 => [.v (.bool (kd == 3)),
  .v (.bool (kd == 3))]) (fun _ L => L) OW ?_
 clear OW; intro q7 _ Wq7 OW; simp only [↓pc, ↓pn, vE, Hint.val, Act.put, eL]
 cases hB8 : (kd == 3)
 case true =>
  have dhB8 := Lib.hid (eq_of_beq hB8)
  gi_upto_region 5 with fail
  refine rg (fun q9 => [.v (.pointer (some ⟨(q1 0).blk 0, 2, none⟩)),
   .m (st 0)]) (fun q9 L => L.set 0 (ob ((q1 0).blk 0) #[.int .i64 a0, .int .i64 a1, .int .i64 0, .int .i64 a3] 32)) OW ?_
  clear OW; intro q9 _ Wq9 OW; simp only [↓pc, ↓pn, vE, Hint.val, Act.put, eL]
  gi_upto_region 8 with fail
  refine rg (fun q10 => [.m (ls 0 ([.int .i64 a0, .int .i64 a1, .int .i64 0, .int .i64 a3])),
   .m (ss 1)]) (fun q10 L => L.set 1 (ob ((q1 1).blk 0) #[.int .i64 a0, .int .i64 a1, .int .i64 0, .int .i64 a3] 32)) OW ?_
  clear OW; intro q10 _ Wq10 OW; simp only [↓pc, ↓pn, vE, Hint.val, Act.put, eL]
  gi_wp2
  exact leafE HS HH OW [.s ([.int .i64 a0, .int .i64 a1, .int .i64 0, .int .i64 a3]) 1] Env.zero [] [] (by (try simp only [tbare_0, tbare_1, tbare_2]); (repeat (first | rw [hB4] | rw [hB8] | rw [cond_true] | rw [cond_false])); first | rfl | kernel_rfl) (by kernel_rfl) (by (try simp only [tbare_0, tbare_1, tbare_2]); (repeat (first | rw [hB4] | rw [hB8] | rw [cond_true] | rw [cond_false])); kernel_rfl)
 have dhB8 := ne_of_beq_false hB8
 gi_upto_region 6 with fail
 refine rg (fun q11 => [.v (.bool (kd == 4)),
  .v (.bool (kd == 4))]) (fun _ L => L) OW ?_
 clear OW; intro q11 _ Wq11 OW; simp only [↓pc, ↓pn, vE, Hint.val, Act.put, eL]
 cases hB12 : (kd == 4)
 case true =>
  have dhB12 := Lib.hid (eq_of_beq hB12)
  gi_upto_region 7 with fail
  refine rg (fun q13 => [.v (.pointer (some ⟨(q1 0).blk 0, 0, none⟩)),
   .m (ld 0 (.int .i64 a0)),
   .v (.agg #[.int .i64 a0, .int .i64 0, .int .i64 0, .int .i64 0]),
   .m (ss 0)]) (fun q13 L => L.set 0 (ob ((q1 0).blk 0) #[.int .i64 a0, .int .i64 0, .int .i64 0, .int .i64 0] 32)) OW ?_
  clear OW; intro q13 _ Wq13 OW; simp only [↓pc, ↓pn, vE, Hint.val, Act.put, eL]
  gi_upto_region 8 with fail
  refine rg (fun q14 => [.m (ls 0 ([.int .i64 a0, .int .i64 0, .int .i64 0, .int .i64 0])),
   .m (ss 1)]) (fun q14 L => L.set 1 (ob ((q1 1).blk 0) #[.int .i64 a0, .int .i64 0, .int .i64 0, .int .i64 0] 32)) OW ?_
  clear OW; intro q14 _ Wq14 OW; simp only [↓pc, ↓pn, vE, Hint.val, Act.put, eL]
  gi_wp2
  exact leafE HS HH OW [.s ([.int .i64 a0, .int .i64 0, .int .i64 0, .int .i64 0]) 1] Env.zero [] [] (by (try simp only [tbare_0, tbare_1, tbare_2]); (repeat (first | rw [hB4] | rw [hB8] | rw [hB12] | rw [cond_true] | rw [cond_false])); first | rfl | kernel_rfl) (by kernel_rfl) (by (try simp only [tbare_0, tbare_1, tbare_2]); (repeat (first | rw [hB4] | rw [hB8] | rw [hB12] | rw [cond_true] | rw [cond_false])); kernel_rfl)
 have dhB12 := ne_of_beq_false hB12
 gi_upto_region 8 with fail
 refine rg (fun q15 => [.m (ls 0 ([.int .i64 a0, .int .i64 a1, .int .i64 a2, .int .i64 a3])),
  .m (ss 1)]) (fun q15 L => L.set 1 (ob ((q1 1).blk 0) #[.int .i64 a0, .int .i64 a1, .int .i64 a2, .int .i64 a3] 32)) OW ?_
 clear OW; intro q15 _ Wq15 OW; simp only [↓pc, ↓pn, vE, Hint.val, Act.put, eL]
 gi_wp2
 exact leafE HS HH OW [.s ([.int .i64 a0, .int .i64 a1, .int .i64 a2, .int .i64 a3]) 1] Env.zero [] [] (by (try simp only [tbare_0, tbare_1, tbare_2]); (repeat (first | rw [hB4] | rw [hB8] | rw [hB12] | rw [cond_true] | rw [cond_false])); first | rfl | kernel_rfl) (by kernel_rfl) (by (try simp only [tbare_0, tbare_1, tbare_2]); (repeat (first | rw [hB4] | rw [hB8] | rw [hB12] | rw [cond_true] | rw [cond_false])); kernel_rfl)
def pe (c0 c1 c2 c3 : Int) (y : Pp) : Bool := (c0 == y.x0) && ((c1 == y.x1) && ((c2 == y.x2) && (c3 == y.x3)))
/-- Where a place stands in a list. -/
def ixP (xs : List Pp) (c0 c1 c2 c3 : Int) : Int := match xs.findIdx? (pe c0 c1 c2 c3) with | some k => (k : Int) | none => -1
theorem ixP_at {xs : List Pp} {c0 c1 c2 c3 : Int} {k : Nat} (hk : k < xs.length) (hp : pe c0 c1 c2 c3 (xs.getD k zPp) = true) (hn : ∀ j, j < k → pe c0 c1 c2 c3 (xs.getD j zPp) = false) : ixP xs c0 c1 c2 c3 = (k : Int) := by
  have e : xs.findIdx? (pe c0 c1 c2 c3) = some k := by
    rw [List.findIdx?_eq_some_iff_getElem]
    refine ⟨hk, ?_, fun j hj => ?_⟩
    · rw [List.getD_eq_getElem?_getD, List.getElem?_eq_getElem hk] at hp; exact hp
    · have h := hn j hj
      rw [List.getD_eq_getElem?_getD, List.getElem?_eq_getElem (by omega : j < xs.length)] at h
      have h' : pe c0 c1 c2 c3 xs[j] = false := h
      simp [h']
  unfold ixP
  rw [e]
theorem ixP_no {xs : List Pp} {c0 c1 c2 c3 : Int} (hn : ∀ j, j < xs.length → pe c0 c1 c2 c3 (xs.getD j zPp) = false) : ixP xs c0 c1 c2 c3 = -1 := by
  have e : xs.findIdx? (pe c0 c1 c2 c3) = none := by
    rw [List.findIdx?_eq_none_iff]
    intro x hx
    obtain ⟨j, hj, rfl⟩ := List.getElem_of_mem hx
    have h := hn j hj
    rw [List.getD_eq_getElem?_getD, List.getElem?_eq_getElem hj] at h
    exact h
  unfold ixP
  rw [e]
attribute [local irreducible] ixP
set_option maxRecDepth 100000 in
set_option maxHeartbeats 1000000 in
theorem tixP_c (v : Value) (xs : List Pp) (c0 c1 c2 c3 : Int) (hx : xs.length ≤ 1000000) (bq0 : Objs) (hq0 : SqE ePp v xs bq0) : Con Try.prog 53 #[v, .agg #[.int .i64 c0, .int .i64 c1, .int .i64 c2, .int .i64 c3]] [.c bq0] [] (fun _ => []) (fun _ => .int .i64 (ixP xs c0 c1 c2 c3)) := by
 refine Con.of (enters_of Try.func53 (by kernel_rfl) rfl) fun w cs HS HH OW => ?_
 refine (callsIn_wide (n := 6)).1 ?_
 refine callsIn_of_wp_marks Try.func53 rfl trivial ?_ rfl
 simp only [Try.ntmps53, eF, Nat.reduceAdd, Nat.reduceSub]
 gi_upto_region 0 with fail
 refine rg (fun q1 => [.m (bx 1),
  .v (.int .i64 0)]) (fun q1 L => L ++ [ob ((q1 0).blk 0) #[.int .i64 c0, .int .i64 c1, .int .i64 c2, .int .i64 c3] 32]) OW ?_
 clear OW; intro q1 _ Wq1 OW; simp only [↓pc, ↓pn, vE, Hint.val, Act.put, eL]
 gi_upto_region 1 with fail
 refine rg (fun q2 => [.v (v),
  .m (lenR 0 (.c bq0) (cP hq0.1)),
  .v (.int .i64 0)]) (fun _ L => L) OW ?_
 clear OW; intro q2 _ Wq2 OW; simp only [↓pc, ↓pn, vE, Hint.val, Act.put, eL]
 gi_wp2
 gi_loopw [8] (fun z8 wr => ∃ k : Nat, k ≤ xs.length ∧ z8 = .int .i64 (k : Int) ∧ (∀ j, j < k → pe c0 c1 c2 c3 (xs.getD j zPp) = false) ∧ OwnE (ids cs.flatten) w [.c bq0, ob ((q1 0).blk 0) #[.int .i64 c0, .int .i64 c1, .int .i64 c2, .int .i64 c3] 32] wr) (fun z8 _ => xs.length - (intOf (z8)).toNat)
 case atStart => exact ⟨0, by omega, rfl, fun j h => absurd h (Nat.not_lt_zero j), (by skip; exact OwnE.cast OW.out (by kernel_rfl))⟩
 case round =>
  obtain ⟨k, hk4, rfl, hno, hO⟩ := hrel
  clear OW
  have HNO := Lib.hid hno
  clear hno
  have OW := Lib.hid hO
  clear hO
  gi_upto_region 2 with fail
  refine rg (fun q5 => [.v (.bool (decide ((k : Int) < (xs.length : Int))))]) (fun _ L => L) OW ?_
  clear OW; intro q5 _ Wq5 OW; simp only [↓pc, ↓pn, vE, Hint.val, Act.put, eL]
  cases hB6 : (decide ((k : Int) < (xs.length : Int)))
  case true =>
   have dhB6 := of_decide_eq_true hB6
   gi_upto_region 3 with fail
   refine rg (fun q7 => [.v (.int .i64 (k : Int)),
    .v (.int .i64 (k : Int))]) (fun _ L => L) OW ?_
   clear OW; intro q7 _ Wq7 OW; simp only [↓pc, ↓pn, vE, Hint.val, Act.put, eL]
   gi_upto_region 4 with fail
   refine rg (fun q8 => [.m (ls 1 ([.int .i64 c0, .int .i64 c1, .int .i64 c2, .int .i64 c3])),
    .v (v),
    .v (.int .i64 (k : Int)),
    .m (idxR 0 (.c bq0) k 4 (cP hq0.1) (by omega)),
    .m (lsR (l := [.int .i64 ((xs.getD k zPp).x0), .int .i64 ((xs.getD k zPp).x1), .int .i64 ((xs.getD k zPp).x2), .int .i64 ((xs.getD k zPp).x3)]) (d := zPp) 0 (.c bq0) k 4 0 (cP hq0.1) (fun _ => rfl) (by omega) (Nat.le_of_ble_eq_true rfl) (by kernel_rfl)),
    .t (tbT 32 fun _ _ _ => bin_eqT (xs := [.int .i64 c0, .int .i64 c1, .int .i64 c2, .int .i64 c3]) (ys := [.int .i64 ((xs.getD k zPp).x0), .int .i64 ((xs.getD k zPp).x1), .int .i64 ((xs.getD k zPp).x2), .int .i64 ((xs.getD k zPp).x3)]) (by kernel_rfl) (show _ = (((c0 == ((xs.getD k zPp).x0)) && ((c1 == ((xs.getD k zPp).x1)) && ((c2 == ((xs.getD k zPp).x2)) && (c3 == ((xs.getD k zPp).x3))))) : Bool) from Eq.trans (b := (c0 == ((xs.getD k zPp).x0) && (c1 == ((xs.getD k zPp).x1) && (c2 == ((xs.getD k zPp).x2) && (c3 == ((xs.getD k zPp).x3) && true))))) (by rfl) (by simp only [Bool.and_true, beq_true, beq_false])))]) (fun _ L => L) OW ?_
   clear OW; intro q8 _ Wq8 OW; simp only [↓pc, ↓pn, vE, Hint.val, Act.put, eL]
   cases hB9 : (((c0 == ((xs.getD k zPp).x0)) && ((c1 == ((xs.getD k zPp).x1)) && ((c2 == ((xs.getD k zPp).x2)) && (c3 == ((xs.getD k zPp).x3))))))
   case true =>
    gi_upto_region 5 with fail
    refine rg (fun q10 => [.v (.int .i64 (k : Int)),
     .v (.int .i64 (k : Int))]) (fun _ L => L) OW ?_
    clear OW; intro q10 _ Wq10 OW; simp only [↓pc, ↓pn, vE, Hint.val, Act.put, eL]
    gi_wp2
    exact leafE HS HH OW [.t (.int .i64 (k : Int))] Env.zero [] [(0, 0)] (by first | exact congrArg (Value.int .i64) (ixP_at (by omega) (by assumption) HNO.out).symm | exact congrArg (Value.int .i64) (ixP_no fun j hj => HNO.out j (by omega)).symm)
   gi_upto_region 6 with fail
   refine rg (fun q11 => [.t (tb (a := .int .i64 (k : Int)) (b := .int .i64 1) fun _ _ _ _ => bin_add_nat (a := k) (b := 1) (by omega)),
    .v (.int .i64 ((k + 1 : Nat) : Int))]) (fun _ L => L) OW ?_
   clear OW; intro q11 _ Wq11 OW; simp only [↓pc, ↓pn, vE, Hint.val, Act.put, eL]
   gi_wp2
   go_roundw
   case rel => exact ⟨k + 1, by omega, by go_num, fun j h => (Nat.lt_or_ge j k).elim (HNO.out j) (fun h3 => by obtain rfl : j = k := (by omega); assumption), (by skip; exact OwnE.pick OW.out [0, 1] _ (by kernel_rfl))⟩
   case measure => (simp [intOf] <;> omega)
  have dhB6 := of_decide_eq_false hB6
  obtain rfl : xs.length = k := by omega
  gi_upto_region 7 with fail
  refine rg (fun q12 => [.v (.int .i64 (-1))]) (fun _ L => L) OW ?_
  clear OW; intro q12 _ Wq12 OW; simp only [↓pc, ↓pn, vE, Hint.val, Act.put, eL]
  gi_wp2
  exact leafE HS HH OW [.t (.int .i64 (-1))] Env.zero [] [(0, 0)] (by first | exact congrArg (Value.int .i64) (ixP_at (by omega) (by assumption) HNO.out).symm | exact congrArg (Value.int .i64) (ixP_no fun j hj => HNO.out j (by omega)).symm)
theorem tixP (v : Value) (xs : List Pp) (c0 c1 c2 c3 : Int) (hx : xs.length ≤ 1000000) : Con Try.prog 53 #[v, .agg #[.int .i64 c0, .int .i64 c1, .int .i64 c2, .int .i64 c3]] [.p (SqE ePp v xs)] [] (fun _ => []) (fun _ => .int .i64 (ixP xs c0 c1 c2 c3)) :=
 Con.ro 0 rfl (fun bq0 hq0 => tixP_c v xs c0 c1 c2 c3 hx bq0 hq0) (enters_of Try.func53 (by kernel_rfl) rfl)
set_option maxRecDepth 100000 in
set_option maxHeartbeats 1000000 in
theorem tconP_c (v : Value) (xs : List Pp) (c0 c1 c2 c3 : Int) (hx : xs.length ≤ 1000000) (bq0 : Objs) (hq0 : SqE ePp v xs bq0) : Con Try.prog 25 #[v, .agg #[.int .i64 c0, .int .i64 c1, .int .i64 c2, .int .i64 c3]] [.c bq0] [] (fun _ => []) (fun _ => .bool (decide (0 ≤ (ixP xs c0 c1 c2 c3)))) := by
 refine Con.of (enters_of Try.func25 (by kernel_rfl) rfl) fun w cs HS HH OW => ?_
 refine (callsIn_wide (n := 6)).1 ?_
 refine callsIn_of_wp_marks Try.func25 rfl trivial ?_ rfl
 simp only [Try.ntmps25, eF, Nat.reduceAdd, Nat.reduceSub]
 gi_upto_region 0 with fail
 refine rg (fun q1 => [.m (bx 1),
  .v (.bool false)]) (fun q1 L => L ++ [ob ((q1 0).blk 0) #[.int .i64 c0, .int .i64 c1, .int .i64 c2, .int .i64 c3] 32]) OW ?_
 clear OW; intro q1 _ Wq1 OW; simp only [↓pc, ↓pn, vE, Hint.val, Act.put, eL]
 gi_upto_region 1 with fail
 refine rg (fun q2 => [.v (v),
  .m (ls 1 ([.int .i64 c0, .int .i64 c1, .int .i64 c2, .int .i64 c3])),
  .c [0] [] (Con.at (rd' := [.c bq0]) (tixP v xs c0 c1 c2 c3 (by omega)) (atC hq0 (fun _ h => h))),
  .v (.bool (decide (0 ≤ (ixP xs c0 c1 c2 c3)))),
  .v (.bool (decide (0 ≤ (ixP xs c0 c1 c2 c3))))]) (fun _ L => L) OW ?_
 clear OW; intro q2 _ Wq2 OW; simp only [↓pc, ↓pn, vE, Hint.val, Act.put, eL]
 gi_wp2
 exact leafE HS HH OW [.t (.bool (decide (0 ≤ (ixP xs c0 c1 c2 c3))))] Env.zero [] [(0, 0)] rfl
theorem tconP (v : Value) (xs : List Pp) (c0 c1 c2 c3 : Int) (hx : xs.length ≤ 1000000) : Con Try.prog 25 #[v, .agg #[.int .i64 c0, .int .i64 c1, .int .i64 c2, .int .i64 c3]] [.p (SqE ePp v xs)] [] (fun _ => []) (fun _ => .bool (decide (0 ≤ (ixP xs c0 c1 c2 c3)))) :=
 Con.ro 0 rfl (fun bq0 hq0 => tconP_c v xs c0 c1 c2 c3 hx bq0 hq0) (enters_of Try.func25 (by kernel_rfl) rfl)
end Go.Proofs.Ytdglhppcfdpcaaa.E
