/- The document's finding of a rank and a chip, walked. -/
import Derived.Test.YtdglhppcfdpcaaaTaP
import Derived.WalkKit
import Derived.Sort.CutIn
import Derived.IntWalk
namespace Go.Proofs.Ytdglhppcfdpcaaa.E
open Go Go.RowKit Go.Shelf
attribute [local go_sem] Oper.semAt_some
set_option linter.unusedVariables false
set_option linter.unusedSimpArgs false

theorem slTSr : SlT Try.prog 30 37 [.int .i64 0, .int .i64 0, .int .i64 0, .int .i64 0, .int .i64 0] := SlT.mk' (by kernel_rfl) (by kernel_rfl) rfl
abbrev slSr (v : Value) (xs : List Sn) : Ent := .p (SlE eSn [.int .i64 0, .int .i64 0, .int .i64 0, .int .i64 0, .int .i64 0] 37 v xs)
theorem h1Sr : ∀ y, ∀ u ∈ eSn y, u.oneCell' = true := h1Sn
theorem slTPr : SlT Try.prog 75 35 [.int .i64 0, .int .i64 0, .int .i64 0, .int .i64 0] := SlT.mk' (by kernel_rfl) (by kernel_rfl) rfl
abbrev slPr (v : Value) (xs : List Pp) : Ent := .p (SlE ePp [.int .i64 0, .int .i64 0, .int .i64 0, .int .i64 0] 35 v xs)
theorem h1Pr : ∀ y, ∀ u ∈ ePp y, u.oneCell' = true := h1Pp
/-- Is a place one of the first ones? -/
def knP (P : List Pp) (s : Sn) (b : Bool) : Nat → Bool
  | 0 => b
  | j + 1 => knP P s b j || (((P.getD j zPp).x0 == s.x0) && (((P.getD j zPp).x1 == s.x1) && (((P.getD j zPp).x2 == s.x2) && ((P.getD j zPp).x3 == s.x3))))
def knS (P : List Pp) (s : Sn) (r c : Int) (j : Nat) : Bool := knP P s ((s.x0 != r) || (s.x4 != c)) j
def plR (xs : List Sn) (r c : Int) : Nat → List Pp
  | 0 => []
  | k + 1 => bif knS (plR xs r c k) (xs.getD k zSn) r c (plR xs r c k).length then plR xs r c k else plR xs r c k ++ [⟨(xs.getD k zSn).x0, (xs.getD k zSn).x1, (xs.getD k zSn).x2, (xs.getD k zSn).x3⟩]
theorem plR_le (xs : List Sn) (r c : Int) : ∀ k, (plR xs r c k).length ≤ k
  | 0 => Nat.le_refl _
  | k + 1 => by
    have := plR_le xs r c k
    rw [plR]
    cases knS (plR xs r c k) (xs.getD k zSn) r c (plR xs r c k).length
    · simp only [cond_false, List.length_append, List.length_cons, List.length_nil]; omega
    · simp only [cond_true]; omega
theorem plR_t {xs : List Sn} {r c : Int} {k j : Nat} (hj : j = (plR xs r c k).length) (h : (!knS (plR xs r c k) (xs.getD k zSn) r c j) = true) : plR xs r c (k + 1) = plR xs r c k ++ [⟨(xs.getD k zSn).x0, (xs.getD k zSn).x1, (xs.getD k zSn).x2, (xs.getD k zSn).x3⟩] := by
  subst hj
  rw [Bool.not_eq_true'] at h
  rw [plR, h]; rfl
theorem plR_f {xs : List Sn} {r c : Int} {k j : Nat} (hj : j = (plR xs r c k).length) (h : (!knS (plR xs r c k) (xs.getD k zSn) r c j) = false) : plR xs r c (k + 1) = plR xs r c k := by
  subst hj
  rw [Bool.not_eq_false'] at h
  rw [plR, h]; rfl
def rb1 (xs : List Pp) : Nat → Bool
  | 0 => true
  | k + 1 => ((rb1 xs k) && ((xs.getD k zPp).x1 == (xs.getD 0 zPp).x1)) && ((xs.getD k zPp).x2 == (xs.getD 0 zPp).x2)
def rb2 (xs : List Pp) : Nat → Bool
  | 0 => true
  | k + 1 => ((rb2 xs k) && ((xs.getD k zPp).x1 == (xs.getD 0 zPp).x1)) && ((xs.getD k zPp).x3 == (xs.getD 0 zPp).x3)
attribute [local irreducible] plR
def tone_0 (xs : List Sn) (r : Int) (c : Int) : Int := (bif (((plR xs r c xs.length).length : Nat) : Int) == 0 then 0 else (bif (((plR xs r c xs.length).length : Nat) : Int) == 1 then 1 else (bif rb1 (plR xs r c xs.length) ((plR xs r c xs.length).length) then 2 else (bif rb2 (plR xs r c xs.length) ((plR xs r c xs.length).length) then 3 else 4))))
def tone_1 (xs : List Sn) (r : Int) (c : Int) : Int := (bif (((plR xs r c xs.length).length : Nat) : Int) == 0 then 0 else (bif (((plR xs r c xs.length).length : Nat) : Int) == 1 then (((plR xs r c xs.length).getD 0 zPp).x0) else r))
def tone_2 (xs : List Sn) (r : Int) (c : Int) : Int := (bif (((plR xs r c xs.length).length : Nat) : Int) == 0 then 0 else (bif (((plR xs r c xs.length).length : Nat) : Int) == 1 then (((plR xs r c xs.length).getD 0 zPp).x1) else (bif rb1 (plR xs r c xs.length) ((plR xs r c xs.length).length) then (((plR xs r c xs.length).getD 0 zPp).x1) else (bif rb2 (plR xs r c xs.length) ((plR xs r c xs.length).length) then (((plR xs r c xs.length).getD 0 zPp).x1) else 0))))
def tone_3 (xs : List Sn) (r : Int) (c : Int) : Int := (bif (((plR xs r c xs.length).length : Nat) : Int) == 0 then 0 else (bif (((plR xs r c xs.length).length : Nat) : Int) == 1 then (((plR xs r c xs.length).getD 0 zPp).x2) else (bif rb1 (plR xs r c xs.length) ((plR xs r c xs.length).length) then (((plR xs r c xs.length).getD 0 zPp).x2) else 0)))
def tone_4 (xs : List Sn) (r : Int) (c : Int) : Int := (bif (((plR xs r c xs.length).length : Nat) : Int) == 0 then 0 else (bif (((plR xs r c xs.length).length : Nat) : Int) == 1 then (((plR xs r c xs.length).getD 0 zPp).x3) else (bif rb1 (plR xs r c xs.length) ((plR xs r c xs.length).length) then 0 else (bif rb2 (plR xs r c xs.length) ((plR xs r c xs.length).length) then (((plR xs r c xs.length).getD 0 zPp).x3) else 0))))
def tone_5 (xs : List Sn) (r : Int) (c : Int) : Int := (bif (((plR xs r c xs.length).length : Nat) : Int) == 0 then 0 else c)
def tone_6 (xs : List Sn) (r : Int) (c : Int) : Nat := (bif (((plR xs r c xs.length).length : Nat) : Int) == 0 then 0 else (bif (((plR xs r c xs.length).length : Nat) : Int) == 1 then 1 else (plR xs r c xs.length).length))
set_option maxRecDepth 100000 in
set_option maxHeartbeats 1000000 in
theorem tone_c (v : Value) (xs : List Sn) (r c : Int) (hx : xs.length ≤ 1000) (bq0 : Objs) (hq0 : SqE eSn v xs bq0) : Con Try.prog 10 #[v, .int .i64 r, .int .i64 c] [.c bq0] [] (fun _ => []) (fun _ => .agg #[.int .i64 (tone_0 xs r c), .int .i64 (tone_1 xs r c), .int .i64 (tone_2 xs r c), .int .i64 (tone_3 xs r c), .int .i64 (tone_4 xs r c), .int .i64 (tone_5 xs r c), .int .i64 (((tone_6 xs r c) : Nat) : Int)]) := by
 refine Con.of (enters_of Try.func10 (by kernel_rfl) rfl) fun w cs HS HH OW => ?_
 refine (callsIn_wide (n := 6)).1 ?_
 refine callsIn_of_wp_marks Try.func10 rfl trivial ?_ rfl
 simp only [Try.ntmps10, eF, Nat.reduceAdd, Nat.reduceSub]
 gi_upto_region 0 with fail
 refine rg (fun q1 => [.m (al 1)]) (fun q1 L => L ++ [ob ((q1 0).blk 0) #[.int .i64 0, .int .i64 0, .int .i64 0, .int .i64 0, .int .i64 0, .int .i64 0, .int .i64 0] 41]) OW ?_
 clear OW; intro q1 _ Wq1 OW; simp only [↓pc, ↓pn, vE, Hint.val, Act.put, eL]
 gi_upto_region 1 with fail
 refine rg (fun q2 => [.v (.slice none 0 0)]) (fun _ L => L) OW ?_
 clear OW; intro q2 _ Wq2 OW; simp only [↓pc, ↓pn, vE, Hint.val, Act.put, eL]
 gi_upto_region 2 with fail
 refine rg (fun q3 => [.v (.int .i64 0)]) (fun _ L => L) OW ?_
 clear OW; intro q3 _ Wq3 OW; simp only [↓pc, ↓pn, vE, Hint.val, Act.put, eL]
 gi_wp2
 replace OW := Lib.hid (OW.out.nilS ePp [.int .i64 0, .int .i64 0, .int .i64 0, .int .i64 0] 35)
 gi_loopw [8, 7] (fun z8 z7 wr => ∃ k : Nat, ∃ vS7 : Value, k ≤ xs.length ∧ z8 = .int .i64 (k : Int) ∧ vS7 = z7 ∧ OwnE (ids cs.flatten) w [.c bq0, ob ((q1 0).blk 0) #[.int .i64 0, .int .i64 0, .int .i64 0, .int .i64 0, .int .i64 0, .int .i64 0, .int .i64 0] 41, slPr vS7 (plR xs r c k)] wr) (fun z8 z7 _ => xs.length - (intOf (z8)).toNat)
 case atStart => exact ⟨0, .slice none 0 0, by omega, rfl, rfl, (by skip; exact OwnE.cast OW.out (by kernel_rfl))⟩
 case round =>
  obtain ⟨k, vS7, hk5, rfl, rfl, hO⟩ := hrel
  clear OW
  have HPK := plR_le xs r c k
  have OW := Lib.hid hO
  clear hO
  gi_upto_region 3 with fail
  refine rg (fun q6 => [.v (.int .i64 (k : Int)),
   .v (v),
   .m (lenR 0 (.c bq0) (cP hq0.1)),
   .v (.bool (decide ((k : Int) < (xs.length : Int))))]) (fun _ L => L) OW ?_
  clear OW; intro q6 _ Wq6 OW; simp only [↓pc, ↓pn, vE, Hint.val, Act.put, eL]
  cases hB7 : (decide ((k : Int) < (xs.length : Int)))
  case true =>
   have dhB7 := of_decide_eq_true hB7
   gi_upto_region 5 with fail
   refine rg (fun q8 => [.v (v),
    .v (.int .i64 (k : Int)),
    .m (idxR 0 (.c bq0) k 5 (cP hq0.1) (by omega)),
    .m (fldR 0 (.c bq0) (k * 5) 0 (cP hq0.1) (by omega)),
    .m (fldR 0 (.c bq0) (k * 5 + 0) 0 (cP hq0.1) (by omega)),
    .m (ldR (u := .int .i64 ((xs.getD k zSn).x0)) (d := zSn) 0 (.c bq0) k 5 0 (cP hq0.1) (fun _ => rfl) (by omega) (Nat.le_of_ble_eq_true rfl) (by kernel_rfl)),
    .v (.int .i64 r),
    .v (.bool (((xs.getD k zSn).x0) != r)),
    .v (.bool (((xs.getD k zSn).x0) != r)),
    .v (v),
    .v (.int .i64 (k : Int)),
    .m (idxR 0 (.c bq0) k 5 (cP hq0.1) (by omega)),
    .m (fldR 0 (.c bq0) (k * 5) 4 (cP hq0.1) (by omega)),
    .m (ldR (u := .int .i64 ((xs.getD k zSn).x4)) (d := zSn) 0 (.c bq0) k 5 4 (cP hq0.1) (fun _ => rfl) (by omega) (Nat.le_of_ble_eq_true rfl) (by kernel_rfl)),
    .v (.int .i64 c),
    .v (.bool (((xs.getD k zSn).x4) != c)),
    .k (.bool ((((xs.getD k zSn).x0) != r) || (((xs.getD k zSn).x4) != c))),
    .v (.bool ((((xs.getD k zSn).x0) != r) || (((xs.getD k zSn).x4) != c)))]) (fun _ L => L) OW ?_
   clear OW; intro q8 _ Wq8 OW; simp only [↓pc, ↓pn, vE, Hint.val, Act.put, eL]
   gi_upto_region 6 with fail
   refine rg (fun q9 => [.v (.int .i64 0)]) (fun _ L => L) OW ?_
   clear OW; intro q9 _ Wq9 OW; simp only [↓pc, ↓pn, vE, Hint.val, Act.put, eL]
   gi_wp2
   gi_loopw [10, 9] (fun z10 z9 wr => ∃ j : Nat, j ≤ (plR xs r c k).length ∧ z10 = .int .i64 (j : Int) ∧ z9 = .bool (knS (plR xs r c k) (xs.getD k zSn) r c j) ∧ OwnE (ids cs.flatten) w [.c bq0, ob ((q1 0).blk 0) #[.int .i64 0, .int .i64 0, .int .i64 0, .int .i64 0, .int .i64 0, .int .i64 0, .int .i64 0] 41, slPr vS7 (plR xs r c k)] wr) (fun z10 z9 _ => (plR xs r c k).length - (intOf (z10)).toNat)
   case atStart => exact ⟨0, by omega, rfl, rfl, (by skip; exact OwnE.cast OW.out (by kernel_rfl))⟩
   case round =>
    obtain ⟨j, hk11, rfl, rfl, hO⟩ := hrel
    clear OW
    have OW := Lib.hid hO
    clear hO
    gi_upto_region 7 with fail
    refine rg (fun q12 => [.v (.int .i64 (j : Int)),
     .v (vS7),
     .m (lenS 2 (slPr vS7 (plR xs r c k)) (fun _ h => h)),
     .v (.bool (decide ((j : Int) < (((plR xs r c k).length : Nat) : Int))))]) (fun _ L => L) OW ?_
    clear OW; intro q12 _ Wq12 OW; simp only [↓pc, ↓pn, vE, Hint.val, Act.put, eL]
    cases hB13 : (decide ((j : Int) < (((plR xs r c k).length : Nat) : Int)))
    case true =>
     have dhB13 := of_decide_eq_true hB13
     gi_upto_region 9 with fail
     refine rg (fun q14 => [.v (.bool (knS (plR xs r c k) (xs.getD k zSn) r c j)),
      .v (.bool (knS (plR xs r c k) (xs.getD k zSn) r c j)),
      .v (vS7),
      .v (.int .i64 (j : Int)),
      .m (idxS 2 (slPr vS7 (plR xs r c k)) j 4 (fun _ h => h) (by omega)),
      .m (lsS (l := [.int .i64 (((plR xs r c k).getD j zPp).x0), .int .i64 (((plR xs r c k).getD j zPp).x1), .int .i64 (((plR xs r c k).getD j zPp).x2), .int .i64 (((plR xs r c k).getD j zPp).x3)]) (d := zPp) 2 (slPr vS7 (plR xs r c k)) j 4 0 (fun _ h => h) (fun _ => rfl) (by omega) (Nat.le_of_ble_eq_true rfl) (by kernel_rfl)),
      .v (v),
      .v (.int .i64 (k : Int)),
      .m (idxR 0 (.c bq0) k 5 (cP hq0.1) (by omega)),
      .m (fldR 0 (.c bq0) (k * 5) 0 (cP hq0.1) (by omega)),
      .m (lsR (l := [.int .i64 ((xs.getD k zSn).x0), .int .i64 ((xs.getD k zSn).x1), .int .i64 ((xs.getD k zSn).x2), .int .i64 ((xs.getD k zSn).x3)]) (d := zSn) 0 (.c bq0) k 5 0 (cP hq0.1) (fun _ => rfl) (by omega) (Nat.le_of_ble_eq_true rfl) (by kernel_rfl)),
      .t (tbT 35 fun _ _ _ => bin_eqT (xs := [.int .i64 (((plR xs r c k).getD j zPp).x0), .int .i64 (((plR xs r c k).getD j zPp).x1), .int .i64 (((plR xs r c k).getD j zPp).x2), .int .i64 (((plR xs r c k).getD j zPp).x3)]) (ys := [.int .i64 ((xs.getD k zSn).x0), .int .i64 ((xs.getD k zSn).x1), .int .i64 ((xs.getD k zSn).x2), .int .i64 ((xs.getD k zSn).x3)]) (by kernel_rfl) (show _ = ((((((plR xs r c k).getD j zPp).x0) == ((xs.getD k zSn).x0)) && (((((plR xs r c k).getD j zPp).x1) == ((xs.getD k zSn).x1)) && (((((plR xs r c k).getD j zPp).x2) == ((xs.getD k zSn).x2)) && ((((plR xs r c k).getD j zPp).x3) == ((xs.getD k zSn).x3))))) : Bool) from Eq.trans (b := ((((plR xs r c k).getD j zPp).x0) == ((xs.getD k zSn).x0) && ((((plR xs r c k).getD j zPp).x1) == ((xs.getD k zSn).x1) && ((((plR xs r c k).getD j zPp).x2) == ((xs.getD k zSn).x2) && ((((plR xs r c k).getD j zPp).x3) == ((xs.getD k zSn).x3) && true))))) (by rfl) (by simp only [Bool.and_true, beq_true, beq_false]))),
      .k (.bool ((knS (plR xs r c k) (xs.getD k zSn) r c j) || (((((plR xs r c k).getD j zPp).x0) == ((xs.getD k zSn).x0)) && (((((plR xs r c k).getD j zPp).x1) == ((xs.getD k zSn).x1)) && (((((plR xs r c k).getD j zPp).x2) == ((xs.getD k zSn).x2)) && ((((plR xs r c k).getD j zPp).x3) == ((xs.getD k zSn).x3))))))),
      .v (.bool ((knS (plR xs r c k) (xs.getD k zSn) r c j) || (((((plR xs r c k).getD j zPp).x0) == ((xs.getD k zSn).x0)) && (((((plR xs r c k).getD j zPp).x1) == ((xs.getD k zSn).x1)) && (((((plR xs r c k).getD j zPp).x2) == ((xs.getD k zSn).x2)) && ((((plR xs r c k).getD j zPp).x3) == ((xs.getD k zSn).x3)))))))]) (fun _ L => L) OW ?_
     clear OW; intro q14 _ Wq14 OW; simp only [↓pc, ↓pn, vE, Hint.val, Act.put, eL]
     gi_upto_region 8 with fail
     refine rg (fun q15 => [.v (.int .i64 (j : Int)),
      .t (tb (a := .int .i64 (j : Int)) (b := .int .i64 1) fun _ _ _ _ => bin_add_nat (a := j) (b := 1) (by omega)),
      .v (.int .i64 ((j + 1 : Nat) : Int))]) (fun _ L => L) OW ?_
     clear OW; intro q15 _ Wq15 OW; simp only [↓pc, ↓pn, vE, Hint.val, Act.put, eL]
     gi_wp2
     go_roundw
     case rel => exact ⟨j + 1, by omega, by go_num, rfl, (by skip; exact OwnE.pick OW.out [0, 1, 2] _ (by kernel_rfl))⟩
     case measure => (simp [intOf] <;> omega)
    have dhB13 := of_decide_eq_false hB13
    obtain rfl : j = (plR xs r c k).length := by omega
    gi_upto_region 10 with fail
    refine rg (fun q16 => [.v (.bool (knS (plR xs r c k) (xs.getD k zSn) r c ((plR xs r c k).length))),
     .v (.bool (!(knS (plR xs r c k) (xs.getD k zSn) r c ((plR xs r c k).length))))]) (fun _ L => L) OW ?_
    clear OW; intro q16 _ Wq16 OW; simp only [↓pc, ↓pn, vE, Hint.val, Act.put, eL]
    cases hB17 : (!(knS (plR xs r c k) (xs.getD k zSn) r c ((plR xs r c k).length)))
    case true =>
     gi_upto_region 11 with fail
     refine rg (fun q18 => [.v (vS7),
      .v (v),
      .v (.int .i64 (k : Int)),
      .m (idxR 0 (.c bq0) k 5 (cP hq0.1) (by omega)),
      .m (fldR 0 (.c bq0) (k * 5) 0 (cP hq0.1) (by omega)),
      .m (lsR (l := [.int .i64 ((xs.getD k zSn).x0), .int .i64 ((xs.getD k zSn).x1), .int .i64 ((xs.getD k zSn).x2), .int .i64 ((xs.getD k zSn).x3)]) (d := zSn) 0 (.c bq0) k 5 0 (cP hq0.1) (fun _ => rfl) (by omega) (Nat.le_of_ble_eq_true rfl) (by kernel_rfl)),
      .m (bs 3 1),
      .m (apB 2 3 slTPr (vS7) (xs := plR xs r c k) (ys := [(⟨((xs.getD k zSn).x0), ((xs.getD k zSn).x1), ((xs.getD k zSn).x2), ((xs.getD k zSn).x3)⟩ : Pp)]) h1Pr (fun _ => rfl) (by simp only [List.length_set, List.length_append, List.length_replicate, List.length_cons, List.length_nil, List.length_map, List.length_range, List.length_take, List.length_drop]; omega)),
      .v ((q18 7).val 0)]) (fun q18 L => L.set 2 (slPr ((q18 7).val 0) ((plR xs r c k) ++ ([(⟨((xs.getD k zSn).x0), ((xs.getD k zSn).x1), ((xs.getD k zSn).x2), ((xs.getD k zSn).x3)⟩ : Pp)]))) ++ [ob ((q18 6).blk 0) #[.int .i64 ((xs.getD k zSn).x0), .int .i64 ((xs.getD k zSn).x1), .int .i64 ((xs.getD k zSn).x2), .int .i64 ((xs.getD k zSn).x3)] 35]) OW ?_
     clear OW; intro q18 _ Wq18 OW; simp only [↓pc, ↓pn, vE, Hint.val, Act.put, eL]
     gi_upto_region 4 with fail
     refine rg (fun q19 => [.v (.int .i64 (k : Int)),
      .t (tb (a := .int .i64 (k : Int)) (b := .int .i64 1) fun _ _ _ _ => bin_add_nat (a := k) (b := 1) (by omega)),
      .v (.int .i64 ((k + 1 : Nat) : Int))]) (fun _ L => L) OW ?_
     clear OW; intro q19 _ Wq19 OW; simp only [↓pc, ↓pn, vE, Hint.val, Act.put, eL]
     gi_wp2
     go_roundw
     case rel => exact ⟨k + 1, (q18 7).val 0, by omega, by go_num, rfl, (by (first | rw [plR_t rfl (by assumption)] | rw [plR_f rfl (by assumption)]); exact OwnE.pick OW.out [0, 1, 2] _ (by kernel_rfl))⟩
     case measure => (simp [intOf] <;> omega)
    gi_upto_region 4 with fail
    refine rg (fun q20 => [.v (.int .i64 (k : Int)),
     .t (tb (a := .int .i64 (k : Int)) (b := .int .i64 1) fun _ _ _ _ => bin_add_nat (a := k) (b := 1) (by omega)),
     .v (.int .i64 ((k + 1 : Nat) : Int))]) (fun _ L => L) OW ?_
    clear OW; intro q20 _ Wq20 OW; simp only [↓pc, ↓pn, vE, Hint.val, Act.put, eL]
    gi_wp2
    go_roundw
    case rel => exact ⟨k + 1, vS7, by omega, by go_num, rfl, (by (first | rw [plR_t rfl (by assumption)] | rw [plR_f rfl (by assumption)]); exact OwnE.pick OW.out [0, 1, 2] _ (by kernel_rfl))⟩
    case measure => (simp [intOf] <;> omega)
  have dhB7 := of_decide_eq_false hB7
  obtain rfl : xs.length = k := by omega
  gi_upto_region 12 with fail
  have HPA := plR_le xs r c xs.length
  refine rg (fun q21 => [.v (vS7),
   .m (lenS 2 (slPr vS7 (plR xs r c xs.length)) (fun _ h => h)),
   .v (.bool ((((plR xs r c xs.length).length : Nat) : Int) == 0))]) (fun _ L => L) OW ?_
  clear OW; intro q21 _ Wq21 OW; simp only [↓pc, ↓pn, vE, Hint.val, Act.put, eL]
  cases hB22 : ((((plR xs r c xs.length).length : Nat) : Int) == 0)
  case true =>
   have dhB22 := Lib.hid (eq_of_beq hB22)
   gi_upto_region 13 with fail
   refine rg (fun q23 => [.v (.agg #[.int .i64 0, .int .i64 0, .int .i64 0, .int .i64 0, .int .i64 0, .int .i64 0, .int .i64 0]),
    .m (ss 1)]) (fun _ L => L) OW ?_
   clear OW; intro q23 _ Wq23 OW; simp only [↓pc, ↓pn, vE, Hint.val, Act.put, eL]
   gi_wp2
   exact leafE HS HH OW [.s ([.int .i64 0, .int .i64 0, .int .i64 0, .int .i64 0, .int .i64 0, .int .i64 0, .int .i64 0]) 1] Env.zero [] [(0, 0)] (by (try simp only [tone_0, tone_1, tone_2, tone_3, tone_4, tone_5, tone_6]); (repeat (first | rw [hB7] | rw [hB22] | rw [cond_true] | rw [cond_false])); first | rfl | kernel_rfl) (by kernel_rfl) (by (try simp only [tone_0, tone_1, tone_2, tone_3, tone_4, tone_5, tone_6]); (repeat (first | rw [hB7] | rw [hB22] | rw [cond_true] | rw [cond_false])); kernel_rfl)
  have dhB22 := ne_of_beq_false hB22
  gi_upto_region 14 with fail
  refine rg (fun q24 => [.v (vS7),
   .m (idxS 2 (slPr vS7 (plR xs r c xs.length)) 0 4 (fun _ h => h) (by omega)),
   .m (lsS (l := [.int .i64 (((plR xs r c xs.length).getD 0 zPp).x0), .int .i64 (((plR xs r c xs.length).getD 0 zPp).x1), .int .i64 (((plR xs r c xs.length).getD 0 zPp).x2), .int .i64 (((plR xs r c xs.length).getD 0 zPp).x3)]) (d := zPp) 2 (slPr vS7 (plR xs r c xs.length)) 0 4 0 (fun _ h => h) (fun _ => rfl) (by omega) (Nat.le_of_ble_eq_true rfl) (by kernel_rfl)),
   .m (al 3),
   .m (ss 3)]) (fun q24 L => L ++ [ob ((q24 3).blk 0) #[.int .i64 (((plR xs r c xs.length).getD 0 zPp).x0), .int .i64 (((plR xs r c xs.length).getD 0 zPp).x1), .int .i64 (((plR xs r c xs.length).getD 0 zPp).x2), .int .i64 (((plR xs r c xs.length).getD 0 zPp).x3)] 35]) OW ?_
  clear OW; intro q24 _ Wq24 OW; simp only [↓pc, ↓pn, vE, Hint.val, Act.put, eL]
  gi_upto_region 15 with fail
  refine rg (fun q25 => [.v (.bool true)]) (fun _ L => L) OW ?_
  clear OW; intro q25 _ Wq25 OW; simp only [↓pc, ↓pn, vE, Hint.val, Act.put, eL]
  gi_upto_region 16 with fail
  refine rg (fun q26 => [.v (.bool true)]) (fun _ L => L) OW ?_
  clear OW; intro q26 _ Wq26 OW; simp only [↓pc, ↓pn, vE, Hint.val, Act.put, eL]
  gi_upto_region 17 with fail
  refine rg (fun q27 => [.v (.int .i64 0)]) (fun _ L => L) OW ?_
  clear OW; intro q27 _ Wq27 OW; simp only [↓pc, ↓pn, vE, Hint.val, Act.put, eL]
  gi_wp2
  gi_loopw [14, 12, 13] (fun z14 z12 z13 wr => ∃ u : Nat, u ≤ (plR xs r c xs.length).length ∧ z14 = .int .i64 (u : Int) ∧ z12 = .bool (rb1 (plR xs r c xs.length) u) ∧ z13 = .bool (rb2 (plR xs r c xs.length) u) ∧ OwnE (ids cs.flatten) w [.c bq0, ob ((q1 0).blk 0) #[.int .i64 0, .int .i64 0, .int .i64 0, .int .i64 0, .int .i64 0, .int .i64 0, .int .i64 0] 41, slPr vS7 (plR xs r c xs.length), ob ((q24 3).blk 0) #[.int .i64 (((plR xs r c xs.length).getD 0 zPp).x0), .int .i64 (((plR xs r c xs.length).getD 0 zPp).x1), .int .i64 (((plR xs r c xs.length).getD 0 zPp).x2), .int .i64 (((plR xs r c xs.length).getD 0 zPp).x3)] 35] wr) (fun z14 z12 z13 _ => (plR xs r c xs.length).length - (intOf (z14)).toNat)
  case atStart => exact ⟨0, by omega, rfl, rfl, rfl, (by skip; exact OwnE.cast OW.out (by kernel_rfl))⟩
  case round =>
   obtain ⟨u, hk29, rfl, rfl, rfl, hO⟩ := hrel
   clear OW
   have OW := Lib.hid hO
   clear hO
   gi_upto_region 18 with fail
   refine rg (fun q30 => [.v (.int .i64 (u : Int)),
    .v (vS7),
    .m (lenS 2 (slPr vS7 (plR xs r c xs.length)) (fun _ h => h)),
    .v (.bool (decide ((u : Int) < (((plR xs r c xs.length).length : Nat) : Int))))]) (fun _ L => L) OW ?_
   clear OW; intro q30 _ Wq30 OW; simp only [↓pc, ↓pn, vE, Hint.val, Act.put, eL]
   cases hB31 : (decide ((u : Int) < (((plR xs r c xs.length).length : Nat) : Int)))
   case true =>
    have dhB31 := of_decide_eq_true hB31
    gi_upto_region 20 with fail
    refine rg (fun q32 => [.v (.bool (rb1 (plR xs r c xs.length) u)),
     .v (.bool (rb1 (plR xs r c xs.length) u)),
     .v (vS7),
     .v (.int .i64 (u : Int)),
     .m (idxS 2 (slPr vS7 (plR xs r c xs.length)) u 4 (fun _ h => h) (by omega)),
     .m (fldS 2 (slPr vS7 (plR xs r c xs.length)) (u * 4) 1 (fun _ h => h) (by omega)),
     .m (ldS (u := .int .i64 (((plR xs r c xs.length).getD u zPp).x1)) (d := zPp) 2 (slPr vS7 (plR xs r c xs.length)) u 4 1 (fun _ h => h) (fun _ => rfl) (by omega) (Nat.le_of_ble_eq_true rfl) (by kernel_rfl)),
     .v (.pointer (some ⟨(q24 3).blk 0, 1, none⟩)),
     .m (ld 3 (.int .i64 (((plR xs r c xs.length).getD 0 zPp).x1))),
     .v (.bool ((((plR xs r c xs.length).getD u zPp).x1) == (((plR xs r c xs.length).getD 0 zPp).x1))),
     .k (.bool ((rb1 (plR xs r c xs.length) u) && ((((plR xs r c xs.length).getD u zPp).x1) == (((plR xs r c xs.length).getD 0 zPp).x1)))),
     .v (.bool ((rb1 (plR xs r c xs.length) u) && ((((plR xs r c xs.length).getD u zPp).x1) == (((plR xs r c xs.length).getD 0 zPp).x1)))),
     .v (vS7),
     .v (.int .i64 (u : Int)),
     .m (idxS 2 (slPr vS7 (plR xs r c xs.length)) u 4 (fun _ h => h) (by omega)),
     .m (fldS 2 (slPr vS7 (plR xs r c xs.length)) (u * 4) 2 (fun _ h => h) (by omega)),
     .m (ldS (u := .int .i64 (((plR xs r c xs.length).getD u zPp).x2)) (d := zPp) 2 (slPr vS7 (plR xs r c xs.length)) u 4 2 (fun _ h => h) (fun _ => rfl) (by omega) (Nat.le_of_ble_eq_true rfl) (by kernel_rfl)),
     .v (.pointer (some ⟨(q24 3).blk 0, 2, none⟩)),
     .m (ld 3 (.int .i64 (((plR xs r c xs.length).getD 0 zPp).x2))),
     .v (.bool ((((plR xs r c xs.length).getD u zPp).x2) == (((plR xs r c xs.length).getD 0 zPp).x2))),
     .k (.bool (((rb1 (plR xs r c xs.length) u) && ((((plR xs r c xs.length).getD u zPp).x1) == (((plR xs r c xs.length).getD 0 zPp).x1))) && ((((plR xs r c xs.length).getD u zPp).x2) == (((plR xs r c xs.length).getD 0 zPp).x2)))),
     .v (.bool (((rb1 (plR xs r c xs.length) u) && ((((plR xs r c xs.length).getD u zPp).x1) == (((plR xs r c xs.length).getD 0 zPp).x1))) && ((((plR xs r c xs.length).getD u zPp).x2) == (((plR xs r c xs.length).getD 0 zPp).x2))))]) (fun _ L => L) OW ?_
    clear OW; intro q32 _ Wq32 OW; simp only [↓pc, ↓pn, vE, Hint.val, Act.put, eL]
    gi_upto_region 21 with fail
    refine rg (fun q33 => [.v (.bool (rb2 (plR xs r c xs.length) u)),
     .v (.bool (rb2 (plR xs r c xs.length) u)),
     .v (vS7),
     .v (.int .i64 (u : Int)),
     .m (idxS 2 (slPr vS7 (plR xs r c xs.length)) u 4 (fun _ h => h) (by omega)),
     .m (fldS 2 (slPr vS7 (plR xs r c xs.length)) (u * 4) 1 (fun _ h => h) (by omega)),
     .m (ldS (u := .int .i64 (((plR xs r c xs.length).getD u zPp).x1)) (d := zPp) 2 (slPr vS7 (plR xs r c xs.length)) u 4 1 (fun _ h => h) (fun _ => rfl) (by omega) (Nat.le_of_ble_eq_true rfl) (by kernel_rfl)),
     .v (.pointer (some ⟨(q24 3).blk 0, 1, none⟩)),
     .m (ld 3 (.int .i64 (((plR xs r c xs.length).getD 0 zPp).x1))),
     .v (.bool ((((plR xs r c xs.length).getD u zPp).x1) == (((plR xs r c xs.length).getD 0 zPp).x1))),
     .k (.bool ((rb2 (plR xs r c xs.length) u) && ((((plR xs r c xs.length).getD u zPp).x1) == (((plR xs r c xs.length).getD 0 zPp).x1)))),
     .v (.bool ((rb2 (plR xs r c xs.length) u) && ((((plR xs r c xs.length).getD u zPp).x1) == (((plR xs r c xs.length).getD 0 zPp).x1)))),
     .v (vS7),
     .v (.int .i64 (u : Int)),
     .m (idxS 2 (slPr vS7 (plR xs r c xs.length)) u 4 (fun _ h => h) (by omega)),
     .m (fldS 2 (slPr vS7 (plR xs r c xs.length)) (u * 4) 3 (fun _ h => h) (by omega)),
     .m (ldS (u := .int .i64 (((plR xs r c xs.length).getD u zPp).x3)) (d := zPp) 2 (slPr vS7 (plR xs r c xs.length)) u 4 3 (fun _ h => h) (fun _ => rfl) (by omega) (Nat.le_of_ble_eq_true rfl) (by kernel_rfl)),
     .v (.pointer (some ⟨(q24 3).blk 0, 3, none⟩)),
     .m (ld 3 (.int .i64 (((plR xs r c xs.length).getD 0 zPp).x3))),
     .v (.bool ((((plR xs r c xs.length).getD u zPp).x3) == (((plR xs r c xs.length).getD 0 zPp).x3))),
     .k (.bool (((rb2 (plR xs r c xs.length) u) && ((((plR xs r c xs.length).getD u zPp).x1) == (((plR xs r c xs.length).getD 0 zPp).x1))) && ((((plR xs r c xs.length).getD u zPp).x3) == (((plR xs r c xs.length).getD 0 zPp).x3)))),
     .v (.bool (((rb2 (plR xs r c xs.length) u) && ((((plR xs r c xs.length).getD u zPp).x1) == (((plR xs r c xs.length).getD 0 zPp).x1))) && ((((plR xs r c xs.length).getD u zPp).x3) == (((plR xs r c xs.length).getD 0 zPp).x3))))]) (fun _ L => L) OW ?_
    clear OW; intro q33 _ Wq33 OW; simp only [↓pc, ↓pn, vE, Hint.val, Act.put, eL]
    gi_upto_region 19 with fail
    refine rg (fun q34 => [.v (.int .i64 (u : Int)),
     .t (tb (a := .int .i64 (u : Int)) (b := .int .i64 1) fun _ _ _ _ => bin_add_nat (a := u) (b := 1) (by omega)),
     .v (.int .i64 ((u + 1 : Nat) : Int))]) (fun _ L => L) OW ?_
    clear OW; intro q34 _ Wq34 OW; simp only [↓pc, ↓pn, vE, Hint.val, Act.put, eL]
    gi_wp2
    go_roundw
    case rel => exact ⟨u + 1, by omega, by go_num, rfl, rfl, (by skip; exact OwnE.pick OW.out [0, 1, 2, 3] _ (by kernel_rfl))⟩
    case measure => (simp [intOf] <;> omega)
   have dhB31 := of_decide_eq_false hB31
   obtain rfl : u = (plR xs r c xs.length).length := by omega
   gi_upto_region 22 with fail
   refine rg (fun q35 => [.v (vS7),
    .m (lenS 2 (slPr vS7 (plR xs r c xs.length)) (fun _ h => h)),
    .v (.bool ((((plR xs r c xs.length).length : Nat) : Int) == 1))]) (fun _ L => L) OW ?_
   clear OW; intro q35 _ Wq35 OW; simp only [↓pc, ↓pn, vE, Hint.val, Act.put, eL]
   cases hB36 : ((((plR xs r c xs.length).length : Nat) : Int) == 1)
   case true =>
    have dhB36 := Lib.hid (eq_of_beq hB36)
    gi_upto_region 23 with fail
    refine rg (fun q37 => [.m (ls 3 ([.int .i64 (((plR xs r c xs.length).getD 0 zPp).x0), .int .i64 (((plR xs r c xs.length).getD 0 zPp).x1), .int .i64 (((plR xs r c xs.length).getD 0 zPp).x2), .int .i64 (((plR xs r c xs.length).getD 0 zPp).x3)])),
     .v (.int .i64 c),
     .v (.agg #[.int .i64 1, .int .i64 (((plR xs r c xs.length).getD 0 zPp).x0), .int .i64 (((plR xs r c xs.length).getD 0 zPp).x1), .int .i64 (((plR xs r c xs.length).getD 0 zPp).x2), .int .i64 (((plR xs r c xs.length).getD 0 zPp).x3), .int .i64 c, .int .i64 1]),
     .m (ss 1)]) (fun q37 L => L.set 1 (ob ((q1 0).blk 0) #[.int .i64 1, .int .i64 (((plR xs r c xs.length).getD 0 zPp).x0), .int .i64 (((plR xs r c xs.length).getD 0 zPp).x1), .int .i64 (((plR xs r c xs.length).getD 0 zPp).x2), .int .i64 (((plR xs r c xs.length).getD 0 zPp).x3), .int .i64 c, .int .i64 1] 41)) OW ?_
    clear OW; intro q37 _ Wq37 OW; simp only [↓pc, ↓pn, vE, Hint.val, Act.put, eL]
    gi_wp2
    exact leafE HS HH OW [.s ([.int .i64 1, .int .i64 (((plR xs r c xs.length).getD 0 zPp).x0), .int .i64 (((plR xs r c xs.length).getD 0 zPp).x1), .int .i64 (((plR xs r c xs.length).getD 0 zPp).x2), .int .i64 (((plR xs r c xs.length).getD 0 zPp).x3), .int .i64 c, .int .i64 1]) 1] Env.zero [] [(0, 0)] (by (try simp only [tone_0, tone_1, tone_2, tone_3, tone_4, tone_5, tone_6]); (repeat (first | rw [hB7] | rw [hB22] | rw [hB31] | rw [hB36] | rw [cond_true] | rw [cond_false])); first | rfl | kernel_rfl) (by kernel_rfl) (by (try simp only [tone_0, tone_1, tone_2, tone_3, tone_4, tone_5, tone_6]); (repeat (first | rw [hB7] | rw [hB22] | rw [hB31] | rw [hB36] | rw [cond_true] | rw [cond_false])); kernel_rfl)
   have dhB36 := ne_of_beq_false hB36
   gi_upto_region 24 with fail
   refine rg (fun q38 => [.v (.bool (rb1 (plR xs r c xs.length) ((plR xs r c xs.length).length)))]) (fun _ L => L) OW ?_
   clear OW; intro q38 _ Wq38 OW; simp only [↓pc, ↓pn, vE, Hint.val, Act.put, eL]
   cases hB39 : (rb1 (plR xs r c xs.length) ((plR xs r c xs.length).length))
   case true =>
    gi_upto_region 25 with fail
    refine rg (fun q40 => [.v (.int .i64 r),
     .v (.pointer (some ⟨(q24 3).blk 0, 1, none⟩)),
     .m (ld 3 (.int .i64 (((plR xs r c xs.length).getD 0 zPp).x1))),
     .v (.pointer (some ⟨(q24 3).blk 0, 2, none⟩)),
     .m (ld 3 (.int .i64 (((plR xs r c xs.length).getD 0 zPp).x2))),
     .v (.agg #[.int .i64 r, .int .i64 (((plR xs r c xs.length).getD 0 zPp).x1), .int .i64 (((plR xs r c xs.length).getD 0 zPp).x2), .int .i64 0]),
     .v (.int .i64 c),
     .v (vS7),
     .m (lenS 2 (slPr vS7 (plR xs r c xs.length)) (fun _ h => h)),
     .v (.agg #[.int .i64 2, .int .i64 r, .int .i64 (((plR xs r c xs.length).getD 0 zPp).x1), .int .i64 (((plR xs r c xs.length).getD 0 zPp).x2), .int .i64 0, .int .i64 c, .int .i64 (((plR xs r c xs.length).length : Nat) : Int)]),
     .m (ss 1)]) (fun q40 L => L.set 1 (ob ((q1 0).blk 0) #[.int .i64 2, .int .i64 r, .int .i64 (((plR xs r c xs.length).getD 0 zPp).x1), .int .i64 (((plR xs r c xs.length).getD 0 zPp).x2), .int .i64 0, .int .i64 c, .int .i64 (((plR xs r c xs.length).length : Nat) : Int)] 41)) OW ?_
    clear OW; intro q40 _ Wq40 OW; simp only [↓pc, ↓pn, vE, Hint.val, Act.put, eL]
    gi_wp2
    exact leafE HS HH OW [.s ([.int .i64 2, .int .i64 r, .int .i64 (((plR xs r c xs.length).getD 0 zPp).x1), .int .i64 (((plR xs r c xs.length).getD 0 zPp).x2), .int .i64 0, .int .i64 c, .int .i64 (((plR xs r c xs.length).length : Nat) : Int)]) 1] Env.zero [] [(0, 0)] (by (try simp only [tone_0, tone_1, tone_2, tone_3, tone_4, tone_5, tone_6]); (repeat (first | rw [hB7] | rw [hB22] | rw [hB31] | rw [hB36] | rw [hB39] | rw [cond_true] | rw [cond_false])); first | rfl | kernel_rfl) (by kernel_rfl) (by (try simp only [tone_0, tone_1, tone_2, tone_3, tone_4, tone_5, tone_6]); (repeat (first | rw [hB7] | rw [hB22] | rw [hB31] | rw [hB36] | rw [hB39] | rw [cond_true] | rw [cond_false])); kernel_rfl)
   gi_upto_region 26 with fail
   refine rg (fun q41 => [.v (.bool (rb2 (plR xs r c xs.length) ((plR xs r c xs.length).length)))]) (fun _ L => L) OW ?_
   clear OW; intro q41 _ Wq41 OW; simp only [↓pc, ↓pn, vE, Hint.val, Act.put, eL]
   cases hB42 : (rb2 (plR xs r c xs.length) ((plR xs r c xs.length).length))
   case true =>
    gi_upto_region 27 with fail
    refine rg (fun q43 => [.v (.int .i64 r),
     .v (.pointer (some ⟨(q24 3).blk 0, 1, none⟩)),
     .m (ld 3 (.int .i64 (((plR xs r c xs.length).getD 0 zPp).x1))),
     .v (.pointer (some ⟨(q24 3).blk 0, 3, none⟩)),
     .m (ld 3 (.int .i64 (((plR xs r c xs.length).getD 0 zPp).x3))),
     .v (.agg #[.int .i64 r, .int .i64 (((plR xs r c xs.length).getD 0 zPp).x1), .int .i64 0, .int .i64 (((plR xs r c xs.length).getD 0 zPp).x3)]),
     .v (.int .i64 c),
     .v (vS7),
     .m (lenS 2 (slPr vS7 (plR xs r c xs.length)) (fun _ h => h)),
     .v (.agg #[.int .i64 3, .int .i64 r, .int .i64 (((plR xs r c xs.length).getD 0 zPp).x1), .int .i64 0, .int .i64 (((plR xs r c xs.length).getD 0 zPp).x3), .int .i64 c, .int .i64 (((plR xs r c xs.length).length : Nat) : Int)]),
     .m (ss 1)]) (fun q43 L => L.set 1 (ob ((q1 0).blk 0) #[.int .i64 3, .int .i64 r, .int .i64 (((plR xs r c xs.length).getD 0 zPp).x1), .int .i64 0, .int .i64 (((plR xs r c xs.length).getD 0 zPp).x3), .int .i64 c, .int .i64 (((plR xs r c xs.length).length : Nat) : Int)] 41)) OW ?_
    clear OW; intro q43 _ Wq43 OW; simp only [↓pc, ↓pn, vE, Hint.val, Act.put, eL]
    gi_wp2
    exact leafE HS HH OW [.s ([.int .i64 3, .int .i64 r, .int .i64 (((plR xs r c xs.length).getD 0 zPp).x1), .int .i64 0, .int .i64 (((plR xs r c xs.length).getD 0 zPp).x3), .int .i64 c, .int .i64 (((plR xs r c xs.length).length : Nat) : Int)]) 1] Env.zero [] [(0, 0)] (by (try simp only [tone_0, tone_1, tone_2, tone_3, tone_4, tone_5, tone_6]); (repeat (first | rw [hB7] | rw [hB22] | rw [hB31] | rw [hB36] | rw [hB39] | rw [hB42] | rw [cond_true] | rw [cond_false])); first | rfl | kernel_rfl) (by kernel_rfl) (by (try simp only [tone_0, tone_1, tone_2, tone_3, tone_4, tone_5, tone_6]); (repeat (first | rw [hB7] | rw [hB22] | rw [hB31] | rw [hB36] | rw [hB39] | rw [hB42] | rw [cond_true] | rw [cond_false])); kernel_rfl)
   gi_upto_region 28 with fail
   refine rg (fun q44 => [.v (.int .i64 r),
    .v (.agg #[.int .i64 r, .int .i64 0, .int .i64 0, .int .i64 0]),
    .v (.int .i64 c),
    .v (vS7),
    .m (lenS 2 (slPr vS7 (plR xs r c xs.length)) (fun _ h => h)),
    .v (.agg #[.int .i64 4, .int .i64 r, .int .i64 0, .int .i64 0, .int .i64 0, .int .i64 c, .int .i64 (((plR xs r c xs.length).length : Nat) : Int)]),
    .m (ss 1)]) (fun q44 L => L.set 1 (ob ((q1 0).blk 0) #[.int .i64 4, .int .i64 r, .int .i64 0, .int .i64 0, .int .i64 0, .int .i64 c, .int .i64 (((plR xs r c xs.length).length : Nat) : Int)] 41)) OW ?_
   clear OW; intro q44 _ Wq44 OW; simp only [↓pc, ↓pn, vE, Hint.val, Act.put, eL]
   gi_wp2
   exact leafE HS HH OW [.s ([.int .i64 4, .int .i64 r, .int .i64 0, .int .i64 0, .int .i64 0, .int .i64 c, .int .i64 (((plR xs r c xs.length).length : Nat) : Int)]) 1] Env.zero [] [(0, 0)] (by (try simp only [tone_0, tone_1, tone_2, tone_3, tone_4, tone_5, tone_6]); (repeat (first | rw [hB7] | rw [hB22] | rw [hB31] | rw [hB36] | rw [hB39] | rw [hB42] | rw [cond_true] | rw [cond_false])); first | rfl | kernel_rfl) (by kernel_rfl) (by (try simp only [tone_0, tone_1, tone_2, tone_3, tone_4, tone_5, tone_6]); (repeat (first | rw [hB7] | rw [hB22] | rw [hB31] | rw [hB36] | rw [hB39] | rw [hB42] | rw [cond_true] | rw [cond_false])); kernel_rfl)
theorem tone (v : Value) (xs : List Sn) (r c : Int) (hx : xs.length ≤ 1000) : Con Try.prog 10 #[v, .int .i64 r, .int .i64 c] [.p (SqE eSn v xs)] [] (fun _ => []) (fun _ => .agg #[.int .i64 (tone_0 xs r c), .int .i64 (tone_1 xs r c), .int .i64 (tone_2 xs r c), .int .i64 (tone_3 xs r c), .int .i64 (tone_4 xs r c), .int .i64 (tone_5 xs r c), .int .i64 (((tone_6 xs r c) : Nat) : Int)]) :=
 Con.ro 0 rfl (fun bq0 hq0 => tone_c v xs r c hx bq0 hq0) (enters_of Try.func10 (by kernel_rfl) rfl)
end Go.Proofs.Ytdglhppcfdpcaaa.E
