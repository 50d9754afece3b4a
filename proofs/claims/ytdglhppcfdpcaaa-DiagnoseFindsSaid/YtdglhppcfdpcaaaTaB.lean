/- Seen: its key; comparing. -/
import Derived.Test.YtdglhppcfdpcaaaSoL
import Derived.Test.YtdglhppcfdpcaaaSoB
import Derived.WalkKit
import Derived.Sort.CutIn
import Derived.IntWalk
namespace Go.Proofs.Ytdglhppcfdpcaaa.E
open Go Go.RowKit Go.Shelf
attribute [local go_sem] Oper.semAt_some
set_option linter.unusedVariables false
set_option linter.unusedSimpArgs false

/-- What was seen: a place and bits. -/
structure Sn where
  x0 : Int
  x1 : Int
  x2 : Int
  x3 : Int
  x4 : Int
def zSn : Sn := ⟨0, 0, 0, 0, 0⟩
def eSn (x : Sn) : List Value := [.int .i64 x.x0, .int .i64 x.x1, .int .i64 x.x2, .int .i64 x.x3, .int .i64 x.x4]
theorem slTSn : SlT Try.prog 29 34 [.int .i64 0, .int .i64 0, .int .i64 0, .int .i64 0, .int .i64 0] := SlT.mk' (by kernel_rfl) (by kernel_rfl) rfl
abbrev slSn (v : Value) (xs : List Sn) : Ent := .p (SlE eSn [.int .i64 0, .int .i64 0, .int .i64 0, .int .i64 0, .int .i64 0] 34 v xs)
/-- The key of what was seen: any function of its chip and its bits serves. -/
def kSn (a b : Int) : Int := bits .or .i64 (IntKind.i64.wrap (a * 256)) b
set_option maxRecDepth 100000 in
set_option maxHeartbeats 1000000 in
theorem twho (a0 a1 a2 a3 a4 : Int) : Con Try.prog 24 #[.agg #[.int .i64 a0, .int .i64 a1, .int .i64 a2, .int .i64 a3, .int .i64 a4]] [] [] (fun _ => []) (fun _ => .int .i64 (kSn a0 a4)) := by
 refine Con.of (enters_of Try.func24 (by kernel_rfl) rfl) fun w cs HS HH OW => ?_
 refine (callsIn_wide (n := 6)).1 ?_
 refine callsIn_of_wp_marks Try.func24 rfl trivial ?_ rfl
 simp only [Try.ntmps24, eF, Nat.reduceAdd, Nat.reduceSub]
 gi_upto_region 0 with fail
 refine rg (fun q1 => [.m (bx 0),
  .v (.int .i64 0)]) (fun q1 L => L ++ [ob ((q1 0).blk 0) #[.int .i64 a0, .int .i64 a1, .int .i64 a2, .int .i64 a3, .int .i64 a4] 34]) OW ?_
 clear OW; intro q1 _ Wq1 OW; simp only [↓pc, ↓pn, vE, Hint.val, Act.put, eL]
 gi_upto_region 1 with fail
 refine rg (fun q2 => [.v (.pointer (some ⟨(q1 0).blk 0, 0, none⟩)),
  .v (.pointer (some ⟨(q1 0).blk 0, 0, none⟩)),
  .m (ld 0 (.int .i64 a0)),
  .t (tv (sBin .shl 3 (.tmp 5) (.const (.int .u64 8)) (.int .i64 a0) (.int .u64 8)) (fun _ => rfl)),
  .v (.pointer (some ⟨(q1 0).blk 0, 4, none⟩)),
  .m (ld 0 (.int .i64 a4)),
  .t (tv (sBin .or 3 (.tmp 6) (.tmp 8) (.int .i64 (IntKind.i64.wrap (a0 * 256))) (.int .i64 a4)) (fun _ => rfl)),
  .v (.int .i64 (kSn a0 a4))]) (fun _ L => L) OW ?_
 clear OW; intro q2 _ Wq2 OW; simp only [↓pc, ↓pn, vE, Hint.val, Act.put, eL]
 gi_wp2
 exact leafE HS HH OW [.t (.int .i64 (kSn a0 a4))] Env.zero [] [] rfl
theorem h1Sn : ∀ y, ∀ u ∈ eSn y, u.oneCell' = true := fun y u hu => by
  simp only [eSn, List.mem_cons, List.not_mem_nil, or_false] at hu
  rcases hu with rfl | rfl | rfl | rfl | rfl <;> rfl
attribute [local irreducible] kcmp_0 kSn
set_option maxRecDepth 100000 in
set_option maxHeartbeats 1000000 in
theorem tclo (a0 a1 a2 a3 a4 b0 b1 b2 b3 b4 : Int) (g : Nat) : Con Try.prog 52 #[.agg #[.int .i64 a0, .int .i64 a1, .int .i64 a2, .int .i64 a3, .int .i64 a4], .agg #[.int .i64 b0, .int .i64 b1, .int .i64 b2, .int .i64 b3, .int .i64 b4], .pointer (some ⟨g, 0, none⟩)] [ob g #[.func (.func 24) #[] #[]] 70] [] (fun _ => []) (fun _ => .int .i64 (kcmp_0 (kSn a0 a4) (kSn b0 b4))) := by
 refine Con.of (enters_of Try.func52 (by kernel_rfl) rfl) fun w cs HS HH OW => ?_
 refine (callsIn_wide (n := 6)).1 ?_
 refine callsIn_of_wp_marks Try.func52 rfl trivial ?_ rfl
 simp only [Try.ntmps52, eF, Nat.reduceAdd, Nat.reduceSub]
 gi_upto_region 0 with fail
 refine rg (fun q1 => [.m (bx 1),
  .m (bx 2),
  .v (.int .i64 0)]) (fun q1 L => L ++ [ob ((q1 0).blk 0) #[.int .i64 a0, .int .i64 a1, .int .i64 a2, .int .i64 a3, .int .i64 a4] 34, ob ((q1 1).blk 0) #[.int .i64 b0, .int .i64 b1, .int .i64 b2, .int .i64 b3, .int .i64 b4] 34]) OW ?_
 clear OW; intro q1 _ Wq1 OW; simp only [↓pc, ↓pn, vE, Hint.val, Act.put, eL]
 gi_upto_region 1 with fail
 refine rg (fun q2 => [.m (ld 0 (.func (.func 24) #[] #[])),
  .m (ls 1 ([.int .i64 a0, .int .i64 a1, .int .i64 a2, .int .i64 a3, .int .i64 a4])),
  .c [] [] (twho a0 a1 a2 a3 a4),
  .m (ld 0 (.func (.func 24) #[] #[])),
  .m (ls 2 ([.int .i64 b0, .int .i64 b1, .int .i64 b2, .int .i64 b3, .int .i64 b4])),
  .c [] [] (twho b0 b1 b2 b3 b4),
  .c [] [] (kcmp (kSn a0 a4) (kSn b0 b4)),
  .v (.int .i64 (kcmp_0 (kSn a0 a4) (kSn b0 b4)))]) (fun _ L => L) OW ?_
 clear OW; intro q2 _ Wq2 OW; simp only [↓pc, ↓pn, vE, Hint.val, Act.put, eL]
 gi_wp2
 exact leafE HS HH OW [.t (.int .i64 (kcmp_0 (kSn a0 a4) (kSn b0 b4)))] Env.zero [] [(0, 0)] rfl
set_option maxRecDepth 100000 in
set_option maxHeartbeats 1000000 in
theorem tosw (v w4 : Value) (xs : List Sn) (a b n : Nat) (h1 : a + n ≤ b) (h2 : b + n ≤ xs.length) (h3 : xs.length ≤ 1000000) : Con Try.prog 108 #[v, .int .i64 (a : Int), .int .i64 (b : Int), .int .i64 (n : Int), w4] [slSn v xs] [0] (fun _ => [slSn v (So.swR zSn xs a b n)]) (fun _ => .tuple #[]) := by
 refine Con.of (enters_of Try.func108 (by kernel_rfl) rfl) fun w cs HS HH OW => ?_
 have HSL := fun k => Nat.le_of_eq (So.swR_len zSn xs a b k)
 have HSM := fun k => Nat.le_of_eq (So.swR_len zSn xs a b k).symm
 refine (callsIn_wide (n := 6)).1 ?_
 refine callsIn_of_wp_marks Try.func108 rfl trivial ?_ rfl
 simp only [Try.ntmps108, eF, Nat.reduceAdd, Nat.reduceSub]
 gi_upto_region 0 with fail
 refine rg (fun q1 => [.v (.int .i64 0)]) (fun _ L => L) OW ?_
 clear OW; intro q1 _ Wq1 OW; simp only [↓pc, ↓pn, vE, Hint.val, Act.put, eL]
 gi_wp2
 gi_loopw [10] (fun z10 wr => ∃ k : Nat, k ≤ n ∧ z10 = .int .i64 (k : Int) ∧ OwnE (ids cs.flatten) w [slSn v (So.swR zSn xs a b k)] wr) (fun z10 _ => n - (intOf (z10)).toNat)
 case atStart => exact ⟨0, by omega, rfl, (by rw [So.swR]; exact OwnE.cast OW.out (by kernel_rfl))⟩
 case round =>
  obtain ⟨k, hk3, rfl, hO⟩ := hrel
  clear OW
  have HS1 := HSL k
  have HS2 := HSM k
  have OW := Lib.hid hO
  clear hO
  gi_upto_region 1 with fail
  refine rg (fun q4 => [.v (.int .i64 (k : Int)),
   .v (.int .i64 (n : Int)),
   .v (.bool (decide ((k : Int) < (n : Int))))]) (fun _ L => L) OW ?_
  clear OW; intro q4 _ Wq4 OW; simp only [↓pc, ↓pn, vE, Hint.val, Act.put, eL]
  cases hB5 : (decide ((k : Int) < (n : Int)))
  case true =>
   have dhB5 := of_decide_eq_true hB5
   gi_upto_region 3 with fail
   refine rg (fun q6 => [.v (v),
    .v (.int .i64 (a : Int)),
    .v (.int .i64 (k : Int)),
    .t (tb (a := .int .i64 (a : Int)) (b := .int .i64 (k : Int)) fun _ _ _ _ => bin_add_nat (a := a) (b := k) (by first | omega | (simp only [List.length_set]; omega))),
    .v (v),
    .v (.int .i64 (b : Int)),
    .v (.int .i64 (k : Int)),
    .t (tb (a := .int .i64 (b : Int)) (b := .int .i64 (k : Int)) fun _ _ _ _ => bin_add_nat (a := b) (b := k) (by first | omega | (simp only [List.length_set]; omega))),
    .v (v),
    .v (.int .i64 (b : Int)),
    .v (.int .i64 (k : Int)),
    .t (tb (a := .int .i64 (b : Int)) (b := .int .i64 (k : Int)) fun _ _ _ _ => bin_add_nat (a := b) (b := k) (by first | omega | (simp only [List.length_set]; omega))),
    .m (idxS 0 (slSn v (So.swR zSn xs a b k)) (b + k) 5 (fun _ h => h) (by first | omega | (simp only [List.length_set]; omega))),
    .m (lsS (l := [.int .i64 (((So.swR zSn xs a b k).getD (b + k) zSn).x0), .int .i64 (((So.swR zSn xs a b k).getD (b + k) zSn).x1), .int .i64 (((So.swR zSn xs a b k).getD (b + k) zSn).x2), .int .i64 (((So.swR zSn xs a b k).getD (b + k) zSn).x3), .int .i64 (((So.swR zSn xs a b k).getD (b + k) zSn).x4)]) (d := zSn) 0 (slSn v (So.swR zSn xs a b k)) (b + k) 5 0 (fun _ h => h) (fun _ => rfl) (by first | omega | (simp only [List.length_set]; omega)) (Nat.le_of_ble_eq_true rfl) (by kernel_rfl)),
    .v (v),
    .v (.int .i64 (a : Int)),
    .v (.int .i64 (k : Int)),
    .t (tb (a := .int .i64 (a : Int)) (b := .int .i64 (k : Int)) fun _ _ _ _ => bin_add_nat (a := a) (b := k) (by first | omega | (simp only [List.length_set]; omega))),
    .m (idxS 0 (slSn v (So.swR zSn xs a b k)) (a + k) 5 (fun _ h => h) (by first | omega | (simp only [List.length_set]; omega))),
    .m (lsS (l := [.int .i64 (((So.swR zSn xs a b k).getD (a + k) zSn).x0), .int .i64 (((So.swR zSn xs a b k).getD (a + k) zSn).x1), .int .i64 (((So.swR zSn xs a b k).getD (a + k) zSn).x2), .int .i64 (((So.swR zSn xs a b k).getD (a + k) zSn).x3), .int .i64 (((So.swR zSn xs a b k).getD (a + k) zSn).x4)]) (d := zSn) 0 (slSn v (So.swR zSn xs a b k)) (a + k) 5 0 (fun _ h => h) (fun _ => rfl) (by first | omega | (simp only [List.length_set]; omega)) (Nat.le_of_ble_eq_true rfl) (by kernel_rfl)),
    .m (idxS 0 (slSn v (So.swR zSn xs a b k)) (a + k) 5 (fun _ h => h) (by first | omega | (simp only [List.length_set]; omega))),
    .m (ssS (T := 34) (v := v) (xs := So.swR zSn xs a b k) (en := eSn) (z := [.int .i64 0, .int .i64 0, .int .i64 0, .int .i64 0, .int .i64 0]) 0 (a + k) 5 (⟨(((So.swR zSn xs a b k).getD (b + k) zSn).x0), (((So.swR zSn xs a b k).getD (b + k) zSn).x1), (((So.swR zSn xs a b k).getD (b + k) zSn).x2), (((So.swR zSn xs a b k).getD (b + k) zSn).x3), (((So.swR zSn xs a b k).getD (b + k) zSn).x4)⟩ : Sn) (fun _ => rfl) (by first | omega | (simp only [List.length_set]; omega))),
    .m (idxS 0 (slSn v ((So.swR zSn xs a b k).set (a + k) (⟨(((So.swR zSn xs a b k).getD (b + k) zSn).x0), (((So.swR zSn xs a b k).getD (b + k) zSn).x1), (((So.swR zSn xs a b k).getD (b + k) zSn).x2), (((So.swR zSn xs a b k).getD (b + k) zSn).x3), (((So.swR zSn xs a b k).getD (b + k) zSn).x4)⟩ : Sn))) (b + k) 5 (fun _ h => h) (by first | omega | (simp only [List.length_set]; omega))),
    .m (ssS (T := 34) (v := v) (xs := (So.swR zSn xs a b k).set (a + k) (⟨(((So.swR zSn xs a b k).getD (b + k) zSn).x0), (((So.swR zSn xs a b k).getD (b + k) zSn).x1), (((So.swR zSn xs a b k).getD (b + k) zSn).x2), (((So.swR zSn xs a b k).getD (b + k) zSn).x3), (((So.swR zSn xs a b k).getD (b + k) zSn).x4)⟩ : Sn)) (en := eSn) (z := [.int .i64 0, .int .i64 0, .int .i64 0, .int .i64 0, .int .i64 0]) 0 (b + k) 5 (⟨(((So.swR zSn xs a b k).getD (a + k) zSn).x0), (((So.swR zSn xs a b k).getD (a + k) zSn).x1), (((So.swR zSn xs a b k).getD (a + k) zSn).x2), (((So.swR zSn xs a b k).getD (a + k) zSn).x3), (((So.swR zSn xs a b k).getD (a + k) zSn).x4)⟩ : Sn) (fun _ => rfl) (by first | omega | (simp only [List.length_set]; omega)))]) (fun q6 L => L.set 0 (slSn v (((So.swR zSn xs a b k).set (a + k) (⟨(((So.swR zSn xs a b k).getD (b + k) zSn).x0), (((So.swR zSn xs a b k).getD (b + k) zSn).x1), (((So.swR zSn xs a b k).getD (b + k) zSn).x2), (((So.swR zSn xs a b k).getD (b + k) zSn).x3), (((So.swR zSn xs a b k).getD (b + k) zSn).x4)⟩ : Sn)).set (b + k) (⟨(((So.swR zSn xs a b k).getD (a + k) zSn).x0), (((So.swR zSn xs a b k).getD (a + k) zSn).x1), (((So.swR zSn xs a b k).getD (a + k) zSn).x2), (((So.swR zSn xs a b k).getD (a + k) zSn).x3), (((So.swR zSn xs a b k).getD (a + k) zSn).x4)⟩ : Sn)))) OW ?_
   clear OW; intro q6 _ Wq6 OW; simp only [↓pc, ↓pn, vE, Hint.val, Act.put, eL]
   gi_upto_region 2 with fail
   refine rg (fun q7 => [.v (.int .i64 (k : Int)),
    .t (tb (a := .int .i64 (k : Int)) (b := .int .i64 1) fun _ _ _ _ => bin_add_nat (a := k) (b := 1) (by first | omega | (simp only [List.length_set]; omega))),
    .v (.int .i64 ((k + 1 : Nat) : Int))]) (fun _ L => L) OW ?_
   clear OW; intro q7 _ Wq7 OW; simp only [↓pc, ↓pn, vE, Hint.val, Act.put, eL]
   gi_wp2
   go_roundw
   case rel => exact ⟨k + 1, by omega, by go_num, (by rw [So.swR]; exact OwnE.pick OW.out [0] _ (by kernel_rfl))⟩
   case measure => (simp [intOf] <;> omega)
  have dhB5 := of_decide_eq_false hB5
  obtain rfl : n = k := by omega
  gi_wp2
  exact leafE HS HH OW [] Env.zero [0] [] rfl
end Go.Proofs.Ytdglhppcfdpcaaa.E
