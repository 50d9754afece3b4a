/- The anchor of cuirasslaw27; DiagnoseGroups. -/
import Derived.Test.YtdglhppcfdpcaaaTaP
import Derived.WalkKit
import Derived.Sort.CutIn
import Derived.IntWalk
namespace Go.Proofs.Ytdglhppcfdpcaaa.E
open Go Go.RowKit Go.Shelf
attribute [local go_sem] Oper.semAt_some
set_option linter.unusedVariables false
set_option linter.unusedSimpArgs false

def an1 : Sn := ⟨0, 0, 1, 0, 5⟩
def an2 : Sn := ⟨0, 0, 1, 3, 5⟩
theorem an_srt : So.srt kS [an1, an2] = [an1, an2] := by
  refine (So.srt_eq (So.St.refl _) ?_).symm
  refine List.Pairwise.cons (fun y hy => ?_) (List.pairwise_singleton _ _)
  obtain rfl := List.mem_singleton.1 hy
  exact Int.le_of_eq rfl
def anF : List Fg := [⟨2, 0, 0, 1, 0, 5, 2⟩]
theorem an_val : fnS (So.grp kS (So.srt kS [an1, an2])) (So.grp kS (So.srt kS [an1, an2])).length = anF := by
  rw [an_srt]
  rfl
theorem tfindL (g : Nat) : Con Try.prog 9 #[.slice (some ⟨g, 0, none⟩) 2 2] [ob g #[.int .i64 0, .int .i64 0, .int .i64 1, .int .i64 0, .int .i64 5, .int .i64 0, .int .i64 0, .int .i64 1, .int .i64 3, .int .i64 5] 34] [] (fun E => [slFg (E.val 0) anF]) (fun E => E.val 0) := by
  have h := tfind (some ⟨g, 0, none⟩) 2 2 [an1, an2] (by decide) [(g, .cells #[.int .i64 0, .int .i64 0, .int .i64 1, .int .i64 0, .int .i64 5, .int .i64 0, .int .i64 0, .int .i64 1, .int .i64 3, .int .i64 5] 34 (0, 0))] (.inr ⟨g, 0, _, _, _, _, rfl, List.mem_singleton.2 rfl, rfl⟩)
  rw [an_val] at h
  exact h
set_option maxRecDepth 100000 in
set_option maxHeartbeats 1000000 in
theorem anch27  : Con Try.prog 6 #[] [] [] (fun _ => []) (fun _ => .bool true) := by
 refine Con.of (enters_of Try.func6 (by kernel_rfl) rfl) fun w cs HS HH OW => ?_
 have HAF : anF.length = 1 := rfl
 refine (callsIn_wide (n := 6)).1 ?_
 refine callsIn_of_wp_marks Try.func6 rfl trivial ?_ rfl
 simp only [Try.ntmps6, eF, Nat.reduceAdd, Nat.reduceSub]
 gi_upto_region 0 with fail
 refine rg (fun q1 => [.v (.bool false)]) (fun _ L => L) OW ?_
 clear OW; intro q1 _ Wq1 OW; simp only [↓pc, ↓pn, vE, Hint.val, Act.put, eL]
 gi_upto_region 1 with fail
 refine rg (fun q2 => [.v (.agg #[.int .i64 0, .int .i64 0, .int .i64 1, .int .i64 0]),
  .v (.agg #[.int .i64 0, .int .i64 0, .int .i64 1, .int .i64 0, .int .i64 5]),
  .v (.agg #[.int .i64 0, .int .i64 0, .int .i64 1, .int .i64 3]),
  .v (.agg #[.int .i64 0, .int .i64 0, .int .i64 1, .int .i64 3, .int .i64 5]),
  .m (bs 0 2),
  .c [0] [1] (tfindL ((q2 4).blk 0)),
  .v ((q2 5).val 0)]) (fun q2 L => L ++ [ob ((q2 4).blk 0) #[.int .i64 0, .int .i64 0, .int .i64 1, .int .i64 0, .int .i64 5, .int .i64 0, .int .i64 0, .int .i64 1, .int .i64 3, .int .i64 5] 34, slFg ((q2 5).val 0) anF]) OW ?_
 clear OW; intro q2 _ Wq2 OW; simp only [↓pc, ↓pn, vE, Hint.val, Act.put, eL]
 gi_upto_region 2 with fail
 refine rg (fun q3 => [.v ((q2 5).val 0),
  .m (lenS 1 (slFg ((q2 5).val 0) anF) (fun _ h => h)),
  .v (.bool ((anF.length : Int) == 1)),
  .v (.bool ((anF.length : Int) == 1)),
  .v ((q2 5).val 0),
  .m (idxS 1 (slFg ((q2 5).val 0) anF) 0 7 (fun _ h => h) (by omega)),
  .m (lsS (l := [.int .i64 ((anF.getD 0 zFg).x0), .int .i64 ((anF.getD 0 zFg).x1), .int .i64 ((anF.getD 0 zFg).x2), .int .i64 ((anF.getD 0 zFg).x3), .int .i64 ((anF.getD 0 zFg).x4), .int .i64 ((anF.getD 0 zFg).x5), .int .i64 ((anF.getD 0 zFg).x6)]) (d := zFg) 1 (slFg ((q2 5).val 0) anF) 0 7 0 (fun _ h => h) (fun _ => rfl) (by omega) (Nat.le_of_ble_eq_true rfl) (by kernel_rfl)),
  .v (.agg #[.int .i64 0, .int .i64 0, .int .i64 1, .int .i64 0]),
  .v (.agg #[.int .i64 2, .int .i64 0, .int .i64 0, .int .i64 1, .int .i64 0, .int .i64 5, .int .i64 2]),
  .t (tbT 44 fun _ _ _ => bin_eqT (xs := [.int .i64 ((anF.getD 0 zFg).x0), .int .i64 ((anF.getD 0 zFg).x1), .int .i64 ((anF.getD 0 zFg).x2), .int .i64 ((anF.getD 0 zFg).x3), .int .i64 ((anF.getD 0 zFg).x4), .int .i64 ((anF.getD 0 zFg).x5), .int .i64 ((anF.getD 0 zFg).x6)]) (ys := [.int .i64 2, .int .i64 0, .int .i64 0, .int .i64 1, .int .i64 0, .int .i64 5, .int .i64 2]) (by kernel_rfl) (show _ = (((((anF.getD 0 zFg).x0) == 2) && ((((anF.getD 0 zFg).x1) == 0) && ((((anF.getD 0 zFg).x2) == 0) && ((((anF.getD 0 zFg).x3) == 1) && ((((anF.getD 0 zFg).x4) == 0) && ((((anF.getD 0 zFg).x5) == 5) && (((anF.getD 0 zFg).x6) == 2))))))) : Bool) from Eq.trans (b := (((anF.getD 0 zFg).x0) == 2 && (((anF.getD 0 zFg).x1) == 0 && (((anF.getD 0 zFg).x2) == 0 && (((anF.getD 0 zFg).x3) == 1 && (((anF.getD 0 zFg).x4) == 0 && (((anF.getD 0 zFg).x5) == 5 && (((anF.getD 0 zFg).x6) == 2 && true)))))))) (by rfl) (by simp only [Bool.and_true, beq_true, beq_false]))),
  .k (.bool (((anF.length : Int) == 1) && ((((anF.getD 0 zFg).x0) == 2) && ((((anF.getD 0 zFg).x1) == 0) && ((((anF.getD 0 zFg).x2) == 0) && ((((anF.getD 0 zFg).x3) == 1) && ((((anF.getD 0 zFg).x4) == 0) && ((((anF.getD 0 zFg).x5) == 5) && (((anF.getD 0 zFg).x6) == 2))))))))),
  .v (.bool (((anF.length : Int) == 1) && ((((anF.getD 0 zFg).x0) == 2) && ((((anF.getD 0 zFg).x1) == 0) && ((((anF.getD 0 zFg).x2) == 0) && ((((anF.getD 0 zFg).x3) == 1) && ((((anF.getD 0 zFg).x4) == 0) && ((((anF.getD 0 zFg).x5) == 5) && (((anF.getD 0 zFg).x6) == 2)))))))))]) (fun _ L => L) OW ?_
 clear OW; intro q3 _ Wq3 OW; simp only [↓pc, ↓pn, vE, Hint.val, Act.put, eL]
 gi_wp2
 exact leafE HS HH OW [.t (.bool (((anF.length : Int) == 1) && ((((anF.getD 0 zFg).x0) == 2) && ((((anF.getD 0 zFg).x1) == 0) && ((((anF.getD 0 zFg).x2) == 0) && ((((anF.getD 0 zFg).x3) == 1) && ((((anF.getD 0 zFg).x4) == 0) && ((((anF.getD 0 zFg).x5) == 5) && (((anF.getD 0 zFg).x6) == 2)))))))))] Env.zero [] [] (by rfl)
end Go.Proofs.Ytdglhppcfdpcaaa.E
