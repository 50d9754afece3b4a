/- Does a finding hold what was seen? Walked. -/
import Derived.Test.YtdglhppcfdpcaaaTaR
import Derived.WalkKit
import Derived.Sort.CutIn
import Derived.IntWalk
namespace Go.Proofs.Ytdglhppcfdpcaaa.E
open Go Go.RowKit Go.Shelf
attribute [local go_sem] Oper.semAt_some
set_option linter.unusedVariables false
set_option linter.unusedSimpArgs false

set_option maxRecDepth 100000 in
set_option maxHeartbeats 1000000 in
theorem thol (f0 f1 f2 f3 f4 f5 f6 a0 a1 a2 a3 a4 : Int) : Con Try.prog 11 #[.agg #[.int .i64 f0, .int .i64 f1, .int .i64 f2, .int .i64 f3, .int .i64 f4, .int .i64 f5, .int .i64 f6], .agg #[.int .i64 a0, .int .i64 a1, .int .i64 a2, .int .i64 a3, .int .i64 a4]] [] [] (fun _ => []) (fun _ => .bool (((f5 == a4) && (f1 == a0)) && ((f1 == a0) && ((f2 == (tbare_0 f0 a1)) && ((f3 == (tbare_1 f0 a2)) && (f4 == (tbare_2 f0 a3))))))) := by
 refine Con.of (enters_of Try.func11 (by kernel_rfl) rfl) fun w cs HS HH OW => ?_
 refine (callsIn_wide (n := 6)).1 ?_
 refine callsIn_of_wp_marks Try.func11 rfl trivial ?_ rfl
 simp only [Try.ntmps11, eF, Nat.reduceAdd, Nat.reduceSub]
 gi_upto_region 0 with fail
 refine rg (fun q1 => [.m (bx 0),
  .m (bx 1),
  .v (.bool false)]) (fun q1 L => L ++ [ob ((q1 0).blk 0) #[.int .i64 f0, .int .i64 f1, .int .i64 f2, .int .i64 f3, .int .i64 f4, .int .i64 f5, .int .i64 f6] 44, ob ((q1 1).blk 0) #[.int .i64 a0, .int .i64 a1, .int .i64 a2, .int .i64 a3, .int .i64 a4] 34]) OW ?_
 clear OW; intro q1 _ Wq1 OW; simp only [↓pc, ↓pn, vE, Hint.val, Act.put, eL]
 gi_upto_region 1 with fail
 refine rg (fun q2 => [.v (.pointer (some ⟨(q1 0).blk 0, 5, none⟩)),
  .m (ld 0 (.int .i64 f5)),
  .v (.pointer (some ⟨(q1 1).blk 0, 4, none⟩)),
  .m (ld 1 (.int .i64 a4)),
  .v (.bool (f5 == a4)),
  .v (.bool (f5 == a4)),
  .v (.pointer (some ⟨(q1 0).blk 0, 1, none⟩)),
  .v (.pointer (some ⟨(q1 0).blk 0, 1, none⟩)),
  .m (ld 0 (.int .i64 f1)),
  .v (.pointer (some ⟨(q1 1).blk 0, 0, none⟩)),
  .v (.pointer (some ⟨(q1 1).blk 0, 0, none⟩)),
  .m (ld 1 (.int .i64 a0)),
  .v (.bool (f1 == a0)),
  .k (.bool ((f5 == a4) && (f1 == a0))),
  .v (.bool ((f5 == a4) && (f1 == a0))),
  .v (.pointer (some ⟨(q1 0).blk 0, 1, none⟩)),
  .m (ls 0 ([.int .i64 f1, .int .i64 f2, .int .i64 f3, .int .i64 f4])),
  .v (.pointer (some ⟨(q1 0).blk 0, 0, none⟩)),
  .m (ld 0 (.int .i64 f0)),
  .v (.pointer (some ⟨(q1 1).blk 0, 0, none⟩)),
  .m (ls 1 ([.int .i64 a0, .int .i64 a1, .int .i64 a2, .int .i64 a3])),
  .c [] [] (tbare f0 a0 a1 a2 a3),
  .t (tbT 32 fun _ _ _ => bin_eqT (xs := [.int .i64 f1, .int .i64 f2, .int .i64 f3, .int .i64 f4]) (ys := [.int .i64 a0, .int .i64 (tbare_0 f0 a1), .int .i64 (tbare_1 f0 a2), .int .i64 (tbare_2 f0 a3)]) (by kernel_rfl) (show _ = (((f1 == a0) && ((f2 == (tbare_0 f0 a1)) && ((f3 == (tbare_1 f0 a2)) && (f4 == (tbare_2 f0 a3))))) : Bool) from Eq.trans (b := (f1 == a0 && (f2 == (tbare_0 f0 a1) && (f3 == (tbare_1 f0 a2) && (f4 == (tbare_2 f0 a3) && true))))) (by rfl) (by simp only [Bool.and_true, beq_true, beq_false]))),
  .k (.bool (((f5 == a4) && (f1 == a0)) && ((f1 == a0) && ((f2 == (tbare_0 f0 a1)) && ((f3 == (tbare_1 f0 a2)) && (f4 == (tbare_2 f0 a3))))))),
  .v (.bool (((f5 == a4) && (f1 == a0)) && ((f1 == a0) && ((f2 == (tbare_0 f0 a1)) && ((f3 == (tbare_1 f0 a2)) && (f4 == (tbare_2 f0 a3)))))))]) (fun _ L => L) OW ?_
 clear OW; intro q2 _ Wq2 OW; simp only [↓pc, ↓pn, vE, Hint.val, Act.put, eL]
 gi_wp2
 exact leafE HS HH OW [.t (.bool (((f5 == a4) && (f1 == a0)) && ((f1 == a0) && ((f2 == (tbare_0 f0 a1)) && ((f3 == (tbare_1 f0 a2)) && (f4 == (tbare_2 f0 a3)))))))] Env.zero [] [] rfl
end Go.Proofs.Ytdglhppcfdpcaaa.E
