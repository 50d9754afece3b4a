/- A device: writes, marks. -/
import Derived.Test.YtckhkagkpldoiaaDvA
import Derived.WalkKit
import Derived.Sort.CutIn
import Derived.IntWalk
namespace Go.Proofs.Ytckhkagkpldoiaa.E
open Go Go.RowKit Go.Shelf
attribute [local go_sem] Oper.semAt_some
set_option linter.unusedVariables false
set_option linter.unusedSimpArgs false

def putV (V : Dv) (i : Int) (r : List UInt8) (mk : Int) : Dv := bif (dWrite_2 V.D i) != 0 then { V with D := wrD V.D i r } else { V with D := wrD V.D i r, ghost := upI V.ghost i r, marks := upI V.marks i mk, l := V.l ++ [⟨true, i, dWrite_0 V.D i, dWrite_1 V.D i, 0, false⟩] }
attribute [local irreducible] fapply ovF gat_0 gat_1 gat_2 gat_3 gat_4 gindex_0 gindex_1 dInject_0 injD wrD rdD dWrite_0 dWrite_1 dWrite_2 dRead_0 dRead_1 dRead_2 dRead_3
def vput_0 (V : Dv) (i : Int) : Int := (bif (dWrite_2 V.D i) != 0 then (dWrite_2 V.D i) else 0)
def vput_1 (g : Nat) (V : Dv) (i : Int) (r : List UInt8) (mk : Int) : Objs → Prop := (bif (dWrite_2 V.D i) != 0 then PkE (DevS g { V with D := wrD V.D i r, ghost := (V.ghost), marks := (V.marks), l := (V.l) }) else PkE (DevS g { V with D := wrD V.D i r, ghost := (upI V.ghost i r), marks := (upI V.marks i mk), l := (V.l ++ ([(⟨true, i, (dWrite_0 V.D i), (dWrite_1 V.D i), 0, false⟩ : Ac)])) }))
set_option maxRecDepth 100000 in
set_option maxHeartbeats 1000000 in
theorem vput (g : Nat) (V : Dv) (i : Int) (r : List UInt8) (lr : r.length = 72) (mk : Int) (hV : DvOk V) : Con Try.prog 85 #[.pointer (some ⟨g, 0, none⟩), .int .i64 i, .agg (rB 72 r).toArray, .int .i64 mk] [.p (PkE (DevS g V))] [0] (fun _ => [.p (PkE (DevS g (putV V i r mk)))]) (fun _ => .int .i64 (vput_0 V i)) := by
 refine Con.of (enters_of Try.func85 (by kernel_rfl) rfl) fun w cs HS HH OW => ?_
 have HLL := hV.ll
 refine (callsIn_wide (n := 6)).1 ?_
 refine callsIn_of_wp_marks Try.func85 rfl trivial ?_ rfl
 simp only [Try.ntmps85, eF, Nat.reduceAdd, Nat.reduceSub]
 gi_upto_region 0 with fail
 refine rg (fun q1 => [.m (bx 1),
  .v (.int .i64 0)]) (fun q1 L => L ++ [ob ((q1 0).blk 0) (rB 72 r).toArray 41]) OW ?_
 clear OW; intro q1 _ Wq1 OW; simp only [↓pc, ↓pn, vE, Hint.val, Act.put, eL]
 gi_upto_region 1 with fail
 obtain ⟨L4, ⟨dg, gm, gk, v, rfl⟩, OW0⟩ := OW.out.openE (S := DevS g V) 0
 replace OW := Lib.hid (OwnE.cast (L' := [.c [], ob ((q1 0).blk 0) (rB 72 r).toArray 41, ob g #[.pointer (some ⟨dg, 0, none⟩), .map (some gm), .map (some gk), v] 141, .p (PkE (DramS dg V.D)), mpRw V.ghost gm, mpMk V.marks gk, slAc v V.l]) OW0 (by kernel_rfl)); clear OW0
 refine rg (fun q2 => [.v (.pointer (some ⟨g, 0, none⟩)),
  .v (.pointer (some ⟨g, 0, none⟩)),
  .v (.pointer (some ⟨g, 0, none⟩)),
  .m (ld 2 (.pointer (some ⟨dg, 0, none⟩))),
  .v (.int .i64 i),
  .m (ls 1 (rB 72 r)),
  .c [3] [3] (dWrite dg V.D i r (by first | rfl | (simp only [List.length_set, List.length_append, List.length_replicate, List.length_cons, List.length_nil, List.length_map, List.length_range, List.length_take, List.length_drop, lr]; done) | (simp only [List.length_set, List.length_append, List.length_replicate, List.length_cons, List.length_nil, List.length_map, List.length_range, List.length_take, List.length_drop, lr]; omega)) hV.D),
  .v (.tuple #[.agg #[.int .i64 (dWrite_0 V.D i), .bool (dWrite_1 V.D i)], .int .i64 (dWrite_2 V.D i)]),
  .v (.agg #[.int .i64 (dWrite_0 V.D i), .bool (dWrite_1 V.D i)]),
  .v (.int .i64 (dWrite_2 V.D i)),
  .m (al 7),
  .m (ss 7),
  .v (.int .i64 (dWrite_2 V.D i))]) (fun q2 L => L.set 3 (.p (PkE (DramS dg (wrD V.D i r)))) ++ [ob ((q2 10).blk 0) #[.int .i64 (dWrite_0 V.D i), .bool (dWrite_1 V.D i)] 60]) OW ?_
 clear OW; intro q2 _ Wq2 OW; simp only [↓pc, ↓pn, vE, Hint.val, Act.put, eL]
 gi_upto_region 2 with fail
 refine rg (fun q3 => [.v (.int .i64 (dWrite_2 V.D i)),
  .v (.bool ((dWrite_2 V.D i) != 0))]) (fun _ L => L) OW ?_
 clear OW; intro q3 _ Wq3 OW; simp only [↓pc, ↓pn, vE, Hint.val, Act.put, eL]
 cases hB4 : ((dWrite_2 V.D i) != 0)
 case true =>
  have dhB4 := bne_iff_ne.1 hB4
  gi_upto_region 3 with fail
  refine rg (fun q5 => [.v (.int .i64 (dWrite_2 V.D i)),
   .v (.int .i64 (dWrite_2 V.D i))]) (fun _ L => L) OW ?_
  clear OW; intro q5 _ Wq5 OW; simp only [↓pc, ↓pn, vE, Hint.val, Act.put, eL]
  replace OW := Lib.hid (OwnE.re (L' := [.c [], ob ((q1 0).blk 0) (rB 72 r).toArray 41, ob ((q2 10).blk 0) #[.int .i64 (dWrite_0 V.D i), .bool (dWrite_1 V.D i)] 60, .p (PkE (DevS g { V with D := wrD V.D i r, ghost := (V.ghost), marks := (V.marks), l := (V.l) }))]) OW.out [[0], [1], [7], [2, 3, 4, 5, 6]] (Ns := [[.c []], [ob ((q1 0).blk 0) (rB 72 r).toArray 41], [ob ((q2 10).blk 0) #[.int .i64 (dWrite_0 V.D i), .bool (dWrite_1 V.D i)] 60], [ob g #[.pointer (some ⟨dg, 0, none⟩), .map (some gm), .map (some gk), v] 141, .p (PkE (DramS dg (wrD V.D i r))), mpRw V.ghost gm, mpMk V.marks gk, slAc v V.l]]) (by kernel_rfl) ⟨satG_one _, satG_one _, satG_one _, PkE.of (⟨_, _, _, _, rfl⟩), trivial⟩)
  gi_wp2
  exact leafE HS HH OW [.t (.int .i64 (dWrite_2 V.D i))] Env.zero [3] [] (by (try simp only [vput_0, vput_1]); (repeat (first | rw [hB4] | rw [cond_true] | rw [cond_false])); first | rfl | kernel_rfl) (by kernel_rfl) (by simp only [putV]; (try simp only [vput_0, vput_1]); (repeat (first | rw [hB4] | rw [cond_true] | rw [cond_false])); kernel_rfl)
 have dhB4 := Lib.hid (eq_of_bne_false hB4)
 gi_upto_region 4 with fail
 refine rg (fun q6 => [.v (.pointer (some ⟨g, 0, none⟩)),
  .v (.pointer (some ⟨g, 0, none⟩)),
  .v (.pointer (some ⟨g, 1, none⟩)),
  .m (ld 2 (.map (some gm))),
  .v (.int .i64 i),
  .m (ls 1 (rB 72 r)),
  .m (mu 4 gm i mRw zRw V.ghost r)]) (fun q6 L => L.set 4 (mpRw (upI V.ghost i r) gm)) OW ?_
 clear OW; intro q6 _ Wq6 OW; simp only [↓pc, ↓pn, vE, Hint.val, Act.put, eL]
 gi_upto_region 5 with fail
 refine rg (fun q7 => [.v (.pointer (some ⟨g, 0, none⟩)),
  .v (.pointer (some ⟨g, 0, none⟩)),
  .v (.pointer (some ⟨g, 2, none⟩)),
  .m (ld 2 (.map (some gk))),
  .v (.int .i64 i),
  .v (.int .i64 mk),
  .m (mu 5 gk i mMk 0 V.marks mk)]) (fun q7 L => L.set 5 (mpMk (upI V.marks i mk) gk)) OW ?_
 clear OW; intro q7 _ Wq7 OW; simp only [↓pc, ↓pn, vE, Hint.val, Act.put, eL]
 gi_upto_region 6 with fail
 refine rg (fun q8 => [.v (.pointer (some ⟨g, 0, none⟩)),
  .v (.pointer (some ⟨g, 0, none⟩)),
  .v (.pointer (some ⟨g, 0, none⟩)),
  .v (.pointer (some ⟨g, 3, none⟩)),
  .m (ld 2 (v)),
  .v (.int .i64 i),
  .m (ls 7 ([.int .i64 (dWrite_0 V.D i), .bool (dWrite_1 V.D i)])),
  .v (.agg #[.bool true, .int .i64 i, .int .i64 (dWrite_0 V.D i), .bool (dWrite_1 V.D i), .int .i64 0, .bool false]),
  .m (bs 8 1),
  .m (apB 6 8 slTAc (v) (xs := V.l) (ys := [(⟨true, i, (dWrite_0 V.D i), (dWrite_1 V.D i), 0, false⟩ : Ac)]) h1Ac (fun _ => rfl) (by simp only [List.length_set, List.length_append, List.length_replicate, List.length_cons, List.length_nil, List.length_map, List.length_range, List.length_take, List.length_drop, lr]; omega)),
  .v (.pointer (some ⟨g, 0, none⟩)),
  .v (.pointer (some ⟨g, 3, none⟩)),
  .m (stV 2 6 (slAc ((q8 9).val 0) (V.l ++ ([(⟨true, i, (dWrite_0 V.D i), (dWrite_1 V.D i), 0, false⟩ : Ac)]))) ((q8 9).val 0) fun bs h => SlE.one ((fun _ h => h) bs h))]) (fun q8 L => (L.set 2 (ob g #[.pointer (some ⟨dg, 0, none⟩), .map (some gm), .map (some gk), (q8 9).val 0] 141)).set 6 (slAc ((q8 9).val 0) (V.l ++ ([(⟨true, i, (dWrite_0 V.D i), (dWrite_1 V.D i), 0, false⟩ : Ac)]))) ++ [ob ((q8 8).blk 0) #[.bool true, .int .i64 i, .int .i64 (dWrite_0 V.D i), .bool (dWrite_1 V.D i), .int .i64 0, .bool false] 101]) OW ?_
 clear OW; intro q8 _ Wq8 OW; simp only [↓pc, ↓pn, vE, Hint.val, Act.put, eL]
 gi_upto_region 7 with fail
 refine rg (fun q9 => [.v (.int .i64 0)]) (fun _ L => L) OW ?_
 clear OW; intro q9 _ Wq9 OW; simp only [↓pc, ↓pn, vE, Hint.val, Act.put, eL]
 replace OW := Lib.hid (OwnE.re (L' := [.c [], ob ((q1 0).blk 0) (rB 72 r).toArray 41, ob ((q2 10).blk 0) #[.int .i64 (dWrite_0 V.D i), .bool (dWrite_1 V.D i)] 60, ob ((q8 8).blk 0) #[.bool true, .int .i64 i, .int .i64 (dWrite_0 V.D i), .bool (dWrite_1 V.D i), .int .i64 0, .bool false] 101, .p (PkE (DevS g { V with D := wrD V.D i r, ghost := (upI V.ghost i r), marks := (upI V.marks i mk), l := (V.l ++ ([(⟨true, i, (dWrite_0 V.D i), (dWrite_1 V.D i), 0, false⟩ : Ac)])) }))]) OW.out [[0], [1], [7], [8], [2, 3, 4, 5, 6]] (Ns := [[.c []], [ob ((q1 0).blk 0) (rB 72 r).toArray 41], [ob ((q2 10).blk 0) #[.int .i64 (dWrite_0 V.D i), .bool (dWrite_1 V.D i)] 60], [ob ((q8 8).blk 0) #[.bool true, .int .i64 i, .int .i64 (dWrite_0 V.D i), .bool (dWrite_1 V.D i), .int .i64 0, .bool false] 101], [ob g #[.pointer (some ⟨dg, 0, none⟩), .map (some gm), .map (some gk), (q8 9).val 0] 141, .p (PkE (DramS dg (wrD V.D i r))), mpRw (upI V.ghost i r) gm, mpMk (upI V.marks i mk) gk, slAc ((q8 9).val 0) (V.l ++ ([(⟨true, i, (dWrite_0 V.D i), (dWrite_1 V.D i), 0, false⟩ : Ac)]))]]) (by kernel_rfl) ⟨satG_one _, satG_one _, satG_one _, satG_one _, PkE.of (⟨_, _, _, _, rfl⟩), trivial⟩)
 gi_wp2
 exact leafE HS HH OW [.t (.int .i64 0)] Env.zero [4] [] (by (try simp only [vput_0, vput_1]); (repeat (first | rw [hB4] | rw [cond_true] | rw [cond_false])); first | rfl | kernel_rfl) (by kernel_rfl) (by simp only [putV]; (try simp only [vput_0, vput_1]); (repeat (first | rw [hB4] | rw [cond_true] | rw [cond_false])); kernel_rfl)
set_option maxRecDepth 100000 in
set_option maxHeartbeats 1000000 in
theorem vWrite (g : Nat) (V : Dv) (i : Int) (r : List UInt8) (lr : r.length = 72) (hV : DvOk V) : Con Try.prog 50 #[.pointer (some ⟨g, 0, none⟩), .int .i64 i, .agg (rB 72 r).toArray] [.p (PkE (DevS g V))] [0] (fun _ => [.p (PkE (DevS g (putV V i r 0)))]) (fun _ => .int .i64 (vput_0 V i)) := by
 refine Con.of (enters_of Try.func50 (by kernel_rfl) rfl) fun w cs HS HH OW => ?_
 refine (callsIn_wide (n := 6)).1 ?_
 refine callsIn_of_wp_marks Try.func50 rfl trivial ?_ rfl
 simp only [Try.ntmps50, eF, Nat.reduceAdd, Nat.reduceSub]
 gi_upto_region 0 with fail
 refine rg (fun q1 => [.m (bx 1),
  .v (.int .i64 0)]) (fun q1 L => L ++ [ob ((q1 0).blk 0) (rB 72 r).toArray 41]) OW ?_
 clear OW; intro q1 _ Wq1 OW; simp only [↓pc, ↓pn, vE, Hint.val, Act.put, eL]
 gi_upto_region 1 with fail
 refine rg (fun q2 => [.v (.pointer (some ⟨g, 0, none⟩)),
  .v (.int .i64 i),
  .m (ls 1 (rB 72 r)),
  .c [0] [0] (vput g V i r (by first | rfl | (simp only [List.length_set, List.length_append, List.length_replicate, List.length_cons, List.length_nil, List.length_map, List.length_range, List.length_take, List.length_drop, lr]; done) | (simp only [List.length_set, List.length_append, List.length_replicate, List.length_cons, List.length_nil, List.length_map, List.length_range, List.length_take, List.length_drop, lr]; omega)) 0 hV),
  .v (.int .i64 (vput_0 V i))]) (fun q2 L => L.set 0 (.p (PkE (DevS g (putV V i r 0))))) OW ?_
 clear OW; intro q2 _ Wq2 OW; simp only [↓pc, ↓pn, vE, Hint.val, Act.put, eL]
 gi_wp2
 exact leafE HS HH OW [.t (.int .i64 (vput_0 V i))] Env.zero [0] [] rfl
set_option maxRecDepth 100000 in
set_option maxHeartbeats 1000000 in
theorem vMark (g : Nat) (V : Dv) (i : Int) (r : List UInt8) (lr : r.length = 72) (hV : DvOk V) : Con Try.prog 103 #[.pointer (some ⟨g, 0, none⟩), .int .i64 i, .agg (rB 72 r).toArray] [.p (PkE (DevS g V))] [0] (fun _ => [.p (PkE (DevS g (putV V i r 1)))]) (fun _ => .int .i64 (vput_0 V i)) := by
 refine Con.of (enters_of Try.func103 (by kernel_rfl) rfl) fun w cs HS HH OW => ?_
 refine (callsIn_wide (n := 6)).1 ?_
 refine callsIn_of_wp_marks Try.func103 rfl trivial ?_ rfl
 simp only [Try.ntmps103, eF, Nat.reduceAdd, Nat.reduceSub]
 gi_upto_region 0 with fail
 refine rg (fun q1 => [.m (bx 1),
  .v (.int .i64 0)]) (fun q1 L => L ++ [ob ((q1 0).blk 0) (rB 72 r).toArray 41]) OW ?_
 clear OW; intro q1 _ Wq1 OW; simp only [↓pc, ↓pn, vE, Hint.val, Act.put, eL]
 gi_upto_region 1 with fail
 refine rg (fun q2 => [.v (.pointer (some ⟨g, 0, none⟩)),
  .v (.int .i64 i),
  .m (ls 1 (rB 72 r)),
  .c [0] [0] (vput g V i r (by first | rfl | (simp only [List.length_set, List.length_append, List.length_replicate, List.length_cons, List.length_nil, List.length_map, List.length_range, List.length_take, List.length_drop, lr]; done) | (simp only [List.length_set, List.length_append, List.length_replicate, List.length_cons, List.length_nil, List.length_map, List.length_range, List.length_take, List.length_drop, lr]; omega)) 1 hV),
  .v (.int .i64 (vput_0 V i))]) (fun q2 L => L.set 0 (.p (PkE (DevS g (putV V i r 1))))) OW ?_
 clear OW; intro q2 _ Wq2 OW; simp only [↓pc, ↓pn, vE, Hint.val, Act.put, eL]
 gi_wp2
 exact leafE HS HH OW [.t (.int .i64 (vput_0 V i))] Env.zero [0] [] rfl
end Go.Proofs.Ytckhkagkpldoiaa.E
