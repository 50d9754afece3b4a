/- A device: new ones, reads. -/
import Derived.Test.YtckhkagkpldoiaaDvB
import Derived.WalkKit
import Derived.Sort.CutIn
import Derived.IntWalk
namespace Go.Proofs.Ytckhkagkpldoiaa.E
open Go Go.RowKit Go.Shelf
attribute [local go_sem] Oper.semAt_some
set_option linter.unusedVariables false
set_option linter.unusedSimpArgs false

def V0 (r s b m c mode : Int) : Dv := ⟨D0 r s b m c mode, fun _ => zRw, fun _ => 0, []⟩
def rdV (V : Dv) (i : Int) : Dv := bif (dRead_3 V.D i) != 0 then { V with D := rdD V.D i } else { V with D := rdD V.D i, l := V.l ++ [⟨false, i, dRead_1 V.D i, dRead_2 V.D i, ((expo (rdD V.D i).mode (dRead_0 V.D i) (V.ghost (dRead_1 V.D i)) : Nat) : Int), (!(dRead_2 V.D i)) && ((V.marks (dRead_1 V.D i)) == 1)⟩] }
attribute [local irreducible] fapply ovF gat_0 gat_1 gat_2 gat_3 gat_4 gindex_0 gindex_1 dInject_0 injD wrD rdD dWrite_0 dWrite_1 dWrite_2 dRead_0 dRead_1 dRead_2 dRead_3 D0 expo
set_option maxRecDepth 100000 in
set_option maxHeartbeats 1000000 in
theorem vMarkO (g gk dg gm : Nat) (v : Value) (f : Int → Int) (i : Int) (bk : Objs) (hk : MpE mMk 0 f gk bk) : Con Try.prog 87 #[.pointer (some ⟨g, 0, none⟩), .int .i64 i] [ob g #[.pointer (some ⟨dg, 0, none⟩), .map (some gm), .map (some gk), v] 141, .c bk] [] (fun _ => []) (fun _ => .bool ((f i) == 1)) := by
 refine Con.of (enters_of Try.func87 (by kernel_rfl) rfl) fun w cs HS HH OW => ?_
 refine (callsIn_wide (n := 6)).1 ?_
 refine callsIn_of_wp_marks Try.func87 rfl trivial ?_ rfl
 simp only [Try.ntmps87, eF, Nat.reduceAdd, Nat.reduceSub]
 gi_upto_region 0 with fail
 refine rg (fun q1 => [.v (.bool false)]) (fun _ L => L) OW ?_
 clear OW; intro q1 _ Wq1 OW; simp only [↓pc, ↓pn, vE, Hint.val, Act.put, eL]
 gi_upto_region 1 with fail
 refine rg (fun q2 => [.v (.pointer (some ⟨g, 0, none⟩)),
  .v (.pointer (some ⟨g, 0, none⟩)),
  .v (.pointer (some ⟨g, 2, none⟩)),
  .m (ld 0 (.map (some gk))),
  .v (.int .i64 i),
  .m (mg 1 (.c bk) gk i (cP hk)),
  .v (.bool ((f i) == 1)),
  .v (.bool ((f i) == 1))]) (fun _ L => L) OW ?_
 clear OW; intro q2 _ Wq2 OW; simp only [↓pc, ↓pn, vE, Hint.val, Act.put, eL]
 gi_wp2
 exact leafE HS HH OW [.t (.bool ((f i) == 1))] Env.zero [] [(0, 0), (1, 1)] rfl
theorem vMarkP (g gk dg gm : Nat) (v : Value) (f : Int → Int) (i : Int) : Con Try.prog 87 #[.pointer (some ⟨g, 0, none⟩), .int .i64 i] [ob g #[.pointer (some ⟨dg, 0, none⟩), .map (some gm), .map (some gk), v] 141, mpMk f gk] [] (fun _ => []) (fun _ => .bool (f i == 1)) :=
  Con.ro 1 rfl (fun bs h => vMarkO g gk dg gm v f i bs h) (enters_of Try.func87 (by kernel_rfl) rfl)
set_option maxRecDepth 100000 in
set_option maxHeartbeats 1000000 in
theorem vNew (r s b m c mode : Int) (hg : gright r s b m c = true) (hm : rightB mode = true) : Con Try.prog 49 #[.agg #[.int .i64 r, .int .i64 s, .int .i64 b, .int .i64 m, .int .i64 c], .int .i64 mode] [] [] (fun E => [.p (PkE (DevS ((E.blk 0)) (V0 r s b m c mode)))]) (fun E => .tuple #[.pointer (some ⟨(E.blk 0), 0, none⟩), .int .i64 0]) := by
 refine Con.of (enters_of Try.func49 (by kernel_rfl) rfl) fun w cs HS HH OW => ?_
 refine (callsIn_wide (n := 6)).1 ?_
 refine callsIn_of_wp_marks Try.func49 rfl trivial ?_ rfl
 simp only [Try.ntmps49, eF, Nat.reduceAdd, Nat.reduceSub]
 gi_upto_region 0 with fail
 refine rg (fun q1 => [.m (bx 0),
  .v (.pointer none),
  .v (.int .i64 0)]) (fun q1 L => L ++ [ob ((q1 0).blk 0) #[.int .i64 r, .int .i64 s, .int .i64 b, .int .i64 m, .int .i64 c] 27]) OW ?_
 clear OW; intro q1 _ Wq1 OW; simp only [↓pc, ↓pn, vE, Hint.val, Act.put, eL]
 gi_upto_region 1 with fail
 refine rg (fun q2 => [.m (ls 0 ([.int .i64 r, .int .i64 s, .int .i64 b, .int .i64 m, .int .i64 c])),
  .v (.int .i64 mode),
  .c [] [1] (dNew r s b m c mode hg hm),
  .v (.tuple #[.pointer (some ⟨((q2 2).blk 0), 0, none⟩), .int .i64 0]),
  .v (.pointer (some ⟨((q2 2).blk 0), 0, none⟩)),
  .v (.int .i64 0),
  .v (.pointer (some ⟨((q2 2).blk 0), 0, none⟩)),
  .v (.int .i64 0)]) (fun q2 L => L ++ [.p (PkE (DramS (((q2 2).blk 0)) (D0 r s b m c mode)))]) OW ?_
 clear OW; intro q2 _ Wq2 OW; simp only [↓pc, ↓pn, vE, Hint.val, Act.put, eL]
 gi_upto_region 2 with fail
 refine rg (fun q3 => [.v (.int .i64 0),
  .v (.bool false)]) (fun _ L => L) OW ?_
 clear OW; intro q3 _ Wq3 OW; simp only [↓pc, ↓pn, vE, Hint.val, Act.put, eL]
 gi_upto_region 4 with fail
 refine rg (fun q4 => [.v (.pointer (some ⟨((q2 2).blk 0), 0, none⟩)),
  .m (mm 2 mRw zRw),
  .m (mm 3 mMk 0),
  .v (.agg #[.pointer (some ⟨((q2 2).blk 0), 0, none⟩), .map (some ((q4 1).blk 0)), .map (some ((q4 2).blk 0)), .slice none 0 0]),
  .m (bx 4),
  .v (.pointer (some ⟨(q4 4).blk 0, 0, none⟩)),
  .v (.int .i64 0)]) (fun q4 L => L ++ [mpRw (fun _ => zRw) ((q4 1).blk 0), mpMk (fun _ => 0) ((q4 2).blk 0), ob ((q4 4).blk 0) #[.pointer (some ⟨((q2 2).blk 0), 0, none⟩), .map (some ((q4 1).blk 0)), .map (some ((q4 2).blk 0)), .slice none 0 0] 141]) OW ?_
 clear OW; intro q4 _ Wq4 OW; simp only [↓pc, ↓pn, vE, Hint.val, Act.put, eL]
 replace OW := Lib.hid (OW.out.nilS eAc [.bool false, .int .i64 0, .int .i64 0, .bool false, .int .i64 0, .bool false] 101)
 replace OW := Lib.hid (OwnE.re (L' := [ob ((q1 0).blk 0) #[.int .i64 r, .int .i64 s, .int .i64 b, .int .i64 m, .int .i64 c] 27, .p (PkE (DevS ((q4 4).blk 0) (V0 r s b m c mode)))]) OW.out [[0], [4, 1, 2, 3, 5]] (Ns := [[ob ((q1 0).blk 0) #[.int .i64 r, .int .i64 s, .int .i64 b, .int .i64 m, .int .i64 c] 27], [ob ((q4 4).blk 0) #[.pointer (some ⟨((q2 2).blk 0), 0, none⟩), .map (some ((q4 1).blk 0)), .map (some ((q4 2).blk 0)), .slice none 0 0] 141, .p (PkE (DramS (((q2 2).blk 0)) (D0 r s b m c mode))), mpRw (fun _ => zRw) ((q4 1).blk 0), mpMk (fun _ => 0) ((q4 2).blk 0), slAc (.slice none 0 0) ([])]]) (by kernel_rfl) ⟨satG_one _, PkE.of (⟨_, _, _, _, rfl⟩), trivial⟩)
 gi_wp2
 exact leafE HS HH OW [.t (.pointer (some ⟨(q4 4).blk 0, 0, none⟩)), .t (.int .i64 0)] (.l [(q4 4).blk 0] [] []) [1] [] rfl
set_option maxRecDepth 100000 in
set_option maxHeartbeats 1000000 in
theorem vNewG (r s b m c mode : Int) (hg : gright r s b m c = false) : Con Try.prog 49 #[.agg #[.int .i64 r, .int .i64 s, .int .i64 b, .int .i64 m, .int .i64 c], .int .i64 mode] [] [] (fun _ => []) (fun _ => .tuple #[.pointer none, .int .i64 20]) := by
 refine Con.of (enters_of Try.func49 (by kernel_rfl) rfl) fun w cs HS HH OW => ?_
 refine (callsIn_wide (n := 6)).1 ?_
 refine callsIn_of_wp_marks Try.func49 rfl trivial ?_ rfl
 simp only [Try.ntmps49, eF, Nat.reduceAdd, Nat.reduceSub]
 gi_upto_region 0 with fail
 refine rg (fun q1 => [.m (bx 0),
  .v (.pointer none),
  .v (.int .i64 0)]) (fun q1 L => L ++ [ob ((q1 0).blk 0) #[.int .i64 r, .int .i64 s, .int .i64 b, .int .i64 m, .int .i64 c] 27]) OW ?_
 clear OW; intro q1 _ Wq1 OW; simp only [↓pc, ↓pn, vE, Hint.val, Act.put, eL]
 gi_upto_region 1 with fail
 refine rg (fun q2 => [.m (ls 0 ([.int .i64 r, .int .i64 s, .int .i64 b, .int .i64 m, .int .i64 c])),
  .v (.int .i64 mode),
  .c [] [] (dNewG r s b m c mode hg),
  .v (.tuple #[.pointer none, .int .i64 20]),
  .v (.pointer none),
  .v (.int .i64 20),
  .v (.pointer none),
  .v (.int .i64 20)]) (fun _ L => L) OW ?_
 clear OW; intro q2 _ Wq2 OW; simp only [↓pc, ↓pn, vE, Hint.val, Act.put, eL]
 gi_upto_region 2 with fail
 refine rg (fun q3 => [.v (.int .i64 20),
  .v (.bool true)]) (fun _ L => L) OW ?_
 clear OW; intro q3 _ Wq3 OW; simp only [↓pc, ↓pn, vE, Hint.val, Act.put, eL]
 gi_upto_region 3 with fail
 refine rg (fun q4 => [.v (.int .i64 20),
  .v (.pointer none),
  .v (.int .i64 20)]) (fun _ L => L) OW ?_
 clear OW; intro q4 _ Wq4 OW; simp only [↓pc, ↓pn, vE, Hint.val, Act.put, eL]
 gi_wp2
 exact leafE HS HH OW [.t (.pointer none), .t (.int .i64 20)] Env.zero [] [] rfl
set_option maxRecDepth 100000 in
set_option maxHeartbeats 1000000 in
theorem vNewM (r s b m c mode : Int) (hg : gright r s b m c = true) (hm : rightB mode = false) : Con Try.prog 49 #[.agg #[.int .i64 r, .int .i64 s, .int .i64 b, .int .i64 m, .int .i64 c], .int .i64 mode] [] [] (fun _ => []) (fun _ => .tuple #[.pointer none, .int .i64 21]) := by
 refine Con.of (enters_of Try.func49 (by kernel_rfl) rfl) fun w cs HS HH OW => ?_
 refine (callsIn_wide (n := 6)).1 ?_
 refine callsIn_of_wp_marks Try.func49 rfl trivial ?_ rfl
 simp only [Try.ntmps49, eF, Nat.reduceAdd, Nat.reduceSub]
 gi_upto_region 0 with fail
 refine rg (fun q1 => [.m (bx 0),
  .v (.pointer none),
  .v (.int .i64 0)]) (fun q1 L => L ++ [ob ((q1 0).blk 0) #[.int .i64 r, .int .i64 s, .int .i64 b, .int .i64 m, .int .i64 c] 27]) OW ?_
 clear OW; intro q1 _ Wq1 OW; simp only [↓pc, ↓pn, vE, Hint.val, Act.put, eL]
 gi_upto_region 1 with fail
 refine rg (fun q2 => [.m (ls 0 ([.int .i64 r, .int .i64 s, .int .i64 b, .int .i64 m, .int .i64 c])),
  .v (.int .i64 mode),
  .c [] [] (dNewM r s b m c mode hg hm),
  .v (.tuple #[.pointer none, .int .i64 21]),
  .v (.pointer none),
  .v (.int .i64 21),
  .v (.pointer none),
  .v (.int .i64 21)]) (fun _ L => L) OW ?_
 clear OW; intro q2 _ Wq2 OW; simp only [↓pc, ↓pn, vE, Hint.val, Act.put, eL]
 gi_upto_region 2 with fail
 refine rg (fun q3 => [.v (.int .i64 21),
  .v (.bool true)]) (fun _ L => L) OW ?_
 clear OW; intro q3 _ Wq3 OW; simp only [↓pc, ↓pn, vE, Hint.val, Act.put, eL]
 gi_upto_region 3 with fail
 refine rg (fun q4 => [.v (.int .i64 21),
  .v (.pointer none),
  .v (.int .i64 21)]) (fun _ L => L) OW ?_
 clear OW; intro q4 _ Wq4 OW; simp only [↓pc, ↓pn, vE, Hint.val, Act.put, eL]
 gi_wp2
 exact leafE HS HH OW [.t (.pointer none), .t (.int .i64 21)] Env.zero [] [] rfl
def vRead_0 (V : Dv) (i : Int) : List UInt8 := (bif (dRead_3 V.D i) != 0 then List.replicate 72 0 else (dRead_0 V.D i))
def vRead_1 (V : Dv) (i : Int) : Int := (bif (dRead_3 V.D i) != 0 then (dRead_3 V.D i) else 0)
def vRead_2 (g : Nat) (V : Dv) (i : Int) : Objs → Prop := (bif (dRead_3 V.D i) != 0 then PkE (DevS g { V with D := rdD V.D i, l := (V.l) }) else PkE (DevS g { V with D := rdD V.D i, l := (V.l ++ ([(⟨false, i, (dRead_1 V.D i), (dRead_2 V.D i), ((expo ((rdD V.D i).mode) (dRead_0 V.D i) (V.ghost (dRead_1 V.D i)) : Nat) : Int), (!(dRead_2 V.D i)) && (V.marks (dRead_1 V.D i) == 1)⟩ : Ac)])) }))
set_option maxRecDepth 100000 in
set_option maxHeartbeats 1000000 in
theorem vRead (g : Nat) (V : Dv) (i : Int) (hV : DvOk V) : Con Try.prog 53 #[.pointer (some ⟨g, 0, none⟩), .int .i64 i] [.p (PkE (DevS g V))] [0] (fun _ => [.p (PkE (DevS g (rdV V i)))]) (fun _ => .tuple #[.agg (rB 72 (vRead_0 V i)).toArray, .int .i64 (vRead_1 V i)]) := by
 refine Con.of (enters_of Try.func53 (by kernel_rfl) rfl) fun w cs HS HH OW => ?_
 have HLL := hV.ll
 have HRL := dRead_len hV.D
 refine (callsIn_wide (n := 6)).1 ?_
 refine callsIn_of_wp_marks Try.func53 rfl trivial ?_ rfl
 simp only [Try.ntmps53, eF, Nat.reduceAdd, Nat.reduceSub]
 gi_upto_region 0 with fail
 refine rg (fun q1 => [.m (al 1),
  .v (.int .i64 0)]) (fun q1 L => L ++ [ob ((q1 0).blk 0) (rB 72 (List.replicate 72 0)).toArray 41]) OW ?_
 clear OW; intro q1 _ Wq1 OW; simp only [↓pc, ↓pn, vE, Hint.val, Act.put, eL]
 gi_upto_region 1 with fail
 obtain ⟨L4, ⟨dg, gm, gk, v, rfl⟩, OW0⟩ := OW.out.openE (S := DevS g V) 0
 replace OW := Lib.hid (OwnE.cast (L' := [.c [], ob ((q1 0).blk 0) (rB 72 (List.replicate 72 0)).toArray 41, ob g #[.pointer (some ⟨dg, 0, none⟩), .map (some gm), .map (some gk), v] 141, .p (PkE (DramS dg V.D)), mpRw V.ghost gm, mpMk V.marks gk, slAc v V.l]) OW0 (by kernel_rfl)); clear OW0
 refine rg (fun q2 => [.v (.pointer (some ⟨g, 0, none⟩)),
  .v (.pointer (some ⟨g, 0, none⟩)),
  .v (.pointer (some ⟨g, 0, none⟩)),
  .m (ld 2 (.pointer (some ⟨dg, 0, none⟩))),
  .v (.int .i64 i),
  .c [3] [3] (dRead dg V.D i hV.D),
  .v (.tuple #[.agg (rB 72 (dRead_0 V.D i)).toArray, .agg #[.int .i64 (dRead_1 V.D i), .bool (dRead_2 V.D i)], .int .i64 (dRead_3 V.D i)]),
  .v (.agg (rB 72 (dRead_0 V.D i)).toArray),
  .v (.agg #[.int .i64 (dRead_1 V.D i), .bool (dRead_2 V.D i)]),
  .v (.int .i64 (dRead_3 V.D i)),
  .m (al 7),
  .m (al 8),
  .m (ss 7),
  .m (ss 8),
  .v (.int .i64 (dRead_3 V.D i))]) (fun q2 L => L.set 3 (.p (PkE (DramS dg (rdD V.D i)))) ++ [ob ((q2 10).blk 0) (rB 72 (dRead_0 V.D i)).toArray 41, ob ((q2 11).blk 0) #[.int .i64 (dRead_1 V.D i), .bool (dRead_2 V.D i)] 60]) OW ?_
 clear OW; intro q2 _ Wq2 OW; simp only [↓pc, ↓pn, vE, Hint.val, Act.put, eL]
 gi_upto_region 2 with fail
 refine rg (fun q3 => [.v (.int .i64 (dRead_3 V.D i)),
  .v (.bool ((dRead_3 V.D i) != 0))]) (fun _ L => L) OW ?_
 clear OW; intro q3 _ Wq3 OW; simp only [↓pc, ↓pn, vE, Hint.val, Act.put, eL]
 cases hB4 : ((dRead_3 V.D i) != 0)
 case true =>
  have dhB4 := bne_iff_ne.1 hB4
  gi_upto_region 3 with fail
  refine rg (fun q5 => [.v (.agg (rB 72 (List.replicate 72 0)).toArray),
   .v (.int .i64 (dRead_3 V.D i)),
   .m (ss 1),
   .v (.int .i64 (dRead_3 V.D i))]) (fun _ L => L) OW ?_
  clear OW; intro q5 _ Wq5 OW; simp only [↓pc, ↓pn, vE, Hint.val, Act.put, eL]
  replace OW := Lib.hid (OwnE.re (L' := [.c [], ob ((q1 0).blk 0) (rB 72 (List.replicate 72 0)).toArray 41, ob ((q2 10).blk 0) (rB 72 (dRead_0 V.D i)).toArray 41, ob ((q2 11).blk 0) #[.int .i64 (dRead_1 V.D i), .bool (dRead_2 V.D i)] 60, .p (PkE (DevS g { V with D := rdD V.D i, l := (V.l) }))]) OW.out [[0], [1], [7], [8], [2, 3, 4, 5, 6]] (Ns := [[.c []], [ob ((q1 0).blk 0) (rB 72 (List.replicate 72 0)).toArray 41], [ob ((q2 10).blk 0) (rB 72 (dRead_0 V.D i)).toArray 41], [ob ((q2 11).blk 0) #[.int .i64 (dRead_1 V.D i), .bool (dRead_2 V.D i)] 60], [ob g #[.pointer (some ⟨dg, 0, none⟩), .map (some gm), .map (some gk), v] 141, .p (PkE (DramS dg (rdD V.D i))), mpRw V.ghost gm, mpMk V.marks gk, slAc v V.l]]) (by kernel_rfl) ⟨satG_one _, satG_one _, satG_one _, satG_one _, PkE.of (⟨_, _, _, _, rfl⟩), trivial⟩)
  gi_wp2
  exact leafE HS HH OW [.s (rB 72 (List.replicate 72 0)) 1, .t (.int .i64 (dRead_3 V.D i))] Env.zero [4] [] (by (try simp only [vRead_0, vRead_1, vRead_2]); (repeat (first | rw [hB4] | rw [cond_true] | rw [cond_false])); first | rfl | kernel_rfl) (by kernel_rfl) (by simp only [rdV]; (try simp only [vRead_0, vRead_1, vRead_2]); (repeat (first | rw [hB4] | rw [cond_true] | rw [cond_false])); kernel_rfl)
 have dhB4 := Lib.hid (eq_of_bne_false hB4)
 gi_upto_region 4 with fail
 cases hB6 : (dRead_2 V.D i)
 case true =>
  gi_upto_region 4 with fail
  refine rg (fun q7 => [.v (.pointer (some ⟨g, 0, none⟩)),
   .v (.pointer (some ⟨g, 0, none⟩)),
   .v (.pointer (some ⟨g, 0, none⟩)),
   .v (.pointer (some ⟨g, 3, none⟩)),
   .m (ld 2 (v)),
   .v (.int .i64 i),
   .m (ls 8 ([.int .i64 (dRead_1 V.D i), .bool (dRead_2 V.D i)])),
   .v (.pointer (some ⟨g, 0, none⟩)),
   .v (.pointer (some ⟨g, 0, none⟩)),
   .v (.pointer (some ⟨g, 0, none⟩)),
   .m (ld 2 (.pointer (some ⟨dg, 0, none⟩))),
   .c [3] [] (dMode dg (rdD V.D i)),
   .m (ls 7 (rB 72 (dRead_0 V.D i))),
   .v (.pointer (some ⟨g, 0, none⟩)),
   .v (.pointer (some ⟨g, 0, none⟩)),
   .v (.pointer (some ⟨g, 1, none⟩)),
   .m (ld 2 (.map (some gm))),
   .v (.pointer (some ⟨(q2 11).blk 0, 0, none⟩)),
   .m (ld 8 (.int .i64 (dRead_1 V.D i))),
   .m (mg 4 (mpRw V.ghost gm) gm (dRead_1 V.D i) (fun _ h => h)),
   .c [] [] (show Con _ 86 #[.int .i64 ((rdD V.D i).mode), .agg (rB 72 (dRead_0 V.D i)).toArray, .agg (rB 72 (V.ghost (dRead_1 V.D i))).toArray] _ _ _ fun _ => .int .i64 ((expo ((rdD V.D i).mode) (dRead_0 V.D i) (V.ghost (dRead_1 V.D i)) : Nat) : Int) from conB (enters_of Try.func86 (by kernel_rfl) rfl) fun w' => (by rw [rB_raw (n := 72) (xs := (dRead_0 V.D i)) (show ((dRead_0 V.D i)).length = 72 by first | rfl | (simp only [List.length_set, List.length_append, List.length_replicate, List.length_cons, List.length_nil, List.length_map, List.length_range, List.length_take, List.length_drop, HRL, hV.gl]; done) | (simp only [List.length_set, List.length_append, List.length_replicate, List.length_cons, List.length_nil, List.length_map, List.length_range, List.length_take, List.length_drop, HRL, hV.gl]; omega)), rB_raw (n := 72) (xs := (V.ghost (dRead_1 V.D i))) (show ((V.ghost (dRead_1 V.D i))).length = 72 by first | rfl | (simp only [List.length_set, List.length_append, List.length_replicate, List.length_cons, List.length_nil, List.length_map, List.length_range, List.length_take, List.length_drop, HRL, hV.gl]; done) | (simp only [List.length_set, List.length_append, List.length_replicate, List.length_cons, List.length_nil, List.length_map, List.length_range, List.length_take, List.length_drop, HRL, hV.gl]; omega))]; exact exposure_any ((rdD V.D i).mode) (dRead_0 V.D i) (V.ghost (dRead_1 V.D i)) (by first | rfl | (simp only [List.length_set, List.length_append, List.length_replicate, List.length_cons, List.length_nil, List.length_map, List.length_range, List.length_take, List.length_drop, HRL, hV.gl]; done) | (simp only [List.length_set, List.length_append, List.length_replicate, List.length_cons, List.length_nil, List.length_map, List.length_range, List.length_take, List.length_drop, HRL, hV.gl]; omega)) (by first | rfl | (simp only [List.length_set, List.length_append, List.length_replicate, List.length_cons, List.length_nil, List.length_map, List.length_range, List.length_take, List.length_drop, HRL, hV.gl]; done) | (simp only [List.length_set, List.length_append, List.length_replicate, List.length_cons, List.length_nil, List.length_map, List.length_range, List.length_take, List.length_drop, HRL, hV.gl]; omega)) _)),
   .v (.pointer (some ⟨(q2 11).blk 0, 1, none⟩)),
   .m (ld 8 (.bool (dRead_2 V.D i))),
   .v (.bool (!(dRead_2 V.D i))),
   .v (.bool (!(dRead_2 V.D i))),
   .v (.pointer (some ⟨g, 0, none⟩)),
   .v (.pointer (some ⟨(q2 11).blk 0, 0, none⟩)),
   .m (ld 8 (.int .i64 (dRead_1 V.D i))),
   .c [2, 5] [] (vMarkP g gk dg gm v V.marks (dRead_1 V.D i)),
   .k (.bool ((!(dRead_2 V.D i)) && (V.marks (dRead_1 V.D i) == 1))),
   .v (.agg #[.bool false, .int .i64 i, .int .i64 (dRead_1 V.D i), .bool (dRead_2 V.D i), .int .i64 ((expo ((rdD V.D i).mode) (dRead_0 V.D i) (V.ghost (dRead_1 V.D i)) : Nat) : Int), .bool ((!(dRead_2 V.D i)) && (V.marks (dRead_1 V.D i) == 1))]),
   .m (bs 9 1),
   .m (apB 6 9 slTAc (v) (xs := V.l) (ys := [(⟨false, i, (dRead_1 V.D i), (dRead_2 V.D i), ((expo ((rdD V.D i).mode) (dRead_0 V.D i) (V.ghost (dRead_1 V.D i)) : Nat) : Int), (!(dRead_2 V.D i)) && (V.marks (dRead_1 V.D i) == 1)⟩ : Ac)]) h1Ac (fun _ => rfl) (by simp only [List.length_set, List.length_append, List.length_replicate, List.length_cons, List.length_nil, List.length_map, List.length_range, List.length_take, List.length_drop, HRL, hV.gl]; omega)),
   .v (.pointer (some ⟨g, 0, none⟩)),
   .v (.pointer (some ⟨g, 3, none⟩)),
   .m (stV 2 6 (slAc ((q7 32).val 0) (V.l ++ ([(⟨false, i, (dRead_1 V.D i), (dRead_2 V.D i), ((expo ((rdD V.D i).mode) (dRead_0 V.D i) (V.ghost (dRead_1 V.D i)) : Nat) : Int), (!(dRead_2 V.D i)) && (V.marks (dRead_1 V.D i) == 1)⟩ : Ac)]))) ((q7 32).val 0) fun bs h => SlE.one ((fun _ h => h) bs h))]) (fun q7 L => (L.set 2 (ob g #[.pointer (some ⟨dg, 0, none⟩), .map (some gm), .map (some gk), (q7 32).val 0] 141)).set 6 (slAc ((q7 32).val 0) (V.l ++ ([(⟨false, i, (dRead_1 V.D i), (dRead_2 V.D i), ((expo ((rdD V.D i).mode) (dRead_0 V.D i) (V.ghost (dRead_1 V.D i)) : Nat) : Int), (!(dRead_2 V.D i)) && (V.marks (dRead_1 V.D i) == 1)⟩ : Ac)]))) ++ [ob ((q7 31).blk 0) #[.bool false, .int .i64 i, .int .i64 (dRead_1 V.D i), .bool (dRead_2 V.D i), .int .i64 ((expo ((rdD V.D i).mode) (dRead_0 V.D i) (V.ghost (dRead_1 V.D i)) : Nat) : Int), .bool ((!(dRead_2 V.D i)) && (V.marks (dRead_1 V.D i) == 1))] 101]) OW ?_
  clear OW; intro q7 _ Wq7 OW; simp only [↓pc, ↓pn, vE, Hint.val, Act.put, eL]
  gi_upto_region 5 with fail
  refine rg (fun q8 => [.m (ls 7 (rB 72 (dRead_0 V.D i))),
   .m (ss 1),
   .v (.int .i64 0)]) (fun q8 L => L.set 1 (ob ((q1 0).blk 0) (rB 72 (dRead_0 V.D i)).toArray 41)) OW ?_
  clear OW; intro q8 _ Wq8 OW; simp only [↓pc, ↓pn, vE, Hint.val, Act.put, eL]
  replace OW := Lib.hid (OwnE.re (L' := [.c [], ob ((q1 0).blk 0) (rB 72 (dRead_0 V.D i)).toArray 41, ob ((q2 10).blk 0) (rB 72 (dRead_0 V.D i)).toArray 41, ob ((q2 11).blk 0) #[.int .i64 (dRead_1 V.D i), .bool (dRead_2 V.D i)] 60, ob ((q7 31).blk 0) #[.bool false, .int .i64 i, .int .i64 (dRead_1 V.D i), .bool (dRead_2 V.D i), .int .i64 ((expo ((rdD V.D i).mode) (dRead_0 V.D i) (V.ghost (dRead_1 V.D i)) : Nat) : Int), .bool ((!(dRead_2 V.D i)) && (V.marks (dRead_1 V.D i) == 1))] 101, .p (PkE (DevS g { V with D := rdD V.D i, l := (V.l ++ ([(⟨false, i, (dRead_1 V.D i), (dRead_2 V.D i), ((expo ((rdD V.D i).mode) (dRead_0 V.D i) (V.ghost (dRead_1 V.D i)) : Nat) : Int), (!(dRead_2 V.D i)) && (V.marks (dRead_1 V.D i) == 1)⟩ : Ac)])) }))]) OW.out [[0], [1], [7], [8], [9], [2, 3, 4, 5, 6]] (Ns := [[.c []], [ob ((q1 0).blk 0) (rB 72 (dRead_0 V.D i)).toArray 41], [ob ((q2 10).blk 0) (rB 72 (dRead_0 V.D i)).toArray 41], [ob ((q2 11).blk 0) #[.int .i64 (dRead_1 V.D i), .bool (dRead_2 V.D i)] 60], [ob ((q7 31).blk 0) #[.bool false, .int .i64 i, .int .i64 (dRead_1 V.D i), .bool (dRead_2 V.D i), .int .i64 ((expo ((rdD V.D i).mode) (dRead_0 V.D i) (V.ghost (dRead_1 V.D i)) : Nat) : Int), .bool ((!(dRead_2 V.D i)) && (V.marks (dRead_1 V.D i) == 1))] 101], [ob g #[.pointer (some ⟨dg, 0, none⟩), .map (some gm), .map (some gk), (q7 32).val 0] 141, .p (PkE (DramS dg (rdD V.D i))), mpRw V.ghost gm, mpMk V.marks gk, slAc ((q7 32).val 0) (V.l ++ ([(⟨false, i, (dRead_1 V.D i), (dRead_2 V.D i), ((expo ((rdD V.D i).mode) (dRead_0 V.D i) (V.ghost (dRead_1 V.D i)) : Nat) : Int), (!(dRead_2 V.D i)) && (V.marks (dRead_1 V.D i) == 1)⟩ : Ac)]))]]) (by kernel_rfl) ⟨satG_one _, satG_one _, satG_one _, satG_one _, satG_one _, PkE.of (⟨_, _, _, _, rfl⟩), trivial⟩)
  gi_wp2
  exact leafE HS HH OW [.s (rB 72 (dRead_0 V.D i)) 1, .t (.int .i64 0)] Env.zero [5] [] (by (try simp only [vRead_0, vRead_1, vRead_2]); (repeat (first | rw [hB4] | rw [hB6] | rw [cond_true] | rw [cond_false])); first | rfl | kernel_rfl) (by kernel_rfl) (by simp only [rdV]; (try simp only [vRead_0, vRead_1, vRead_2]); (repeat (first | rw [hB4] | rw [hB6] | rw [cond_true] | rw [cond_false])); kernel_rfl)
 gi_upto_region 4 with fail
 refine rg (fun q9 => [.v (.pointer (some ⟨g, 0, none⟩)),
  .v (.pointer (some ⟨g, 0, none⟩)),
  .v (.pointer (some ⟨g, 0, none⟩)),
  .v (.pointer (some ⟨g, 3, none⟩)),
  .m (ld 2 (v)),
  .v (.int .i64 i),
  .m (ls 8 ([.int .i64 (dRead_1 V.D i), .bool (dRead_2 V.D i)])),
  .v (.pointer (some ⟨g, 0, none⟩)),
  .v (.pointer (some ⟨g, 0, none⟩)),
  .v (.pointer (some ⟨g, 0, none⟩)),
  .m (ld 2 (.pointer (some ⟨dg, 0, none⟩))),
  .c [3] [] (dMode dg (rdD V.D i)),
  .m (ls 7 (rB 72 (dRead_0 V.D i))),
  .v (.pointer (some ⟨g, 0, none⟩)),
  .v (.pointer (some ⟨g, 0, none⟩)),
  .v (.pointer (some ⟨g, 1, none⟩)),
  .m (ld 2 (.map (some gm))),
  .v (.pointer (some ⟨(q2 11).blk 0, 0, none⟩)),
  .m (ld 8 (.int .i64 (dRead_1 V.D i))),
  .m (mg 4 (mpRw V.ghost gm) gm (dRead_1 V.D i) (fun _ h => h)),
  .c [] [] (show Con _ 86 #[.int .i64 ((rdD V.D i).mode), .agg (rB 72 (dRead_0 V.D i)).toArray, .agg (rB 72 (V.ghost (dRead_1 V.D i))).toArray] _ _ _ fun _ => .int .i64 ((expo ((rdD V.D i).mode) (dRead_0 V.D i) (V.ghost (dRead_1 V.D i)) : Nat) : Int) from conB (enters_of Try.func86 (by kernel_rfl) rfl) fun w' => (by rw [rB_raw (n := 72) (xs := (dRead_0 V.D i)) (show ((dRead_0 V.D i)).length = 72 by first | rfl | (simp only [List.length_set, List.length_append, List.length_replicate, List.length_cons, List.length_nil, List.length_map, List.length_range, List.length_take, List.length_drop, HRL, hV.gl]; done) | (simp only [List.length_set, List.length_append, List.length_replicate, List.length_cons, List.length_nil, List.length_map, List.length_range, List.length_take, List.length_drop, HRL, hV.gl]; omega)), rB_raw (n := 72) (xs := (V.ghost (dRead_1 V.D i))) (show ((V.ghost (dRead_1 V.D i))).length = 72 by first | rfl | (simp only [List.length_set, List.length_append, List.length_replicate, List.length_cons, List.length_nil, List.length_map, List.length_range, List.length_take, List.length_drop, HRL, hV.gl]; done) | (simp only [List.length_set, List.length_append, List.length_replicate, List.length_cons, List.length_nil, List.length_map, List.length_range, List.length_take, List.length_drop, HRL, hV.gl]; omega))]; exact exposure_any ((rdD V.D i).mode) (dRead_0 V.D i) (V.ghost (dRead_1 V.D i)) (by first | rfl | (simp only [List.length_set, List.length_append, List.length_replicate, List.length_cons, List.length_nil, List.length_map, List.length_range, List.length_take, List.length_drop, HRL, hV.gl]; done) | (simp only [List.length_set, List.length_append, List.length_replicate, List.length_cons, List.length_nil, List.length_map, List.length_range, List.length_take, List.length_drop, HRL, hV.gl]; omega)) (by first | rfl | (simp only [List.length_set, List.length_append, List.length_replicate, List.length_cons, List.length_nil, List.length_map, List.length_range, List.length_take, List.length_drop, HRL, hV.gl]; done) | (simp only [List.length_set, List.length_append, List.length_replicate, List.length_cons, List.length_nil, List.length_map, List.length_range, List.length_take, List.length_drop, HRL, hV.gl]; omega)) _)),
  .v (.pointer (some ⟨(q2 11).blk 0, 1, none⟩)),
  .m (ld 8 (.bool (dRead_2 V.D i))),
  .v (.bool (!(dRead_2 V.D i))),
  .v (.bool (!(dRead_2 V.D i))),
  .v (.pointer (some ⟨g, 0, none⟩)),
  .v (.pointer (some ⟨(q2 11).blk 0, 0, none⟩)),
  .m (ld 8 (.int .i64 (dRead_1 V.D i))),
  .c [2, 5] [] (vMarkP g gk dg gm v V.marks (dRead_1 V.D i)),
  .k (.bool ((!(dRead_2 V.D i)) && (V.marks (dRead_1 V.D i) == 1))),
  .v (.agg #[.bool false, .int .i64 i, .int .i64 (dRead_1 V.D i), .bool (dRead_2 V.D i), .int .i64 ((expo ((rdD V.D i).mode) (dRead_0 V.D i) (V.ghost (dRead_1 V.D i)) : Nat) : Int), .bool ((!(dRead_2 V.D i)) && (V.marks (dRead_1 V.D i) == 1))]),
  .m (bs 9 1),
  .m (apB 6 9 slTAc (v) (xs := V.l) (ys := [(⟨false, i, (dRead_1 V.D i), (dRead_2 V.D i), ((expo ((rdD V.D i).mode) (dRead_0 V.D i) (V.ghost (dRead_1 V.D i)) : Nat) : Int), (!(dRead_2 V.D i)) && (V.marks (dRead_1 V.D i) == 1)⟩ : Ac)]) h1Ac (fun _ => rfl) (by simp only [List.length_set, List.length_append, List.length_replicate, List.length_cons, List.length_nil, List.length_map, List.length_range, List.length_take, List.length_drop, HRL, hV.gl]; omega)),
  .v (.pointer (some ⟨g, 0, none⟩)),
  .v (.pointer (some ⟨g, 3, none⟩)),
  .m (stV 2 6 (slAc ((q9 32).val 0) (V.l ++ ([(⟨false, i, (dRead_1 V.D i), (dRead_2 V.D i), ((expo ((rdD V.D i).mode) (dRead_0 V.D i) (V.ghost (dRead_1 V.D i)) : Nat) : Int), (!(dRead_2 V.D i)) && (V.marks (dRead_1 V.D i) == 1)⟩ : Ac)]))) ((q9 32).val 0) fun bs h => SlE.one ((fun _ h => h) bs h))]) (fun q9 L => (L.set 2 (ob g #[.pointer (some ⟨dg, 0, none⟩), .map (some gm), .map (some gk), (q9 32).val 0] 141)).set 6 (slAc ((q9 32).val 0) (V.l ++ ([(⟨false, i, (dRead_1 V.D i), (dRead_2 V.D i), ((expo ((rdD V.D i).mode) (dRead_0 V.D i) (V.ghost (dRead_1 V.D i)) : Nat) : Int), (!(dRead_2 V.D i)) && (V.marks (dRead_1 V.D i) == 1)⟩ : Ac)]))) ++ [ob ((q9 31).blk 0) #[.bool false, .int .i64 i, .int .i64 (dRead_1 V.D i), .bool (dRead_2 V.D i), .int .i64 ((expo ((rdD V.D i).mode) (dRead_0 V.D i) (V.ghost (dRead_1 V.D i)) : Nat) : Int), .bool ((!(dRead_2 V.D i)) && (V.marks (dRead_1 V.D i) == 1))] 101]) OW ?_
 clear OW; intro q9 _ Wq9 OW; simp only [↓pc, ↓pn, vE, Hint.val, Act.put, eL]
 gi_upto_region 5 with fail
 refine rg (fun q10 => [.m (ls 7 (rB 72 (dRead_0 V.D i))),
  .m (ss 1),
  .v (.int .i64 0)]) (fun q10 L => L.set 1 (ob ((q1 0).blk 0) (rB 72 (dRead_0 V.D i)).toArray 41)) OW ?_
 clear OW; intro q10 _ Wq10 OW; simp only [↓pc, ↓pn, vE, Hint.val, Act.put, eL]
 replace OW := Lib.hid (OwnE.re (L' := [.c [], ob ((q1 0).blk 0) (rB 72 (dRead_0 V.D i)).toArray 41, ob ((q2 10).blk 0) (rB 72 (dRead_0 V.D i)).toArray 41, ob ((q2 11).blk 0) #[.int .i64 (dRead_1 V.D i), .bool (dRead_2 V.D i)] 60, ob ((q9 31).blk 0) #[.bool false, .int .i64 i, .int .i64 (dRead_1 V.D i), .bool (dRead_2 V.D i), .int .i64 ((expo ((rdD V.D i).mode) (dRead_0 V.D i) (V.ghost (dRead_1 V.D i)) : Nat) : Int), .bool ((!(dRead_2 V.D i)) && (V.marks (dRead_1 V.D i) == 1))] 101, .p (PkE (DevS g { V with D := rdD V.D i, l := (V.l ++ ([(⟨false, i, (dRead_1 V.D i), (dRead_2 V.D i), ((expo ((rdD V.D i).mode) (dRead_0 V.D i) (V.ghost (dRead_1 V.D i)) : Nat) : Int), (!(dRead_2 V.D i)) && (V.marks (dRead_1 V.D i) == 1)⟩ : Ac)])) }))]) OW.out [[0], [1], [7], [8], [9], [2, 3, 4, 5, 6]] (Ns := [[.c []], [ob ((q1 0).blk 0) (rB 72 (dRead_0 V.D i)).toArray 41], [ob ((q2 10).blk 0) (rB 72 (dRead_0 V.D i)).toArray 41], [ob ((q2 11).blk 0) #[.int .i64 (dRead_1 V.D i), .bool (dRead_2 V.D i)] 60], [ob ((q9 31).blk 0) #[.bool false, .int .i64 i, .int .i64 (dRead_1 V.D i), .bool (dRead_2 V.D i), .int .i64 ((expo ((rdD V.D i).mode) (dRead_0 V.D i) (V.ghost (dRead_1 V.D i)) : Nat) : Int), .bool ((!(dRead_2 V.D i)) && (V.marks (dRead_1 V.D i) == 1))] 101], [ob g #[.pointer (some ⟨dg, 0, none⟩), .map (some gm), .map (some gk), (q9 32).val 0] 141, .p (PkE (DramS dg (rdD V.D i))), mpRw V.ghost gm, mpMk V.marks gk, slAc ((q9 32).val 0) (V.l ++ ([(⟨false, i, (dRead_1 V.D i), (dRead_2 V.D i), ((expo ((rdD V.D i).mode) (dRead_0 V.D i) (V.ghost (dRead_1 V.D i)) : Nat) : Int), (!(dRead_2 V.D i)) && (V.marks (dRead_1 V.D i) == 1)⟩ : Ac)]))]]) (by kernel_rfl) ⟨satG_one _, satG_one _, satG_one _, satG_one _, satG_one _, PkE.of (⟨_, _, _, _, rfl⟩), trivial⟩)
 gi_wp2
 exact leafE HS HH OW [.s (rB 72 (dRead_0 V.D i)) 1, .t (.int .i64 0)] Env.zero [5] [] (by (try simp only [vRead_0, vRead_1, vRead_2]); (repeat (first | rw [hB4] | rw [hB6] | rw [cond_true] | rw [cond_false])); first | rfl | kernel_rfl) (by kernel_rfl) (by simp only [rdV]; (try simp only [vRead_0, vRead_1, vRead_2]); (repeat (first | rw [hB4] | rw [hB6] | rw [cond_true] | rw [cond_false])); kernel_rfl)
end Go.Proofs.Ytckhkagkpldoiaa.E
