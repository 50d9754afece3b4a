/- The chips: a place looked at, the place where an access goes, writes and reads. -/
import Derived.Test.YtckhkagkpldoiaaDrC
import Derived.WalkKit
import Derived.Sort.CutIn
import Derived.IntWalk
namespace Go.Proofs.Ytckhkagkpldoiaa.E
open Go Go.RowKit Go.Shelf
attribute [local go_sem] Oper.semAt_some
set_option linter.unusedVariables false
set_option linter.unusedSimpArgs false

attribute [local irreducible] fapply ovF gat_0 gat_1 gat_2 gat_3 gat_4 gindex_0 gindex_1
def dLook_0 (D : Dr) (i : Int) : List UInt8 := (bif (gat_4 D.g0 D.g1 D.g2 D.g3 D.g4 i) != 0 then List.replicate 72 0 else ovF D.lasts D.mode (gat_0 D.g0 D.g1 D.g2 D.g3 D.g4 i) (gat_1 D.g0 D.g1 D.g2 D.g3 D.g4 i) (gat_2 D.g0 D.g1 D.g2 D.g3 D.g4 i) (gat_3 D.g0 D.g1 D.g2 D.g3 D.g4 i) (D.cells i) D.lasts.length)
def dLook_1 (D : Dr) (i : Int) : Int := (bif (gat_4 D.g0 D.g1 D.g2 D.g3 D.g4 i) != 0 then (gat_4 D.g0 D.g1 D.g2 D.g3 D.g4 i) else 0)
set_option maxRecDepth 100000 in
set_option maxHeartbeats 1000000 in
theorem dLook_c (g : Nat) (D : Dr) (i : Int) (hD : DrOk D) (bs0 : Objs) (h0 : PkE (DramS g D) bs0) : Con Try.prog 36 #[.pointer (some ⟨g, 0, none⟩), .int .i64 i] [.c bs0] [] (fun _ => []) (fun _ => .tuple #[.agg (rB 72 (dLook_0 D i)).toArray, .int .i64 (dLook_1 D i)]) := by
 obtain ⟨L4, cs4_0_0, ⟨gm, v1, v2, rfl⟩, hs4_0_0, hbs0⟩ := h0
 obtain ⟨_, cs4_0_1, rfl, rfl, hs4_0_1⟩ := satL_cons hs4_0_0
 obtain ⟨c0_1, cs4_0_2, rfl, k0_1, hs4_0_2⟩ := satL_cons hs4_0_1
 obtain ⟨c0_2, cs4_0_3, rfl, k0_2, hs4_0_3⟩ := satL_cons hs4_0_2
 obtain ⟨c0_3, cs4_0_4, rfl, k0_3, hs4_0_4⟩ := satL_cons hs4_0_3
 obtain rfl := satL_nil hs4_0_4
 refine Con.of (enters_of Try.func36 (by kernel_rfl) rfl) fun w cs HS HH OW => ?_
 refine (callsIn_wide (n := 6)).1 ?_
 refine callsIn_of_wp_marks Try.func36 rfl trivial ?_ rfl
 simp only [Try.ntmps36, eF, Nat.reduceAdd, Nat.reduceSub]
 replace OW := Lib.hid (OW.out.split 0 [[(g, .cells #[.int .i64 D.g0, .int .i64 D.g1, .int .i64 D.g2, .int .i64 D.g3, .int .i64 D.g4, .int .i64 D.mode, .map (some gm), v1, v2] 125 (0, 0))], c0_1, c0_2, c0_3] (congrArg (fun x => some (Ent.c x)) hbs0))
 replace OW := Lib.hid (OwnE.cast (L' := [.c [], ob g #[.int .i64 D.g0, .int .i64 D.g1, .int .i64 D.g2, .int .i64 D.g3, .int .i64 D.g4, .int .i64 D.mode, .map (some gm), v1, v2] 125, .c c0_1, .c c0_2, .c c0_3]) OW.out (by kernel_rfl))
 gi_upto_region 0 with fail
 refine rg (fun q1 => [.m (al 5),
  .v (.int .i64 0)]) (fun q1 L => L ++ [ob ((q1 0).blk 0) (rB 72 (List.replicate 72 0)).toArray 41]) OW ?_
 clear OW; intro q1 _ Wq1 OW; simp only [↓pc, ↓pn, vE, Hint.val, Act.put, eL]
 gi_upto_region 1 with fail
 refine rg (fun q2 => [.v (.pointer (some ⟨g, 0, none⟩)),
  .v (.pointer (some ⟨g, 0, none⟩)),
  .v (.pointer (some ⟨g, 0, none⟩)),
  .m (ls 1 ([.int .i64 D.g0, .int .i64 D.g1, .int .i64 D.g2, .int .i64 D.g3, .int .i64 D.g4])),
  .v (.int .i64 i),
  .c [] [] (gat D.g0 D.g1 D.g2 D.g3 D.g4 i),
  .v (.tuple #[.agg #[.int .i64 (gat_0 D.g0 D.g1 D.g2 D.g3 D.g4 i), .int .i64 (gat_1 D.g0 D.g1 D.g2 D.g3 D.g4 i), .int .i64 (gat_2 D.g0 D.g1 D.g2 D.g3 D.g4 i), .int .i64 (gat_3 D.g0 D.g1 D.g2 D.g3 D.g4 i)], .int .i64 (gat_4 D.g0 D.g1 D.g2 D.g3 D.g4 i)]),
  .v (.agg #[.int .i64 (gat_0 D.g0 D.g1 D.g2 D.g3 D.g4 i), .int .i64 (gat_1 D.g0 D.g1 D.g2 D.g3 D.g4 i), .int .i64 (gat_2 D.g0 D.g1 D.g2 D.g3 D.g4 i), .int .i64 (gat_3 D.g0 D.g1 D.g2 D.g3 D.g4 i)]),
  .v (.int .i64 (gat_4 D.g0 D.g1 D.g2 D.g3 D.g4 i)),
  .m (al 6),
  .m (ss 6),
  .v (.int .i64 (gat_4 D.g0 D.g1 D.g2 D.g3 D.g4 i))]) (fun q2 L => L ++ [ob ((q2 9).blk 0) #[.int .i64 (gat_0 D.g0 D.g1 D.g2 D.g3 D.g4 i), .int .i64 (gat_1 D.g0 D.g1 D.g2 D.g3 D.g4 i), .int .i64 (gat_2 D.g0 D.g1 D.g2 D.g3 D.g4 i), .int .i64 (gat_3 D.g0 D.g1 D.g2 D.g3 D.g4 i)] 23]) OW ?_
 clear OW; intro q2 _ Wq2 OW; simp only [↓pc, ↓pn, vE, Hint.val, Act.put, eL]
 gi_upto_region 2 with fail
 refine rg (fun q3 => [.v (.int .i64 (gat_4 D.g0 D.g1 D.g2 D.g3 D.g4 i)),
  .v (.bool ((gat_4 D.g0 D.g1 D.g2 D.g3 D.g4 i) != 0))]) (fun _ L => L) OW ?_
 clear OW; intro q3 _ Wq3 OW; simp only [↓pc, ↓pn, vE, Hint.val, Act.put, eL]
 cases hB4 : ((gat_4 D.g0 D.g1 D.g2 D.g3 D.g4 i) != 0)
 case true =>
  have dhB4 := bne_iff_ne.1 hB4
  gi_upto_region 3 with fail
  refine rg (fun q5 => [.v (.agg (rB 72 (List.replicate 72 0)).toArray),
   .v (.int .i64 (gat_4 D.g0 D.g1 D.g2 D.g3 D.g4 i)),
   .m (ss 5),
   .v (.int .i64 (gat_4 D.g0 D.g1 D.g2 D.g3 D.g4 i))]) (fun _ L => L) OW ?_
  clear OW; intro q5 _ Wq5 OW; simp only [↓pc, ↓pn, vE, Hint.val, Act.put, eL]
  replace OW := Lib.hid (OwnE.re (L' := [.c bs0, .c [], ob ((q1 0).blk 0) (rB 72 (List.replicate 72 0)).toArray 41, ob ((q2 9).blk 0) #[.int .i64 (gat_0 D.g0 D.g1 D.g2 D.g3 D.g4 i), .int .i64 (gat_1 D.g0 D.g1 D.g2 D.g3 D.g4 i), .int .i64 (gat_2 D.g0 D.g1 D.g2 D.g3 D.g4 i), .int .i64 (gat_3 D.g0 D.g1 D.g2 D.g3 D.g4 i)] 23]) OW.out [[1, 2, 3, 4], [0], [5], [6]] (Ns := [[ob g #[.int .i64 D.g0, .int .i64 D.g1, .int .i64 D.g2, .int .i64 D.g3, .int .i64 D.g4, .int .i64 D.mode, .map (some gm), v1, v2] 125, .c c0_1, .c c0_2, .c c0_3], [.c []], [ob ((q1 0).blk 0) (rB 72 (List.replicate 72 0)).toArray 41], [ob ((q2 9).blk 0) #[.int .i64 (gat_0 D.g0 D.g1 D.g2 D.g3 D.g4 i), .int .i64 (gat_1 D.g0 D.g1 D.g2 D.g3 D.g4 i), .int .i64 (gat_2 D.g0 D.g1 D.g2 D.g3 D.g4 i), .int .i64 (gat_3 D.g0 D.g1 D.g2 D.g3 D.g4 i)] 23]]) (by kernel_rfl) ⟨fun ds hd => (show ds.flatten = bs0 by rw [satL_cE (cs := [[(g, .cells #[.int .i64 D.g0, .int .i64 D.g1, .int .i64 D.g2, .int .i64 D.g3, .int .i64 D.g4, .int .i64 D.mode, .map (some gm), v1, v2] 125 (0, 0))], c0_1, c0_2, c0_3]) hd]; exact hbs0.symm), satG_one _, satG_one _, satG_one _, trivial⟩)
  gi_wp2
  exact leafE HS HH OW [.s (rB 72 (List.replicate 72 0)) 2, .t (.int .i64 (gat_4 D.g0 D.g1 D.g2 D.g3 D.g4 i))] Env.zero [] [(0, 0)] (by (try simp only [dLook_0, dLook_1]); (repeat (first | rw [hB4] | rw [cond_true] | rw [cond_false])); first | rfl | kernel_rfl) (by kernel_rfl) (by (try simp only [dLook_0, dLook_1]); (repeat (first | rw [hB4] | rw [cond_true] | rw [cond_false])); kernel_rfl)
 have dhB4 := Lib.hid (eq_of_bne_false hB4)
 gi_upto_region 4 with fail
 refine rg (fun q6 => [.v (.pointer (some ⟨g, 0, none⟩)),
  .v (.pointer (some ⟨g, 0, none⟩)),
  .v (.pointer (some ⟨g, 7, none⟩)),
  .m (ld 1 (v1)),
  .v (.pointer (some ⟨g, 0, none⟩)),
  .v (.pointer (some ⟨g, 0, none⟩)),
  .v (.pointer (some ⟨g, 5, none⟩)),
  .m (ld 1 (.int .i64 D.mode)),
  .m (ls 6 ([.int .i64 (gat_0 D.g0 D.g1 D.g2 D.g3 D.g4 i), .int .i64 (gat_1 D.g0 D.g1 D.g2 D.g3 D.g4 i), .int .i64 (gat_2 D.g0 D.g1 D.g2 D.g3 D.g4 i), .int .i64 (gat_3 D.g0 D.g1 D.g2 D.g3 D.g4 i)])),
  .v (.pointer (some ⟨g, 0, none⟩)),
  .v (.pointer (some ⟨g, 0, none⟩)),
  .v (.pointer (some ⟨g, 6, none⟩)),
  .m (ld 1 (.map (some gm))),
  .v (.int .i64 i),
  .m (mg 2 (.c c0_1) gm i (cP k0_1)),
  .c [3] [] (overB v1 D.lasts D.mode (gat_0 D.g0 D.g1 D.g2 D.g3 D.g4 i) (gat_1 D.g0 D.g1 D.g2 D.g3 D.g4 i) (gat_2 D.g0 D.g1 D.g2 D.g3 D.g4 i) (gat_3 D.g0 D.g1 D.g2 D.g3 D.g4 i) (D.cells i) (by first | rfl | (simp only [List.length_set, List.length_append, List.length_replicate, List.length_cons, List.length_nil, List.length_map, List.length_range, List.length_take, List.length_drop, hD.cl, ovF_len]; done) | (simp only [List.length_set, List.length_append, List.length_replicate, List.length_cons, List.length_nil, List.length_map, List.length_range, List.length_take, List.length_drop, hD.cl, ovF_len]; omega)) (Nat.le_trans hD.l1 (by decide)) hD.f1 c0_2 k0_2),
  .m (ss 5),
  .v (.int .i64 0)]) (fun q6 L => L.set 5 (ob ((q1 0).blk 0) (rB 72 (ovF D.lasts D.mode (gat_0 D.g0 D.g1 D.g2 D.g3 D.g4 i) (gat_1 D.g0 D.g1 D.g2 D.g3 D.g4 i) (gat_2 D.g0 D.g1 D.g2 D.g3 D.g4 i) (gat_3 D.g0 D.g1 D.g2 D.g3 D.g4 i) (D.cells i) D.lasts.length)).toArray 41)) OW ?_
 clear OW; intro q6 _ Wq6 OW; simp only [↓pc, ↓pn, vE, Hint.val, Act.put, eL]
 replace OW := Lib.hid (OwnE.re (L' := [.c bs0, .c [], ob ((q1 0).blk 0) (rB 72 (ovF D.lasts D.mode (gat_0 D.g0 D.g1 D.g2 D.g3 D.g4 i) (gat_1 D.g0 D.g1 D.g2 D.g3 D.g4 i) (gat_2 D.g0 D.g1 D.g2 D.g3 D.g4 i) (gat_3 D.g0 D.g1 D.g2 D.g3 D.g4 i) (D.cells i) D.lasts.length)).toArray 41, ob ((q2 9).blk 0) #[.int .i64 (gat_0 D.g0 D.g1 D.g2 D.g3 D.g4 i), .int .i64 (gat_1 D.g0 D.g1 D.g2 D.g3 D.g4 i), .int .i64 (gat_2 D.g0 D.g1 D.g2 D.g3 D.g4 i), .int .i64 (gat_3 D.g0 D.g1 D.g2 D.g3 D.g4 i)] 23]) OW.out [[1, 2, 3, 4], [0], [5], [6]] (Ns := [[ob g #[.int .i64 D.g0, .int .i64 D.g1, .int .i64 D.g2, .int .i64 D.g3, .int .i64 D.g4, .int .i64 D.mode, .map (some gm), v1, v2] 125, .c c0_1, .c c0_2, .c c0_3], [.c []], [ob ((q1 0).blk 0) (rB 72 (ovF D.lasts D.mode (gat_0 D.g0 D.g1 D.g2 D.g3 D.g4 i) (gat_1 D.g0 D.g1 D.g2 D.g3 D.g4 i) (gat_2 D.g0 D.g1 D.g2 D.g3 D.g4 i) (gat_3 D.g0 D.g1 D.g2 D.g3 D.g4 i) (D.cells i) D.lasts.length)).toArray 41], [ob ((q2 9).blk 0) #[.int .i64 (gat_0 D.g0 D.g1 D.g2 D.g3 D.g4 i), .int .i64 (gat_1 D.g0 D.g1 D.g2 D.g3 D.g4 i), .int .i64 (gat_2 D.g0 D.g1 D.g2 D.g3 D.g4 i), .int .i64 (gat_3 D.g0 D.g1 D.g2 D.g3 D.g4 i)] 23]]) (by kernel_rfl) ⟨fun ds hd => (show ds.flatten = bs0 by rw [satL_cE (cs := [[(g, .cells #[.int .i64 D.g0, .int .i64 D.g1, .int .i64 D.g2, .int .i64 D.g3, .int .i64 D.g4, .int .i64 D.mode, .map (some gm), v1, v2] 125 (0, 0))], c0_1, c0_2, c0_3]) hd]; exact hbs0.symm), satG_one _, satG_one _, satG_one _, trivial⟩)
 gi_wp2
 exact leafE HS HH OW [.s (rB 72 (ovF D.lasts D.mode (gat_0 D.g0 D.g1 D.g2 D.g3 D.g4 i) (gat_1 D.g0 D.g1 D.g2 D.g3 D.g4 i) (gat_2 D.g0 D.g1 D.g2 D.g3 D.g4 i) (gat_3 D.g0 D.g1 D.g2 D.g3 D.g4 i) (D.cells i) D.lasts.length)) 2, .t (.int .i64 0)] Env.zero [] [(0, 0)] (by (try simp only [dLook_0, dLook_1]); (repeat (first | rw [hB4] | rw [cond_true] | rw [cond_false])); first | rfl | kernel_rfl) (by kernel_rfl) (by (try simp only [dLook_0, dLook_1]); (repeat (first | rw [hB4] | rw [cond_true] | rw [cond_false])); kernel_rfl)
theorem dLook (g : Nat) (D : Dr) (i : Int) (hD : DrOk D) : Con Try.prog 36 #[.pointer (some ⟨g, 0, none⟩), .int .i64 i] [.p (PkE (DramS g D))] [] (fun _ => []) (fun _ => .tuple #[.agg (rB 72 (dLook_0 D i)).toArray, .int .i64 (dLook_1 D i)]) :=
 Con.ro 0 rfl (fun bs0 h0 => dLook_c g D i hD bs0 h0) (enters_of Try.func36 (by kernel_rfl) rfl)
def dwD (D : Dr) : Dr := bif ((D.coming.length : Int) == 0) then D else { D with coming := D.coming.drop 1 }
def dwent_0 (D : Dr) (i : Int) : Int := (bif (D.coming.length : Int) == 0 then i else (bif ((D.coming.getD 0 zFa).x0) == 7 then i else (bif (gindex_1 D.g0 D.g1 D.g2 D.g3 D.g4 ((D.coming.getD 0 zFa).x1) ((D.coming.getD 0 zFa).x2) ((D.coming.getD 0 zFa).x3) ((D.coming.getD 0 zFa).x4)) != 0 then i else (gindex_0 D.g0 D.g1 D.g2 D.g3 D.g4 ((D.coming.getD 0 zFa).x1) ((D.coming.getD 0 zFa).x2) ((D.coming.getD 0 zFa).x3) ((D.coming.getD 0 zFa).x4)))))
def dwent_1 (D : Dr) : Bool := (bif (D.coming.length : Int) == 0 then false else (bif ((D.coming.getD 0 zFa).x0) == 7 then true else false))
def dwent_2 (g : Nat) (D : Dr) : Objs → Prop := (bif (D.coming.length : Int) == 0 then PkE (DramS g { D with coming := (D.coming) }) else PkE (DramS g { D with coming := (D.coming.drop 1) }))
set_option maxRecDepth 100000 in
set_option maxHeartbeats 1000000 in
theorem dwent (g : Nat) (D : Dr) (i : Int) (hD : DrOk D) : Con Try.prog 74 #[.pointer (some ⟨g, 0, none⟩), .int .i64 i] [.p (PkE (DramS g D))] [0] (fun _ => [.p (PkE (DramS g (dwD D)))]) (fun _ => .agg #[.int .i64 (dwent_0 D i), .bool (dwent_1 D)]) := by
 refine Con.of (enters_of Try.func74 (by kernel_rfl) rfl) fun w cs HS HH OW => ?_
 refine (callsIn_wide (n := 6)).1 ?_
 refine callsIn_of_wp_marks Try.func74 rfl trivial ?_ rfl
 simp only [Try.ntmps74, eF, Nat.reduceAdd, Nat.reduceSub]
 gi_upto_region 0 with fail
 refine rg (fun q1 => [.m (al 1)]) (fun q1 L => L ++ [ob ((q1 0).blk 0) #[.int .i64 0, .bool false] 60]) OW ?_
 clear OW; intro q1 _ Wq1 OW; simp only [↓pc, ↓pn, vE, Hint.val, Act.put, eL]
 gi_upto_region 1 with fail
 obtain ⟨L4, ⟨gm, v1, v2, rfl⟩, OW0⟩ := OW.out.openE (S := DramS g D) 0
 replace OW := Lib.hid (OwnE.cast (L' := [.c [], ob ((q1 0).blk 0) #[.int .i64 0, .bool false] 60, ob g #[.int .i64 D.g0, .int .i64 D.g1, .int .i64 D.g2, .int .i64 D.g3, .int .i64 D.g4, .int .i64 D.mode, .map (some gm), v1, v2] 125, mpRw D.cells gm, slFa v1 D.lasts, slFa v2 D.coming]) OW0 (by kernel_rfl)); clear OW0
 refine rg (fun q2 => [.v (.pointer (some ⟨g, 0, none⟩)),
  .v (.pointer (some ⟨g, 0, none⟩)),
  .v (.pointer (some ⟨g, 8, none⟩)),
  .m (ld 2 (v2)),
  .m (lenS 5 (slFa v2 D.coming) (fun _ h => h)),
  .v (.bool ((D.coming.length : Int) == 0))]) (fun _ L => L) OW ?_
 clear OW; intro q2 _ Wq2 OW; simp only [↓pc, ↓pn, vE, Hint.val, Act.put, eL]
 cases hB3 : ((D.coming.length : Int) == 0)
 case true =>
  have dhB3 := Lib.hid (eq_of_beq hB3)
  gi_upto_region 2 with fail
  refine rg (fun q4 => [.v (.int .i64 i),
   .v (.agg #[.int .i64 i, .bool false]),
   .m (ss 1)]) (fun q4 L => L.set 1 (ob ((q1 0).blk 0) #[.int .i64 i, .bool false] 60)) OW ?_
  clear OW; intro q4 _ Wq4 OW; simp only [↓pc, ↓pn, vE, Hint.val, Act.put, eL]
  replace OW := Lib.hid (OwnE.re (L' := [.c [], ob ((q1 0).blk 0) #[.int .i64 i, .bool false] 60, .p (PkE (DramS g { D with coming := (D.coming) }))]) OW.out [[0], [1], [2, 3, 4, 5]] (Ns := [[.c []], [ob ((q1 0).blk 0) #[.int .i64 i, .bool false] 60], [ob g #[.int .i64 D.g0, .int .i64 D.g1, .int .i64 D.g2, .int .i64 D.g3, .int .i64 D.g4, .int .i64 D.mode, .map (some gm), v1, v2] 125, mpRw D.cells gm, slFa v1 D.lasts, slFa v2 D.coming]]) (by kernel_rfl) ⟨satG_one _, satG_one _, PkE.of (⟨_, _, _, rfl⟩), trivial⟩)
  gi_wp2
  exact leafE HS HH OW [.s ([.int .i64 i, .bool false]) 1] Env.zero [2] [] (by (try simp only [dwent_0, dwent_1, dwent_2]); (repeat (first | rw [hB3] | rw [cond_true] | rw [cond_false])); first | rfl | kernel_rfl) (by kernel_rfl) (by simp only [dwD]; (try simp only [dwent_0, dwent_1, dwent_2]); (repeat (first | rw [hB3] | rw [cond_true] | rw [cond_false])); kernel_rfl)
 have dhB3 := ne_of_beq_false hB3
 gi_upto_region 3 with fail
 have HL2 := hD.l2
 have HNE : 0 < D.coming.length := (by have h9 := dhB3; omega)
 refine rg (fun q5 => [.v (.pointer (some ⟨g, 0, none⟩)),
  .v (.pointer (some ⟨g, 0, none⟩)),
  .v (.pointer (some ⟨g, 8, none⟩)),
  .m (ld 2 (v2)),
  .m (idxS 5 (slFa v2 D.coming) 0 8 (fun _ h => h) (by omega)),
  .m (lsS (l := [.int .i64 ((D.coming.getD 0 zFa).x0), .int .i64 ((D.coming.getD 0 zFa).x1), .int .i64 ((D.coming.getD 0 zFa).x2), .int .i64 ((D.coming.getD 0 zFa).x3), .int .i64 ((D.coming.getD 0 zFa).x4), .int .i64 ((D.coming.getD 0 zFa).x5), .int .i64 ((D.coming.getD 0 zFa).x6), .int .i64 ((D.coming.getD 0 zFa).x7)]) (d := zFa) 5 (slFa v2 D.coming) 0 8 0 (fun _ h => h) (fun _ => rfl) (by omega) (Nat.le_of_ble_eq_true rfl) (by kernel_rfl)),
  .m (al 6),
  .m (ss 6)]) (fun q5 L => L ++ [ob ((q5 6).blk 0) #[.int .i64 ((D.coming.getD 0 zFa).x0), .int .i64 ((D.coming.getD 0 zFa).x1), .int .i64 ((D.coming.getD 0 zFa).x2), .int .i64 ((D.coming.getD 0 zFa).x3), .int .i64 ((D.coming.getD 0 zFa).x4), .int .i64 ((D.coming.getD 0 zFa).x5), .int .i64 ((D.coming.getD 0 zFa).x6), .int .i64 ((D.coming.getD 0 zFa).x7)] 25]) OW ?_
 clear OW; intro q5 _ Wq5 OW; simp only [↓pc, ↓pn, vE, Hint.val, Act.put, eL]
 gi_upto_region 4 with fail
 refine rg (fun q6 => [.v (.pointer (some ⟨g, 0, none⟩)),
  .v (.pointer (some ⟨g, 0, none⟩)),
  .v (.pointer (some ⟨g, 0, none⟩)),
  .v (.pointer (some ⟨g, 8, none⟩)),
  .m (ld 2 (v2)),
  .m (slL 5 (slFa v2 D.coming) 1 8 (fun _ h => h) (by omega)),
  .c [5] [7] (clTFa v2 D.coming (by omega) 1 (by omega)),
  .v (.pointer (some ⟨g, 0, none⟩)),
  .v (.pointer (some ⟨g, 8, none⟩)),
  .m (stV 2 7 (slFa ((q6 6).val 0) (D.coming.drop 1)) ((q6 6).val 0) fun bs h => SlE.one ((fun _ h => h) bs h))]) (fun q6 L => L.set 2 (ob g #[.int .i64 D.g0, .int .i64 D.g1, .int .i64 D.g2, .int .i64 D.g3, .int .i64 D.g4, .int .i64 D.mode, .map (some gm), v1, (q6 6).val 0] 125) ++ [slFa ((q6 6).val 0) (D.coming.drop 1)]) OW ?_
 clear OW; intro q6 _ Wq6 OW; simp only [↓pc, ↓pn, vE, Hint.val, Act.put, eL]
 gi_upto_region 5 with fail
 refine rg (fun q7 => [.v (.pointer (some ⟨(q5 6).blk 0, 0, none⟩)),
  .m (ld 6 (.int .i64 ((D.coming.getD 0 zFa).x0))),
  .v (.bool (((D.coming.getD 0 zFa).x0) == 7))]) (fun _ L => L) OW ?_
 clear OW; intro q7 _ Wq7 OW; simp only [↓pc, ↓pn, vE, Hint.val, Act.put, eL]
 cases hB8 : (((D.coming.getD 0 zFa).x0) == 7)
 case true =>
  have dhB8 := Lib.hid (eq_of_beq hB8)
  gi_upto_region 6 with fail
  refine rg (fun q9 => [.v (.int .i64 i),
   .v (.agg #[.int .i64 i, .bool true]),
   .m (ss 1)]) (fun q9 L => L.set 1 (ob ((q1 0).blk 0) #[.int .i64 i, .bool true] 60)) OW ?_
  clear OW; intro q9 _ Wq9 OW; simp only [↓pc, ↓pn, vE, Hint.val, Act.put, eL]
  replace OW := Lib.hid (OwnE.re (L' := [.c [], ob ((q1 0).blk 0) #[.int .i64 i, .bool true] 60, slFa v2 D.coming, ob ((q5 6).blk 0) #[.int .i64 ((D.coming.getD 0 zFa).x0), .int .i64 ((D.coming.getD 0 zFa).x1), .int .i64 ((D.coming.getD 0 zFa).x2), .int .i64 ((D.coming.getD 0 zFa).x3), .int .i64 ((D.coming.getD 0 zFa).x4), .int .i64 ((D.coming.getD 0 zFa).x5), .int .i64 ((D.coming.getD 0 zFa).x6), .int .i64 ((D.coming.getD 0 zFa).x7)] 25, .p (PkE (DramS g { D with coming := (D.coming.drop 1) }))]) OW.out [[0], [1], [5], [6], [2, 3, 4, 7]] (Ns := [[.c []], [ob ((q1 0).blk 0) #[.int .i64 i, .bool true] 60], [slFa v2 D.coming], [ob ((q5 6).blk 0) #[.int .i64 ((D.coming.getD 0 zFa).x0), .int .i64 ((D.coming.getD 0 zFa).x1), .int .i64 ((D.coming.getD 0 zFa).x2), .int .i64 ((D.coming.getD 0 zFa).x3), .int .i64 ((D.coming.getD 0 zFa).x4), .int .i64 ((D.coming.getD 0 zFa).x5), .int .i64 ((D.coming.getD 0 zFa).x6), .int .i64 ((D.coming.getD 0 zFa).x7)] 25], [ob g #[.int .i64 D.g0, .int .i64 D.g1, .int .i64 D.g2, .int .i64 D.g3, .int .i64 D.g4, .int .i64 D.mode, .map (some gm), v1, (q6 6).val 0] 125, mpRw D.cells gm, slFa v1 D.lasts, slFa ((q6 6).val 0) (D.coming.drop 1)]]) (by kernel_rfl) ⟨satG_one _, satG_one _, satG_one _, satG_one _, PkE.of (⟨_, _, _, rfl⟩), trivial⟩)
  gi_wp2
  exact leafE HS HH OW [.s ([.int .i64 i, .bool true]) 1] Env.zero [4] [] (by (try simp only [dwent_0, dwent_1, dwent_2]); (repeat (first | rw [hB3] | rw [hB8] | rw [cond_true] | rw [cond_false])); first | rfl | kernel_rfl) (by kernel_rfl) (by simp only [dwD]; (try simp only [dwent_0, dwent_1, dwent_2]); (repeat (first | rw [hB3] | rw [hB8] | rw [cond_true] | rw [cond_false])); kernel_rfl)
 have dhB8 := ne_of_beq_false hB8
 gi_upto_region 7 with fail
 refine rg (fun q10 => [.v (.pointer (some ⟨g, 0, none⟩)),
  .v (.pointer (some ⟨g, 0, none⟩)),
  .v (.pointer (some ⟨g, 0, none⟩)),
  .m (ls 2 ([.int .i64 D.g0, .int .i64 D.g1, .int .i64 D.g2, .int .i64 D.g3, .int .i64 D.g4])),
  .v (.pointer (some ⟨(q5 6).blk 0, 1, none⟩)),
  .m (ls 6 ([.int .i64 ((D.coming.getD 0 zFa).x1), .int .i64 ((D.coming.getD 0 zFa).x2), .int .i64 ((D.coming.getD 0 zFa).x3), .int .i64 ((D.coming.getD 0 zFa).x4)])),
  .c [] [] (gindex D.g0 D.g1 D.g2 D.g3 D.g4 ((D.coming.getD 0 zFa).x1) ((D.coming.getD 0 zFa).x2) ((D.coming.getD 0 zFa).x3) ((D.coming.getD 0 zFa).x4)),
  .v (.tuple #[.int .i64 (gindex_0 D.g0 D.g1 D.g2 D.g3 D.g4 ((D.coming.getD 0 zFa).x1) ((D.coming.getD 0 zFa).x2) ((D.coming.getD 0 zFa).x3) ((D.coming.getD 0 zFa).x4)), .int .i64 (gindex_1 D.g0 D.g1 D.g2 D.g3 D.g4 ((D.coming.getD 0 zFa).x1) ((D.coming.getD 0 zFa).x2) ((D.coming.getD 0 zFa).x3) ((D.coming.getD 0 zFa).x4))]),
  .v (.int .i64 (gindex_0 D.g0 D.g1 D.g2 D.g3 D.g4 ((D.coming.getD 0 zFa).x1) ((D.coming.getD 0 zFa).x2) ((D.coming.getD 0 zFa).x3) ((D.coming.getD 0 zFa).x4))),
  .v (.int .i64 (gindex_1 D.g0 D.g1 D.g2 D.g3 D.g4 ((D.coming.getD 0 zFa).x1) ((D.coming.getD 0 zFa).x2) ((D.coming.getD 0 zFa).x3) ((D.coming.getD 0 zFa).x4))),
  .v (.int .i64 (gindex_0 D.g0 D.g1 D.g2 D.g3 D.g4 ((D.coming.getD 0 zFa).x1) ((D.coming.getD 0 zFa).x2) ((D.coming.getD 0 zFa).x3) ((D.coming.getD 0 zFa).x4))),
  .v (.int .i64 (gindex_1 D.g0 D.g1 D.g2 D.g3 D.g4 ((D.coming.getD 0 zFa).x1) ((D.coming.getD 0 zFa).x2) ((D.coming.getD 0 zFa).x3) ((D.coming.getD 0 zFa).x4)))]) (fun _ L => L) OW ?_
 clear OW; intro q10 _ Wq10 OW; simp only [↓pc, ↓pn, vE, Hint.val, Act.put, eL]
 gi_upto_region 8 with fail
 refine rg (fun q11 => [.v (.int .i64 (gindex_1 D.g0 D.g1 D.g2 D.g3 D.g4 ((D.coming.getD 0 zFa).x1) ((D.coming.getD 0 zFa).x2) ((D.coming.getD 0 zFa).x3) ((D.coming.getD 0 zFa).x4))),
  .v (.bool ((gindex_1 D.g0 D.g1 D.g2 D.g3 D.g4 ((D.coming.getD 0 zFa).x1) ((D.coming.getD 0 zFa).x2) ((D.coming.getD 0 zFa).x3) ((D.coming.getD 0 zFa).x4)) != 0))]) (fun _ L => L) OW ?_
 clear OW; intro q11 _ Wq11 OW; simp only [↓pc, ↓pn, vE, Hint.val, Act.put, eL]
 cases hB12 : ((gindex_1 D.g0 D.g1 D.g2 D.g3 D.g4 ((D.coming.getD 0 zFa).x1) ((D.coming.getD 0 zFa).x2) ((D.coming.getD 0 zFa).x3) ((D.coming.getD 0 zFa).x4)) != 0)
 case true =>
  have dhB12 := bne_iff_ne.1 hB12
  gi_upto_region 9 with fail
  refine rg (fun q13 => [.v (.int .i64 i),
   .v (.agg #[.int .i64 i, .bool false]),
   .m (ss 1)]) (fun q13 L => L.set 1 (ob ((q1 0).blk 0) #[.int .i64 i, .bool false] 60)) OW ?_
  clear OW; intro q13 _ Wq13 OW; simp only [↓pc, ↓pn, vE, Hint.val, Act.put, eL]
  replace OW := Lib.hid (OwnE.re (L' := [.c [], ob ((q1 0).blk 0) #[.int .i64 i, .bool false] 60, slFa v2 D.coming, ob ((q5 6).blk 0) #[.int .i64 ((D.coming.getD 0 zFa).x0), .int .i64 ((D.coming.getD 0 zFa).x1), .int .i64 ((D.coming.getD 0 zFa).x2), .int .i64 ((D.coming.getD 0 zFa).x3), .int .i64 ((D.coming.getD 0 zFa).x4), .int .i64 ((D.coming.getD 0 zFa).x5), .int .i64 ((D.coming.getD 0 zFa).x6), .int .i64 ((D.coming.getD 0 zFa).x7)] 25, .p (PkE (DramS g { D with coming := (D.coming.drop 1) }))]) OW.out [[0], [1], [5], [6], [2, 3, 4, 7]] (Ns := [[.c []], [ob ((q1 0).blk 0) #[.int .i64 i, .bool false] 60], [slFa v2 D.coming], [ob ((q5 6).blk 0) #[.int .i64 ((D.coming.getD 0 zFa).x0), .int .i64 ((D.coming.getD 0 zFa).x1), .int .i64 ((D.coming.getD 0 zFa).x2), .int .i64 ((D.coming.getD 0 zFa).x3), .int .i64 ((D.coming.getD 0 zFa).x4), .int .i64 ((D.coming.getD 0 zFa).x5), .int .i64 ((D.coming.getD 0 zFa).x6), .int .i64 ((D.coming.getD 0 zFa).x7)] 25], [ob g #[.int .i64 D.g0, .int .i64 D.g1, .int .i64 D.g2, .int .i64 D.g3, .int .i64 D.g4, .int .i64 D.mode, .map (some gm), v1, (q6 6).val 0] 125, mpRw D.cells gm, slFa v1 D.lasts, slFa ((q6 6).val 0) (D.coming.drop 1)]]) (by kernel_rfl) ⟨satG_one _, satG_one _, satG_one _, satG_one _, PkE.of (⟨_, _, _, rfl⟩), trivial⟩)
  gi_wp2
  exact leafE HS HH OW [.s ([.int .i64 i, .bool false]) 1] Env.zero [4] [] (by (try simp only [dwent_0, dwent_1, dwent_2]); (repeat (first | rw [hB3] | rw [hB8] | rw [hB12] | rw [cond_true] | rw [cond_false])); first | rfl | kernel_rfl) (by kernel_rfl) (by simp only [dwD]; (try simp only [dwent_0, dwent_1, dwent_2]); (repeat (first | rw [hB3] | rw [hB8] | rw [hB12] | rw [cond_true] | rw [cond_false])); kernel_rfl)
 have dhB12 := Lib.hid (eq_of_bne_false hB12)
 gi_upto_region 10 with fail
 refine rg (fun q14 => [.v (.int .i64 (gindex_0 D.g0 D.g1 D.g2 D.g3 D.g4 ((D.coming.getD 0 zFa).x1) ((D.coming.getD 0 zFa).x2) ((D.coming.getD 0 zFa).x3) ((D.coming.getD 0 zFa).x4))),
  .v (.agg #[.int .i64 (gindex_0 D.g0 D.g1 D.g2 D.g3 D.g4 ((D.coming.getD 0 zFa).x1) ((D.coming.getD 0 zFa).x2) ((D.coming.getD 0 zFa).x3) ((D.coming.getD 0 zFa).x4)), .bool false]),
  .m (ss 1)]) (fun q14 L => L.set 1 (ob ((q1 0).blk 0) #[.int .i64 (gindex_0 D.g0 D.g1 D.g2 D.g3 D.g4 ((D.coming.getD 0 zFa).x1) ((D.coming.getD 0 zFa).x2) ((D.coming.getD 0 zFa).x3) ((D.coming.getD 0 zFa).x4)), .bool false] 60)) OW ?_
 clear OW; intro q14 _ Wq14 OW; simp only [↓pc, ↓pn, vE, Hint.val, Act.put, eL]
 replace OW := Lib.hid (OwnE.re (L' := [.c [], ob ((q1 0).blk 0) #[.int .i64 (gindex_0 D.g0 D.g1 D.g2 D.g3 D.g4 ((D.coming.getD 0 zFa).x1) ((D.coming.getD 0 zFa).x2) ((D.coming.getD 0 zFa).x3) ((D.coming.getD 0 zFa).x4)), .bool false] 60, slFa v2 D.coming, ob ((q5 6).blk 0) #[.int .i64 ((D.coming.getD 0 zFa).x0), .int .i64 ((D.coming.getD 0 zFa).x1), .int .i64 ((D.coming.getD 0 zFa).x2), .int .i64 ((D.coming.getD 0 zFa).x3), .int .i64 ((D.coming.getD 0 zFa).x4), .int .i64 ((D.coming.getD 0 zFa).x5), .int .i64 ((D.coming.getD 0 zFa).x6), .int .i64 ((D.coming.getD 0 zFa).x7)] 25, .p (PkE (DramS g { D with coming := (D.coming.drop 1) }))]) OW.out [[0], [1], [5], [6], [2, 3, 4, 7]] (Ns := [[.c []], [ob ((q1 0).blk 0) #[.int .i64 (gindex_0 D.g0 D.g1 D.g2 D.g3 D.g4 ((D.coming.getD 0 zFa).x1) ((D.coming.getD 0 zFa).x2) ((D.coming.getD 0 zFa).x3) ((D.coming.getD 0 zFa).x4)), .bool false] 60], [slFa v2 D.coming], [ob ((q5 6).blk 0) #[.int .i64 ((D.coming.getD 0 zFa).x0), .int .i64 ((D.coming.getD 0 zFa).x1), .int .i64 ((D.coming.getD 0 zFa).x2), .int .i64 ((D.coming.getD 0 zFa).x3), .int .i64 ((D.coming.getD 0 zFa).x4), .int .i64 ((D.coming.getD 0 zFa).x5), .int .i64 ((D.coming.getD 0 zFa).x6), .int .i64 ((D.coming.getD 0 zFa).x7)] 25], [ob g #[.int .i64 D.g0, .int .i64 D.g1, .int .i64 D.g2, .int .i64 D.g3, .int .i64 D.g4, .int .i64 D.mode, .map (some gm), v1, (q6 6).val 0] 125, mpRw D.cells gm, slFa v1 D.lasts, slFa ((q6 6).val 0) (D.coming.drop 1)]]) (by kernel_rfl) ⟨satG_one _, satG_one _, satG_one _, satG_one _, PkE.of (⟨_, _, _, rfl⟩), trivial⟩)
 gi_wp2
 exact leafE HS HH OW [.s ([.int .i64 (gindex_0 D.g0 D.g1 D.g2 D.g3 D.g4 ((D.coming.getD 0 zFa).x1) ((D.coming.getD 0 zFa).x2) ((D.coming.getD 0 zFa).x3) ((D.coming.getD 0 zFa).x4)), .bool false]) 1] Env.zero [4] [] (by (try simp only [dwent_0, dwent_1, dwent_2]); (repeat (first | rw [hB3] | rw [hB8] | rw [hB12] | rw [cond_true] | rw [cond_false])); first | rfl | kernel_rfl) (by kernel_rfl) (by simp only [dwD]; (try simp only [dwent_0, dwent_1, dwent_2]); (repeat (first | rw [hB3] | rw [hB8] | rw [hB12] | rw [cond_true] | rw [cond_false])); kernel_rfl)
end Go.Proofs.Ytckhkagkpldoiaa.E
