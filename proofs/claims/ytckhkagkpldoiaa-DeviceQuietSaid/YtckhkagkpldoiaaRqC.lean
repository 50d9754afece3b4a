/- A calm play of both devices, walked. -/
import Derived.Test.YtckhkagkpldoiaaRqB
import Derived.Test.YtckhkagkpldoiaaRpH
import Derived.Test.YtckhkagkpldoiaaDvG
import Derived.WalkKit
import Derived.Sort.CutIn
import Derived.IntWalk
namespace Go.Proofs.Ytckhkagkpldoiaa.E
open Go Go.RowKit Go.Shelf
attribute [local go_sem] Oper.semAt_some
set_option linter.unusedVariables false
set_option linter.unusedSimpArgs false

section
variable {V : Dv} {r s n m c mode : Int} {y : Vs} {N : Nat}
theorem QR.k79 (h : QR V r s n m c mode y N) {i : Int} (hh : (!rhas r s n m c i) = true) : (vput_0 V i != 12) = false := by
  rw [(h.noput (by simpa using hh) [] 0).1]; rfl
theorem QR.k91 (h : QR V r s n m c mode y N) {i : Int} (hh : (!rhas r s n m c i) = false) : (vput_0 V i != 0) = false := by
  rw [(h.put (by simpa using hh) [] 0).1]; rfl
theorem QR.k114 (h : QR V r s n m c mode y N) {i : Int} (hh : (!rhas r s n m c i) = true) : ((vRead_1 V i != 12) || (!(decide (vRead_0 V i = List.replicate 72 0)))) = false := by
  obtain ⟨e1, e2, _⟩ := (h.rd i).1 (by simpa using hh)
  rw [e1, e2]; simp
theorem QR.k130 (h : QR V r s n m c mode y N) {i : Int} (hh : (!rhas r s n m c i) = false) : ((vRead_1 V i != 0) || (!(decide (vRead_0 V i = qread_0 mode y.d.cl y.d.la y.d.co i)))) = false := by
  obtain ⟨e1, e2, _⟩ := (h.rd i).2 (by simpa using hh)
  rw [e1, e2, show rdT y.d.cl y.d.la y.d.co mode i = qread_0 mode y.d.cl y.d.la y.d.co i from rfl]; simp
theorem qread_len (mode : Int) {cl : List Ce} (hcl : ∀ e ∈ cl, e.r.length = 72) (la co : List Fa) (i : Int) : (qread_0 mode cl la co i).length = 72 := by
  unfold qread_0
  cases !(rwent_1 co)
  · exact List.length_replicate
  · exact ov11_len _ _ _ _ _ _ (getC_len hcl _) _
end
theorem V0_md {mode : Int} (h : rightB mode = true) : mode = 1 ∨ mode = 2 := by unfold rightB at h; simpa using h
attribute [local irreducible] fapply ovF gat_0 gat_1 gat_2 gat_3 gat_4 gindex_0 gindex_1 dInject_0 injD wrD rdD dWrite_0 dWrite_1 dWrite_2 dRead_0 dRead_1 dRead_2 dRead_3 D0 expo putV rdV V0 wrV vput_0 vRead_0 vRead_1 getC putC rwent_0 rwent_1 rwent_2 ov11 rhas rdT wrC markT mkd qread_0 qV qY qsV qsY Vs0
set_option maxRecDepth 100000 in
set_option maxHeartbeats 1000000 in
theorem qplayed_c (r s n m c mode : Int) (v : Value) (ops : List Oq) (hops : oqsIn ops) (hq : ∀ k, ((ops.getD k zOq).kind == 1) = false) (hn : ops.length ≤ 60) (hg : gright r s n m c = true) (hm : rightB mode = true) (bq0 : Objs) (hq0 : SqE eOq v ops bq0) : Con Try.prog 57 #[.agg #[.int .i64 r, .int .i64 s, .int .i64 n, .int .i64 m, .int .i64 c], .int .i64 mode, v] [.c bq0] [] (fun E => [.p (PkE (DevS ((E.blk 0)) (qV (V0 r s n m c mode) ops ops.length))), .p (SqE eCe (E.val 0) ((qY r s n m c mode Vs0 ops ops.length).d.cl)), .p (SqE eFa (E.val 1) ((qY r s n m c mode Vs0 ops ops.length).d.la)), .p (SqE eFa (E.val 2) ((qY r s n m c mode Vs0 ops ops.length).d.co)), .p (SqE eCe (E.val 3) ((qY r s n m c mode Vs0 ops ops.length).g.cl)), .p (SqE eFa (E.val 4) ((qY r s n m c mode Vs0 ops ops.length).g.la)), .p (SqE eFa (E.val 5) ((qY r s n m c mode Vs0 ops ops.length).g.co)), .p (SqE eI (E.val 6) ((qY r s n m c mode Vs0 ops ops.length).ma)), .p (SqE eAc (E.val 7) ((qY r s n m c mode Vs0 ops ops.length).l))]) (fun E => .tuple #[.pointer (some ⟨(E.blk 0), 0, none⟩), .agg #[.int .i64 r, .int .i64 s, .int .i64 n, .int .i64 m, .int .i64 c, .int .i64 mode, (E.val 0), (E.val 1), (E.val 2), .int .i64 0, .int .i64 0, .int .i64 0, .int .i64 0, .int .i64 0, .int .i64 0, (E.val 3), (E.val 4), (E.val 5), (E.val 6), (E.val 7)], .bool true]) := by
 refine Con.of (enters_of Try.func57 (by kernel_rfl) rfl) fun w cs HS HH OW => ?_
 have HQ := (Vs0_qr r s n m c mode).play (V0_md hm) hops
 have HI := fun k => oqIn_at hops k
 have HOR := fun k => (oqIn_at hops k).1
 have HQR := fun k la co i => qread_len mode (HQ k).rp.cl la co i
 have HVL := fun k i => vRead_len (HQ k).rp.ok i
 refine (callsIn_wide (n := 6)).1 ?_
 refine callsIn_of_wp_marks Try.func57 rfl trivial ?_ rfl
 simp only [Try.ntmps57, eF, Nat.reduceAdd, Nat.reduceSub]
 gi_upto_region 0 with fail
 refine rg (fun q1 => [.m (bx 1),
  .v (.pointer none),
  .m (al 2),
  .v (.bool false)]) (fun q1 L => L ++ [ob ((q1 0).blk 0) #[.int .i64 r, .int .i64 s, .int .i64 n, .int .i64 m, .int .i64 c] 27, ob ((q1 2).blk 0) #[.int .i64 0, .int .i64 0, .int .i64 0, .int .i64 0, .int .i64 0, .int .i64 0, .slice none 0 0, .slice none 0 0, .slice none 0 0, .int .i64 0, .int .i64 0, .int .i64 0, .int .i64 0, .int .i64 0, .int .i64 0, .slice none 0 0, .slice none 0 0, .slice none 0 0, .slice none 0 0, .slice none 0 0] 108]) OW ?_
 clear OW; intro q1 _ Wq1 OW; simp only [↓pc, ↓pn, vE, Hint.val, Act.put, eL]
 gi_upto_region 1 with fail
 refine rg (fun q2 => [.m (ls 1 ([.int .i64 r, .int .i64 s, .int .i64 n, .int .i64 m, .int .i64 c])),
  .v (.int .i64 mode),
  .c [] [3] (vNew r s n m c mode hg hm),
  .v (.tuple #[.pointer (some ⟨((q2 2).blk 0), 0, none⟩), .int .i64 0]),
  .v (.pointer (some ⟨((q2 2).blk 0), 0, none⟩)),
  .v (.int .i64 0),
  .v (.pointer (some ⟨((q2 2).blk 0), 0, none⟩)),
  .v (.int .i64 0)]) (fun q2 L => L ++ [.p (PkE (DevS (((q2 2).blk 0)) (V0 r s n m c mode)))]) OW ?_
 clear OW; intro q2 _ Wq2 OW; simp only [↓pc, ↓pn, vE, Hint.val, Act.put, eL]
 gi_upto_region 2 with fail
 refine rg (fun q3 => [.m (ls 1 ([.int .i64 r, .int .i64 s, .int .i64 n, .int .i64 m, .int .i64 c])),
  .v (.int .i64 mode),
  .v (.agg #[.int .i64 r, .int .i64 s, .int .i64 n, .int .i64 m, .int .i64 c, .int .i64 mode, .slice none 0 0, .slice none 0 0, .slice none 0 0]),
  .v (.agg #[.int .i64 r, .int .i64 s, .int .i64 n, .int .i64 m, .int .i64 c, .int .i64 mode, .slice none 0 0, .slice none 0 0, .slice none 0 0, .int .i64 0, .int .i64 0, .int .i64 0, .int .i64 0, .int .i64 0, .int .i64 0, .slice none 0 0, .slice none 0 0, .slice none 0 0, .slice none 0 0, .slice none 0 0]),
  .m (al 4),
  .m (ss 4)]) (fun q3 L => L ++ [ob ((q3 4).blk 0) #[.int .i64 r, .int .i64 s, .int .i64 n, .int .i64 m, .int .i64 c, .int .i64 mode, .slice none 0 0, .slice none 0 0, .slice none 0 0, .int .i64 0, .int .i64 0, .int .i64 0, .int .i64 0, .int .i64 0, .int .i64 0, .slice none 0 0, .slice none 0 0, .slice none 0 0, .slice none 0 0, .slice none 0 0] 108]) OW ?_
 clear OW; intro q3 _ Wq3 OW; simp only [↓pc, ↓pn, vE, Hint.val, Act.put, eL]
 gi_upto_region 3 with fail
 refine rg (fun q4 => [.v (.int .i64 0),
  .v (.bool false),
  .v (.bool false),
  .v (.pointer (some ⟨((q2 2).blk 0), 0, none⟩)),
  .v (.bool false),
  .k (.bool false)]) (fun _ L => L) OW ?_
 clear OW; intro q4 _ Wq4 OW; simp only [↓pc, ↓pn, vE, Hint.val, Act.put, eL]
 gi_upto_region 5 with fail
 refine rg (fun q5 => [.v (v),
  .m (lenR 0 (.c bq0) (cP hq0.1)),
  .v (.int .i64 0)]) (fun _ L => L) OW ?_
 clear OW; intro q5 _ Wq5 OW; simp only [↓pc, ↓pn, vE, Hint.val, Act.put, eL]
 gi_wp2
 replace OW := Lib.hid (OW.out.nilS eCe zeCe 159)
 replace OW := Lib.hid (OwnE.cast (L' := [.c bq0, ob ((q1 0).blk 0) #[.int .i64 r, .int .i64 s, .int .i64 n, .int .i64 m, .int .i64 c] 27, ob ((q1 2).blk 0) #[.int .i64 0, .int .i64 0, .int .i64 0, .int .i64 0, .int .i64 0, .int .i64 0, .slice none 0 0, .slice none 0 0, .slice none 0 0, .int .i64 0, .int .i64 0, .int .i64 0, .int .i64 0, .int .i64 0, .int .i64 0, .slice none 0 0, .slice none 0 0, .slice none 0 0, .slice none 0 0, .slice none 0 0] 108, .p (PkE (DevS (((q2 2).blk 0)) (V0 r s n m c mode))), ob ((q3 4).blk 0) #[.int .i64 r, .int .i64 s, .int .i64 n, .int .i64 m, .int .i64 c, .int .i64 mode, .slice none 0 0, .slice none 0 0, .slice none 0 0, .int .i64 0, .int .i64 0, .int .i64 0, .int .i64 0, .int .i64 0, .int .i64 0, .slice none 0 0, .slice none 0 0, .slice none 0 0, .slice none 0 0, .slice none 0 0] 108, .p (SqE eCe (.slice none 0 0) ([]))]) (OW.out.weak 5 (y := .p (SqE eCe (.slice none 0 0) ([]))) rfl (fun _ h => SlE.sq h)) (by kernel_rfl))
 replace OW := Lib.hid (OW.out.nilS eFa [.int .i64 0, .int .i64 0, .int .i64 0, .int .i64 0, .int .i64 0, .int .i64 0, .int .i64 0, .int .i64 0] 31)
 replace OW := Lib.hid (OwnE.cast (L' := [.c bq0, ob ((q1 0).blk 0) #[.int .i64 r, .int .i64 s, .int .i64 n, .int .i64 m, .int .i64 c] 27, ob ((q1 2).blk 0) #[.int .i64 0, .int .i64 0, .int .i64 0, .int .i64 0, .int .i64 0, .int .i64 0, .slice none 0 0, .slice none 0 0, .slice none 0 0, .int .i64 0, .int .i64 0, .int .i64 0, .int .i64 0, .int .i64 0, .int .i64 0, .slice none 0 0, .slice none 0 0, .slice none 0 0, .slice none 0 0, .slice none 0 0] 108, .p (PkE (DevS (((q2 2).blk 0)) (V0 r s n m c mode))), ob ((q3 4).blk 0) #[.int .i64 r, .int .i64 s, .int .i64 n, .int .i64 m, .int .i64 c, .int .i64 mode, .slice none 0 0, .slice none 0 0, .slice none 0 0, .int .i64 0, .int .i64 0, .int .i64 0, .int .i64 0, .int .i64 0, .int .i64 0, .slice none 0 0, .slice none 0 0, .slice none 0 0, .slice none 0 0, .slice none 0 0] 108, .p (SqE eCe (.slice none 0 0) ([])), .p (SqE eFa (.slice none 0 0) ([]))]) (OW.out.weak 6 (y := .p (SqE eFa (.slice none 0 0) ([]))) rfl (fun _ h => SlE.sq h)) (by kernel_rfl))
 replace OW := Lib.hid (OW.out.nilS eFa [.int .i64 0, .int .i64 0, .int .i64 0, .int .i64 0, .int .i64 0, .int .i64 0, .int .i64 0, .int .i64 0] 31)
 replace OW := Lib.hid (OwnE.cast (L' := [.c bq0, ob ((q1 0).blk 0) #[.int .i64 r, .int .i64 s, .int .i64 n, .int .i64 m, .int .i64 c] 27, ob ((q1 2).blk 0) #[.int .i64 0, .int .i64 0, .int .i64 0, .int .i64 0, .int .i64 0, .int .i64 0, .slice none 0 0, .slice none 0 0, .slice none 0 0, .int .i64 0, .int .i64 0, .int .i64 0, .int .i64 0, .int .i64 0, .int .i64 0, .slice none 0 0, .slice none 0 0, .slice none 0 0, .slice none 0 0, .slice none 0 0] 108, .p (PkE (DevS (((q2 2).blk 0)) (V0 r s n m c mode))), ob ((q3 4).blk 0) #[.int .i64 r, .int .i64 s, .int .i64 n, .int .i64 m, .int .i64 c, .int .i64 mode, .slice none 0 0, .slice none 0 0, .slice none 0 0, .int .i64 0, .int .i64 0, .int .i64 0, .int .i64 0, .int .i64 0, .int .i64 0, .slice none 0 0, .slice none 0 0, .slice none 0 0, .slice none 0 0, .slice none 0 0] 108, .p (SqE eCe (.slice none 0 0) ([])), .p (SqE eFa (.slice none 0 0) ([])), .p (SqE eFa (.slice none 0 0) ([]))]) (OW.out.weak 7 (y := .p (SqE eFa (.slice none 0 0) ([]))) rfl (fun _ h => SlE.sq h)) (by kernel_rfl))
 replace OW := Lib.hid (OW.out.nilS eCe zeCe 159)
 replace OW := Lib.hid (OwnE.cast (L' := [.c bq0, ob ((q1 0).blk 0) #[.int .i64 r, .int .i64 s, .int .i64 n, .int .i64 m, .int .i64 c] 27, ob ((q1 2).blk 0) #[.int .i64 0, .int .i64 0, .int .i64 0, .int .i64 0, .int .i64 0, .int .i64 0, .slice none 0 0, .slice none 0 0, .slice none 0 0, .int .i64 0, .int .i64 0, .int .i64 0, .int .i64 0, .int .i64 0, .int .i64 0, .slice none 0 0, .slice none 0 0, .slice none 0 0, .slice none 0 0, .slice none 0 0] 108, .p (PkE (DevS (((q2 2).blk 0)) (V0 r s n m c mode))), ob ((q3 4).blk 0) #[.int .i64 r, .int .i64 s, .int .i64 n, .int .i64 m, .int .i64 c, .int .i64 mode, .slice none 0 0, .slice none 0 0, .slice none 0 0, .int .i64 0, .int .i64 0, .int .i64 0, .int .i64 0, .int .i64 0, .int .i64 0, .slice none 0 0, .slice none 0 0, .slice none 0 0, .slice none 0 0, .slice none 0 0] 108, .p (SqE eCe (.slice none 0 0) ([])), .p (SqE eFa (.slice none 0 0) ([])), .p (SqE eFa (.slice none 0 0) ([])), .p (SqE eCe (.slice none 0 0) ([]))]) (OW.out.weak 8 (y := .p (SqE eCe (.slice none 0 0) ([]))) rfl (fun _ h => SlE.sq h)) (by kernel_rfl))
 replace OW := Lib.hid (OW.out.nilS eFa [.int .i64 0, .int .i64 0, .int .i64 0, .int .i64 0, .int .i64 0, .int .i64 0, .int .i64 0, .int .i64 0] 31)
 replace OW := Lib.hid (OwnE.cast (L' := [.c bq0, ob ((q1 0).blk 0) #[.int .i64 r, .int .i64 s, .int .i64 n, .int .i64 m, .int .i64 c] 27, ob ((q1 2).blk 0) #[.int .i64 0, .int .i64 0, .int .i64 0, .int .i64 0, .int .i64 0, .int .i64 0, .slice none 0 0, .slice none 0 0, .slice none 0 0, .int .i64 0, .int .i64 0, .int .i64 0, .int .i64 0, .int .i64 0, .int .i64 0, .slice none 0 0, .slice none 0 0, .slice none 0 0, .slice none 0 0, .slice none 0 0] 108, .p (PkE (DevS (((q2 2).blk 0)) (V0 r s n m c mode))), ob ((q3 4).blk 0) #[.int .i64 r, .int .i64 s, .int .i64 n, .int .i64 m, .int .i64 c, .int .i64 mode, .slice none 0 0, .slice none 0 0, .slice none 0 0, .int .i64 0, .int .i64 0, .int .i64 0, .int .i64 0, .int .i64 0, .int .i64 0, .slice none 0 0, .slice none 0 0, .slice none 0 0, .slice none 0 0, .slice none 0 0] 108, .p (SqE eCe (.slice none 0 0) ([])), .p (SqE eFa (.slice none 0 0) ([])), .p (SqE eFa (.slice none 0 0) ([])), .p (SqE eCe (.slice none 0 0) ([])), .p (SqE eFa (.slice none 0 0) ([]))]) (OW.out.weak 9 (y := .p (SqE eFa (.slice none 0 0) ([]))) rfl (fun _ h => SlE.sq h)) (by kernel_rfl))
 replace OW := Lib.hid (OW.out.nilS eFa [.int .i64 0, .int .i64 0, .int .i64 0, .int .i64 0, .int .i64 0, .int .i64 0, .int .i64 0, .int .i64 0] 31)
 replace OW := Lib.hid (OwnE.cast (L' := [.c bq0, ob ((q1 0).blk 0) #[.int .i64 r, .int .i64 s, .int .i64 n, .int .i64 m, .int .i64 c] 27, ob ((q1 2).blk 0) #[.int .i64 0, .int .i64 0, .int .i64 0, .int .i64 0, .int .i64 0, .int .i64 0, .slice none 0 0, .slice none 0 0, .slice none 0 0, .int .i64 0, .int .i64 0, .int .i64 0, .int .i64 0, .int .i64 0, .int .i64 0, .slice none 0 0, .slice none 0 0, .slice none 0 0, .slice none 0 0, .slice none 0 0] 108, .p (PkE (DevS (((q2 2).blk 0)) (V0 r s n m c mode))), ob ((q3 4).blk 0) #[.int .i64 r, .int .i64 s, .int .i64 n, .int .i64 m, .int .i64 c, .int .i64 mode, .slice none 0 0, .slice none 0 0, .slice none 0 0, .int .i64 0, .int .i64 0, .int .i64 0, .int .i64 0, .int .i64 0, .int .i64 0, .slice none 0 0, .slice none 0 0, .slice none 0 0, .slice none 0 0, .slice none 0 0] 108, .p (SqE eCe (.slice none 0 0) ([])), .p (SqE eFa (.slice none 0 0) ([])), .p (SqE eFa (.slice none 0 0) ([])), .p (SqE eCe (.slice none 0 0) ([])), .p (SqE eFa (.slice none 0 0) ([])), .p (SqE eFa (.slice none 0 0) ([]))]) (OW.out.weak 10 (y := .p (SqE eFa (.slice none 0 0) ([]))) rfl (fun _ h => SlE.sq h)) (by kernel_rfl))
 replace OW := Lib.hid (OW.out.nilS eI [.int .i64 0] 3)
 replace OW := Lib.hid (OwnE.cast (L' := [.c bq0, ob ((q1 0).blk 0) #[.int .i64 r, .int .i64 s, .int .i64 n, .int .i64 m, .int .i64 c] 27, ob ((q1 2).blk 0) #[.int .i64 0, .int .i64 0, .int .i64 0, .int .i64 0, .int .i64 0, .int .i64 0, .slice none 0 0, .slice none 0 0, .slice none 0 0, .int .i64 0, .int .i64 0, .int .i64 0, .int .i64 0, .int .i64 0, .int .i64 0, .slice none 0 0, .slice none 0 0, .slice none 0 0, .slice none 0 0, .slice none 0 0] 108, .p (PkE (DevS (((q2 2).blk 0)) (V0 r s n m c mode))), ob ((q3 4).blk 0) #[.int .i64 r, .int .i64 s, .int .i64 n, .int .i64 m, .int .i64 c, .int .i64 mode, .slice none 0 0, .slice none 0 0, .slice none 0 0, .int .i64 0, .int .i64 0, .int .i64 0, .int .i64 0, .int .i64 0, .int .i64 0, .slice none 0 0, .slice none 0 0, .slice none 0 0, .slice none 0 0, .slice none 0 0] 108, .p (SqE eCe (.slice none 0 0) ([])), .p (SqE eFa (.slice none 0 0) ([])), .p (SqE eFa (.slice none 0 0) ([])), .p (SqE eCe (.slice none 0 0) ([])), .p (SqE eFa (.slice none 0 0) ([])), .p (SqE eFa (.slice none 0 0) ([])), .p (SqE eI (.slice none 0 0) ([]))]) (OW.out.weak 11 (y := .p (SqE eI (.slice none 0 0) ([]))) rfl (fun _ h => SlE.sq h)) (by kernel_rfl))
 replace OW := Lib.hid (OW.out.nilS eAc [.bool false, .int .i64 0, .int .i64 0, .bool false, .int .i64 0, .bool false] 165)
 replace OW := Lib.hid (OwnE.cast (L' := [.c bq0, ob ((q1 0).blk 0) #[.int .i64 r, .int .i64 s, .int .i64 n, .int .i64 m, .int .i64 c] 27, ob ((q1 2).blk 0) #[.int .i64 0, .int .i64 0, .int .i64 0, .int .i64 0, .int .i64 0, .int .i64 0, .slice none 0 0, .slice none 0 0, .slice none 0 0, .int .i64 0, .int .i64 0, .int .i64 0, .int .i64 0, .int .i64 0, .int .i64 0, .slice none 0 0, .slice none 0 0, .slice none 0 0, .slice none 0 0, .slice none 0 0] 108, .p (PkE (DevS (((q2 2).blk 0)) (V0 r s n m c mode))), ob ((q3 4).blk 0) #[.int .i64 r, .int .i64 s, .int .i64 n, .int .i64 m, .int .i64 c, .int .i64 mode, .slice none 0 0, .slice none 0 0, .slice none 0 0, .int .i64 0, .int .i64 0, .int .i64 0, .int .i64 0, .int .i64 0, .int .i64 0, .slice none 0 0, .slice none 0 0, .slice none 0 0, .slice none 0 0, .slice none 0 0] 108, .p (SqE eCe (.slice none 0 0) ([])), .p (SqE eFa (.slice none 0 0) ([])), .p (SqE eFa (.slice none 0 0) ([])), .p (SqE eCe (.slice none 0 0) ([])), .p (SqE eFa (.slice none 0 0) ([])), .p (SqE eFa (.slice none 0 0) ([])), .p (SqE eI (.slice none 0 0) ([])), .p (SqE eAc (.slice none 0 0) ([]))]) (OW.out.weak 12 (y := .p (SqE eAc (.slice none 0 0) ([]))) rfl (fun _ h => SlE.sq h)) (by kernel_rfl))
 gi_loopw [40] (fun z40 wr => ∃ k : Nat, ∃ vC11_6 vC11_7 vC11_8 vC11_15 vC11_16 vC11_17 vC11_18 vC11_19 : Value, k ≤ ops.length ∧ z40 = .int .i64 (k : Int) ∧ OwnE (ids cs.flatten) w [.c bq0, ob ((q1 0).blk 0) #[.int .i64 r, .int .i64 s, .int .i64 n, .int .i64 m, .int .i64 c] 27, ob ((q1 2).blk 0) #[.int .i64 0, .int .i64 0, .int .i64 0, .int .i64 0, .int .i64 0, .int .i64 0, .slice none 0 0, .slice none 0 0, .slice none 0 0, .int .i64 0, .int .i64 0, .int .i64 0, .int .i64 0, .int .i64 0, .int .i64 0, .slice none 0 0, .slice none 0 0, .slice none 0 0, .slice none 0 0, .slice none 0 0] 108, .p (PkE (DevS (((q2 2).blk 0)) (qV (V0 r s n m c mode) ops k))), ob ((q3 4).blk 0) #[.int .i64 r, .int .i64 s, .int .i64 n, .int .i64 m, .int .i64 c, .int .i64 mode, vC11_6, vC11_7, vC11_8, .int .i64 0, .int .i64 0, .int .i64 0, .int .i64 0, .int .i64 0, .int .i64 0, vC11_15, vC11_16, vC11_17, vC11_18, vC11_19] 108, .p (SqE eCe vC11_6 ((qY r s n m c mode Vs0 ops k).d.cl)), .p (SqE eFa vC11_7 ((qY r s n m c mode Vs0 ops k).d.la)), .p (SqE eFa vC11_8 ((qY r s n m c mode Vs0 ops k).d.co)), .p (SqE eCe vC11_15 ((qY r s n m c mode Vs0 ops k).g.cl)), .p (SqE eFa vC11_16 ((qY r s n m c mode Vs0 ops k).g.la)), .p (SqE eFa vC11_17 ((qY r s n m c mode Vs0 ops k).g.co)), .p (SqE eI vC11_18 ((qY r s n m c mode Vs0 ops k).ma)), .p (SqE eAc vC11_19 ((qY r s n m c mode Vs0 ops k).l))] wr) (fun z40 _ => ops.length - (intOf (z40)).toNat)
 case atStart => exact ⟨0, .slice none 0 0, .slice none 0 0, .slice none 0 0, .slice none 0 0, .slice none 0 0, .slice none 0 0, .slice none 0 0, .slice none 0 0, by omega, rfl, (by skip; exact OwnE.cast OW.out (by kernel_rfl))⟩
 case round =>
  obtain ⟨k, vC11_6, vC11_7, vC11_8, vC11_15, vC11_16, vC11_17, vC11_18, vC11_19, hk7, rfl, hO⟩ := hrel
  clear OW
  have hoi := (HI k).2.2
  have OW := Lib.hid hO
  clear hO
  gi_upto_region 6 with fail
  refine rg (fun q8 => [.v (.bool (decide ((k : Int) < (ops.length : Int))))]) (fun _ L => L) OW ?_
  clear OW; intro q8 _ Wq8 OW; simp only [↓pc, ↓pn, vE, Hint.val, Act.put, eL]
  cases hB9 : (decide ((k : Int) < (ops.length : Int)))
  case true =>
   have dhB9 := of_decide_eq_true hB9
   gi_upto_region 7 with fail
   refine rg (fun q10 => [.m (idxR 0 (.c bq0) k 82 (cP hq0.1) (by omega)),
    .m (lsR (l := ([.int .i64 ((ops.getD k zOq).kind), .int .i64 ((ops.getD k zOq).index), .int .i64 ((ops.getD k zOq).fault.x0), .int .i64 ((ops.getD k zOq).fault.x1), .int .i64 ((ops.getD k zOq).fault.x2), .int .i64 ((ops.getD k zOq).fault.x3), .int .i64 ((ops.getD k zOq).fault.x4), .int .i64 ((ops.getD k zOq).fault.x5), .int .i64 ((ops.getD k zOq).fault.x6), .int .i64 ((ops.getD k zOq).fault.x7)] : List Value) ++ rB 72 ((ops.getD k zOq).raw)) (d := zOq) 0 (.c bq0) k 82 0 (cP hq0.1) (fun _ => rfl) (by omega) (Nat.le_of_ble_eq_true rfl) (by kernel_rfl)),
    .m (al 13),
    .m (ss 13)]) (fun q10 L => L ++ [ob ((q10 2).blk 0) (([.int .i64 ((ops.getD k zOq).kind), .int .i64 ((ops.getD k zOq).index), .int .i64 ((ops.getD k zOq).fault.x0), .int .i64 ((ops.getD k zOq).fault.x1), .int .i64 ((ops.getD k zOq).fault.x2), .int .i64 ((ops.getD k zOq).fault.x3), .int .i64 ((ops.getD k zOq).fault.x4), .int .i64 ((ops.getD k zOq).fault.x5), .int .i64 ((ops.getD k zOq).fault.x6), .int .i64 ((ops.getD k zOq).fault.x7)] : List Value) ++ rB 72 ((ops.getD k zOq).raw)).toArray 105]) OW ?_
   clear OW; intro q10 _ Wq10 OW; simp only [↓pc, ↓pn, vE, Hint.val, Act.put, eL]
   gi_upto_region 8 with fail
   refine rg (fun q11 => [.v (.pointer (some ⟨(q10 2).blk 0, 0, none⟩)),
    .m (ld 13 (.int .i64 ((ops.getD k zOq).kind)))]) (fun _ L => L) OW ?_
   clear OW; intro q11 _ Wq11 OW; simp only [↓pc, ↓pn, vE, Hint.val, Act.put, eL]
   gi_upto_region 9 with fail
   refine rg (fun q12 => [.v (.bool (((ops.getD k zOq).kind) == 1)),
    .v (.bool (((ops.getD k zOq).kind) == 1))]) (fun _ L => L) OW ?_
   clear OW; intro q12 _ Wq12 OW; simp only [↓pc, ↓pn, vE, Hint.val, Act.put, eL]
   cases hB13 : (((ops.getD k zOq).kind) == 1)
   case true => exact absurd (hB13.symm.trans (show _ = false from by exact hq k)) (by decide)
   case false =>
    have dhB13 := ne_of_beq_false hB13
    gi_upto_region 14 with fail
    refine rg (fun q14 => [.v (.bool (((ops.getD k zOq).kind) == 2)),
     .v (.bool (((ops.getD k zOq).kind) == 2))]) (fun _ L => L) OW ?_
    clear OW; intro q14 _ Wq14 OW; simp only [↓pc, ↓pn, vE, Hint.val, Act.put, eL]
    cases hB15 : (((ops.getD k zOq).kind) == 2)
    case true =>
     have dhB15 := Lib.hid (eq_of_beq hB15)
     gi_upto_region 16 with fail
     refine rg (fun q16 => [.v (.pointer (some ⟨((q2 2).blk 0), 0, none⟩)),
      .m (ls 13 (([.int .i64 ((ops.getD k zOq).kind), .int .i64 ((ops.getD k zOq).index), .int .i64 ((ops.getD k zOq).fault.x0), .int .i64 ((ops.getD k zOq).fault.x1), .int .i64 ((ops.getD k zOq).fault.x2), .int .i64 ((ops.getD k zOq).fault.x3), .int .i64 ((ops.getD k zOq).fault.x4), .int .i64 ((ops.getD k zOq).fault.x5), .int .i64 ((ops.getD k zOq).fault.x6), .int .i64 ((ops.getD k zOq).fault.x7)] : List Value) ++ rB 72 ((ops.getD k zOq).raw))),
      .c [3] [3] (qwr ((q2 2).blk 0) (qV (V0 r s n m c mode) ops k) (ops.getD k zOq) ((HQ k).ok (by first | omega)) (HOR k)),
      .v (.int .i64 (vput_0 (qV (V0 r s n m c mode) ops k) (ops.getD k zOq).index))]) (fun q16 L => L.set 3 (.p (PkE (DevS ((q2 2).blk 0) (wrV (qV (V0 r s n m c mode) ops k) (ops.getD k zOq)))))) OW ?_
     clear OW; intro q16 _ Wq16 OW; simp only [↓pc, ↓pn, vE, Hint.val, Act.put, eL]
     gi_upto_region 17 with fail
     refine rg (fun q17 => [.v (.pointer (some ⟨(q3 4).blk 0, 0, none⟩)),
      .m (ls 4 ([.int .i64 r, .int .i64 s, .int .i64 n, .int .i64 m, .int .i64 c, .int .i64 mode, vC11_6, vC11_7, vC11_8])),
      .v (.pointer (some ⟨(q10 2).blk 0, 1, none⟩)),
      .m (ld 13 (.int .i64 ((ops.getD k zOq).index))),
      .c [] [] (rHas r s n m c mode vC11_6 vC11_7 vC11_8 ((ops.getD k zOq).index) (by omega)),
      .v (.bool (!(rhas r s n m c ((ops.getD k zOq).index))))]) (fun _ L => L) OW ?_
     clear OW; intro q17 _ Wq17 OW; simp only [↓pc, ↓pn, vE, Hint.val, Act.put, eL]
     cases hB18 : (!(rhas r s n m c ((ops.getD k zOq).index)))
     case true =>
      gi_upto_region 18 with fail
      refine rg (fun q19 => [.v (.int .i64 (vput_0 (qV (V0 r s n m c mode) ops k) (ops.getD k zOq).index)),
       .t (tk (show Value.bool ((vput_0 (qV (V0 r s n m c mode) ops k) (ops.getD k zOq).index) != 12) = .bool false from congrArg Value.bool (by exact (HQ k).k79 (by assumption))))]) (fun _ L => L) OW ?_
      clear OW; intro q19 _ Wq19 OW; simp only [↓pc, ↓pn, vE, Hint.val, Act.put, eL]
      gi_upto_region 32 with fail
      refine rg (fun q20 => [.t (tb (a := .int .i64 (k : Int)) (b := .int .i64 1) fun _ _ _ _ => bin_add_nat (a := k) (b := 1) (by omega)),
       .v (.int .i64 ((k + 1 : Nat) : Int))]) (fun _ L => L) OW ?_
      clear OW; intro q20 _ Wq20 OW; simp only [↓pc, ↓pn, vE, Hint.val, Act.put, eL]
      gi_wp2
      go_roundw
      case rel => exact ⟨k + 1, vC11_6, vC11_7, vC11_8, vC11_15, vC11_16, vC11_17, vC11_18, vC11_19, by omega, by go_num, (by rw [qV, qY]; simp only [qsV, qsY, qW, qRd]; (repeat (first | rw [hB9] | rw [hB13] | rw [hB15] | rw [hB18] | rw [cond_true] | rw [cond_false])); exact OwnE.pick OW.out [0, 1, 2, 3, 4, 5, 6, 7, 8, 9, 10, 11, 12] _ (by kernel_rfl))⟩
      case measure => (simp [intOf] <;> omega)
     gi_upto_region 20 with fail
     refine rg (fun q21 => [.m (ls 4 ([.int .i64 r, .int .i64 s, .int .i64 n, .int .i64 m, .int .i64 c, .int .i64 mode, vC11_6, vC11_7, vC11_8, .int .i64 0, .int .i64 0, .int .i64 0, .int .i64 0, .int .i64 0, .int .i64 0, vC11_15, vC11_16, vC11_17, vC11_18, vC11_19])),
      .v (.pointer (some ⟨(q10 2).blk 0, 1, none⟩)),
      .m (ld 13 (.int .i64 ((ops.getD k zOq).index))),
      .v (.pointer (some ⟨(q10 2).blk 0, 10, none⟩)),
      .m (ls 13 (rB 72 ((ops.getD k zOq).raw))),
      .v (.pointer (some ⟨(q10 2).blk 0, 0, none⟩)),
      .m (ld 13 (.int .i64 ((ops.getD k zOq).kind))),
      .v (.bool (((ops.getD k zOq).kind) == 4)),
      .c [5, 6, 7, 8, 9, 10, 11, 12] [5, 7, 8, 11, 12] (qwrite r s n m c mode vC11_6 vC11_7 vC11_8 vC11_15 vC11_16 vC11_17 vC11_18 vC11_19 ((qY r s n m c mode Vs0 ops k).d.cl) ((qY r s n m c mode Vs0 ops k).d.la) ((qY r s n m c mode Vs0 ops k).d.co) ((qY r s n m c mode Vs0 ops k).g.cl) ((qY r s n m c mode Vs0 ops k).g.la) ((qY r s n m c mode Vs0 ops k).g.co) ((qY r s n m c mode Vs0 ops k).ma) ((qY r s n m c mode Vs0 ops k).l) ((ops.getD k zOq).index) ((ops.getD k zOq).raw) (by first | rfl | (simp only [List.length_set, List.length_append, List.length_replicate, List.length_cons, List.length_nil, List.length_map, List.length_range, List.length_take, List.length_drop, HOR, HVL, HQR]; done) | (simp only [List.length_set, List.length_append, List.length_replicate, List.length_cons, List.length_nil, List.length_map, List.length_range, List.length_take, List.length_drop, HOR, HVL, HQR]; omega)) (((ops.getD k zOq).kind) == 4) ((HQ k).rp.pl) (by have := (HQ k).n1; omega) (by have := (HQ k).n2; omega) (by have := (HQ k).n3; omega) (by have := (HQ k).n4; omega)),
      .m (sv 4 ((q3 4).blk 0) 0 108 ([.int .i64 r, .int .i64 s, .int .i64 n, .int .i64 m, .int .i64 c, .int .i64 mode, ((q21 8).val 0), vC11_7, ((q21 8).val 1), .int .i64 0, .int .i64 0, .int .i64 0, .int .i64 0, .int .i64 0, .int .i64 0, ((q21 8).val 2), vC11_16, vC11_17, ((q21 8).val 3), ((q21 8).val 4)]) #[.int .i64 r, .int .i64 s, .int .i64 n, .int .i64 m, .int .i64 c, .int .i64 mode, vC11_6, vC11_7, vC11_8, .int .i64 0, .int .i64 0, .int .i64 0, .int .i64 0, .int .i64 0, .int .i64 0, vC11_15, vC11_16, vC11_17, vC11_18, vC11_19] #[.int .i64 r, .int .i64 s, .int .i64 n, .int .i64 m, .int .i64 c, .int .i64 mode, ((q21 8).val 0), vC11_7, ((q21 8).val 1), .int .i64 0, .int .i64 0, .int .i64 0, .int .i64 0, .int .i64 0, .int .i64 0, ((q21 8).val 2), vC11_16, vC11_17, ((q21 8).val 3), ((q21 8).val 4)] [(5, .p (SqE eCe ((q21 8).val 0) (wrC ((qY r s n m c mode Vs0 ops k).d.cl) ((qY r s n m c mode Vs0 ops k).d.co) ((ops.getD k zOq).index) ((ops.getD k zOq).raw)))), (6, .p (SqE eFa vC11_7 ((qY r s n m c mode Vs0 ops k).d.la))), (7, .p (SqE eFa ((q21 8).val 1) (rwent_2 ((qY r s n m c mode Vs0 ops k).d.co)))), (8, .p (SqE eCe ((q21 8).val 2) (putC ((qY r s n m c mode Vs0 ops k).g.cl) ((ops.getD k zOq).index) ((ops.getD k zOq).raw)))), (9, .p (SqE eFa vC11_16 ((qY r s n m c mode Vs0 ops k).g.la))), (10, .p (SqE eFa vC11_17 ((qY r s n m c mode Vs0 ops k).g.co))), (11, .p (SqE eI ((q21 8).val 3) (markT ((qY r s n m c mode Vs0 ops k).ma) ((ops.getD k zOq).index) (((ops.getD k zOq).kind) == 4)))), (12, .p (SqE eAc ((q21 8).val 4) (((qY r s n m c mode Vs0 ops k).l) ++ [⟨true, ((ops.getD k zOq).index), rwent_0 ((qY r s n m c mode Vs0 ops k).d.co) ((ops.getD k zOq).index), rwent_1 ((qY r s n m c mode Vs0 ops k).d.co), 0, false⟩])))] (by kernel_rfl) (Nat.le_of_ble_eq_true rfl) (fun c5 hc5 => (oc rfl (oc rfl (oc rfl (oc rfl (oc rfl (oc rfl (oc (SqE.one (hc5 _ (.head _))) (oc (SqE.one (hc5 _ (.tail _ (.head _)))) (oc (SqE.one (hc5 _ (.tail _ (.tail _ (.head _))))) (oc rfl (oc rfl (oc rfl (oc rfl (oc rfl (oc rfl (oc (SqE.one (hc5 _ (.tail _ (.tail _ (.tail _ (.head _)))))) (oc (SqE.one (hc5 _ (.tail _ (.tail _ (.tail _ (.tail _ (.head _))))))) (oc (SqE.one (hc5 _ (.tail _ (.tail _ (.tail _ (.tail _ (.tail _ (.head _)))))))) (oc (SqE.one (hc5 _ (.tail _ (.tail _ (.tail _ (.tail _ (.tail _ (.tail _ (.head _))))))))) (oc (SqE.one (hc5 _ (.tail _ (.tail _ (.tail _ (.tail _ (.tail _ (.tail _ (.tail _ (.head _)))))))))) on0))))))))))))))))))))))]) (fun q21 L => (((((L.set 4 (ob ((q3 4).blk 0) #[.int .i64 r, .int .i64 s, .int .i64 n, .int .i64 m, .int .i64 c, .int .i64 mode, ((q21 8).val 0), vC11_7, ((q21 8).val 1), .int .i64 0, .int .i64 0, .int .i64 0, .int .i64 0, .int .i64 0, .int .i64 0, ((q21 8).val 2), vC11_16, vC11_17, ((q21 8).val 3), ((q21 8).val 4)] 108)).set 5 (.p (SqE eCe ((q21 8).val 0) (wrC ((qY r s n m c mode Vs0 ops k).d.cl) ((qY r s n m c mode Vs0 ops k).d.co) ((ops.getD k zOq).index) ((ops.getD k zOq).raw))))).set 7 (.p (SqE eFa ((q21 8).val 1) (rwent_2 ((qY r s n m c mode Vs0 ops k).d.co))))).set 8 (.p (SqE eCe ((q21 8).val 2) (putC ((qY r s n m c mode Vs0 ops k).g.cl) ((ops.getD k zOq).index) ((ops.getD k zOq).raw))))).set 11 (.p (SqE eI ((q21 8).val 3) (markT ((qY r s n m c mode Vs0 ops k).ma) ((ops.getD k zOq).index) (((ops.getD k zOq).kind) == 4))))).set 12 (.p (SqE eAc ((q21 8).val 4) (((qY r s n m c mode Vs0 ops k).l) ++ [⟨true, ((ops.getD k zOq).index), rwent_0 ((qY r s n m c mode Vs0 ops k).d.co) ((ops.getD k zOq).index), rwent_1 ((qY r s n m c mode Vs0 ops k).d.co), 0, false⟩])))) OW ?_
     clear OW; intro q21 _ Wq21 OW; simp only [↓pc, ↓pn, vE, Hint.val, Act.put, eL]
     gi_upto_region 21 with fail
     refine rg (fun q22 => [.v (.int .i64 (vput_0 (qV (V0 r s n m c mode) ops k) (ops.getD k zOq).index)),
      .t (tk (show Value.bool ((vput_0 (qV (V0 r s n m c mode) ops k) (ops.getD k zOq).index) != 0) = .bool false from congrArg Value.bool (by exact (HQ k).k91 (by assumption))))]) (fun _ L => L) OW ?_
     clear OW; intro q22 _ Wq22 OW; simp only [↓pc, ↓pn, vE, Hint.val, Act.put, eL]
     gi_upto_region 32 with fail
     refine rg (fun q23 => [.t (tb (a := .int .i64 (k : Int)) (b := .int .i64 1) fun _ _ _ _ => bin_add_nat (a := k) (b := 1) (by omega)),
      .v (.int .i64 ((k + 1 : Nat) : Int))]) (fun _ L => L) OW ?_
     clear OW; intro q23 _ Wq23 OW; simp only [↓pc, ↓pn, vE, Hint.val, Act.put, eL]
     gi_wp2
     go_roundw
     case rel => exact ⟨k + 1, ((q21 8).val 0), vC11_7, ((q21 8).val 1), ((q21 8).val 2), vC11_16, vC11_17, ((q21 8).val 3), ((q21 8).val 4), by omega, by go_num, (by rw [qV, qY]; simp only [qsV, qsY, qW, qRd]; (repeat (first | rw [hB9] | rw [hB13] | rw [hB15] | rw [hB18] | rw [cond_true] | rw [cond_false])); exact OwnE.pick OW.out [0, 1, 2, 3, 4, 5, 6, 7, 8, 9, 10, 11, 12] _ (by kernel_rfl))⟩
     case measure => (simp [intOf] <;> omega)
    have dhB15 := ne_of_beq_false hB15
    gi_upto_region 15 with fail
    refine rg (fun q24 => [.v (.bool (((ops.getD k zOq).kind) == 4)),
     .v (.bool (((ops.getD k zOq).kind) == 4))]) (fun _ L => L) OW ?_
    clear OW; intro q24 _ Wq24 OW; simp only [↓pc, ↓pn, vE, Hint.val, Act.put, eL]
    cases hB25 : (((ops.getD k zOq).kind) == 4)
    case true =>
     have dhB25 := Lib.hid (eq_of_beq hB25)
     gi_upto_region 16 with fail
     refine rg (fun q26 => [.v (.pointer (some ⟨((q2 2).blk 0), 0, none⟩)),
      .m (ls 13 (([.int .i64 ((ops.getD k zOq).kind), .int .i64 ((ops.getD k zOq).index), .int .i64 ((ops.getD k zOq).fault.x0), .int .i64 ((ops.getD k zOq).fault.x1), .int .i64 ((ops.getD k zOq).fault.x2), .int .i64 ((ops.getD k zOq).fault.x3), .int .i64 ((ops.getD k zOq).fault.x4), .int .i64 ((ops.getD k zOq).fault.x5), .int .i64 ((ops.getD k zOq).fault.x6), .int .i64 ((ops.getD k zOq).fault.x7)] : List Value) ++ rB 72 ((ops.getD k zOq).raw))),
      .c [3] [3] (qwr ((q2 2).blk 0) (qV (V0 r s n m c mode) ops k) (ops.getD k zOq) ((HQ k).ok (by first | omega)) (HOR k)),
      .v (.int .i64 (vput_0 (qV (V0 r s n m c mode) ops k) (ops.getD k zOq).index))]) (fun q26 L => L.set 3 (.p (PkE (DevS ((q2 2).blk 0) (wrV (qV (V0 r s n m c mode) ops k) (ops.getD k zOq)))))) OW ?_
     clear OW; intro q26 _ Wq26 OW; simp only [↓pc, ↓pn, vE, Hint.val, Act.put, eL]
     gi_upto_region 17 with fail
     refine rg (fun q27 => [.v (.pointer (some ⟨(q3 4).blk 0, 0, none⟩)),
      .m (ls 4 ([.int .i64 r, .int .i64 s, .int .i64 n, .int .i64 m, .int .i64 c, .int .i64 mode, vC11_6, vC11_7, vC11_8])),
      .v (.pointer (some ⟨(q10 2).blk 0, 1, none⟩)),
      .m (ld 13 (.int .i64 ((ops.getD k zOq).index))),
      .c [] [] (rHas r s n m c mode vC11_6 vC11_7 vC11_8 ((ops.getD k zOq).index) (by omega)),
      .v (.bool (!(rhas r s n m c ((ops.getD k zOq).index))))]) (fun _ L => L) OW ?_
     clear OW; intro q27 _ Wq27 OW; simp only [↓pc, ↓pn, vE, Hint.val, Act.put, eL]
     cases hB28 : (!(rhas r s n m c ((ops.getD k zOq).index)))
     case true =>
      gi_upto_region 18 with fail
      refine rg (fun q29 => [.v (.int .i64 (vput_0 (qV (V0 r s n m c mode) ops k) (ops.getD k zOq).index)),
       .t (tk (show Value.bool ((vput_0 (qV (V0 r s n m c mode) ops k) (ops.getD k zOq).index) != 12) = .bool false from congrArg Value.bool (by exact (HQ k).k79 (by assumption))))]) (fun _ L => L) OW ?_
      clear OW; intro q29 _ Wq29 OW; simp only [↓pc, ↓pn, vE, Hint.val, Act.put, eL]
      gi_upto_region 32 with fail
      refine rg (fun q30 => [.t (tb (a := .int .i64 (k : Int)) (b := .int .i64 1) fun _ _ _ _ => bin_add_nat (a := k) (b := 1) (by omega)),
       .v (.int .i64 ((k + 1 : Nat) : Int))]) (fun _ L => L) OW ?_
      clear OW; intro q30 _ Wq30 OW; simp only [↓pc, ↓pn, vE, Hint.val, Act.put, eL]
      gi_wp2
      go_roundw
      case rel => exact ⟨k + 1, vC11_6, vC11_7, vC11_8, vC11_15, vC11_16, vC11_17, vC11_18, vC11_19, by omega, by go_num, (by rw [qV, qY]; simp only [qsV, qsY, qW, qRd]; (repeat (first | rw [hB9] | rw [hB13] | rw [hB15] | rw [hB25] | rw [hB28] | rw [cond_true] | rw [cond_false])); exact OwnE.pick OW.out [0, 1, 2, 3, 4, 5, 6, 7, 8, 9, 10, 11, 12] _ (by kernel_rfl))⟩
      case measure => (simp [intOf] <;> omega)
     gi_upto_region 20 with fail
     refine rg (fun q31 => [.m (ls 4 ([.int .i64 r, .int .i64 s, .int .i64 n, .int .i64 m, .int .i64 c, .int .i64 mode, vC11_6, vC11_7, vC11_8, .int .i64 0, .int .i64 0, .int .i64 0, .int .i64 0, .int .i64 0, .int .i64 0, vC11_15, vC11_16, vC11_17, vC11_18, vC11_19])),
      .v (.pointer (some ⟨(q10 2).blk 0, 1, none⟩)),
      .m (ld 13 (.int .i64 ((ops.getD k zOq).index))),
      .v (.pointer (some ⟨(q10 2).blk 0, 10, none⟩)),
      .m (ls 13 (rB 72 ((ops.getD k zOq).raw))),
      .v (.pointer (some ⟨(q10 2).blk 0, 0, none⟩)),
      .m (ld 13 (.int .i64 ((ops.getD k zOq).kind))),
      .t (tk (show Value.bool (((ops.getD k zOq).kind) == 4) = .bool true from congrArg Value.bool hB25)),
      .c [5, 6, 7, 8, 9, 10, 11, 12] [5, 7, 8, 11, 12] (qwrite r s n m c mode vC11_6 vC11_7 vC11_8 vC11_15 vC11_16 vC11_17 vC11_18 vC11_19 ((qY r s n m c mode Vs0 ops k).d.cl) ((qY r s n m c mode Vs0 ops k).d.la) ((qY r s n m c mode Vs0 ops k).d.co) ((qY r s n m c mode Vs0 ops k).g.cl) ((qY r s n m c mode Vs0 ops k).g.la) ((qY r s n m c mode Vs0 ops k).g.co) ((qY r s n m c mode Vs0 ops k).ma) ((qY r s n m c mode Vs0 ops k).l) ((ops.getD k zOq).index) ((ops.getD k zOq).raw) (by first | rfl | (simp only [List.length_set, List.length_append, List.length_replicate, List.length_cons, List.length_nil, List.length_map, List.length_range, List.length_take, List.length_drop, HOR, HVL, HQR]; done) | (simp only [List.length_set, List.length_append, List.length_replicate, List.length_cons, List.length_nil, List.length_map, List.length_range, List.length_take, List.length_drop, HOR, HVL, HQR]; omega)) true ((HQ k).rp.pl) (by have := (HQ k).n1; omega) (by have := (HQ k).n2; omega) (by have := (HQ k).n3; omega) (by have := (HQ k).n4; omega)),
      .m (sv 4 ((q3 4).blk 0) 0 108 ([.int .i64 r, .int .i64 s, .int .i64 n, .int .i64 m, .int .i64 c, .int .i64 mode, ((q31 8).val 0), vC11_7, ((q31 8).val 1), .int .i64 0, .int .i64 0, .int .i64 0, .int .i64 0, .int .i64 0, .int .i64 0, ((q31 8).val 2), vC11_16, vC11_17, ((q31 8).val 3), ((q31 8).val 4)]) #[.int .i64 r, .int .i64 s, .int .i64 n, .int .i64 m, .int .i64 c, .int .i64 mode, vC11_6, vC11_7, vC11_8, .int .i64 0, .int .i64 0, .int .i64 0, .int .i64 0, .int .i64 0, .int .i64 0, vC11_15, vC11_16, vC11_17, vC11_18, vC11_19] #[.int .i64 r, .int .i64 s, .int .i64 n, .int .i64 m, .int .i64 c, .int .i64 mode, ((q31 8).val 0), vC11_7, ((q31 8).val 1), .int .i64 0, .int .i64 0, .int .i64 0, .int .i64 0, .int .i64 0, .int .i64 0, ((q31 8).val 2), vC11_16, vC11_17, ((q31 8).val 3), ((q31 8).val 4)] [(5, .p (SqE eCe ((q31 8).val 0) (wrC ((qY r s n m c mode Vs0 ops k).d.cl) ((qY r s n m c mode Vs0 ops k).d.co) ((ops.getD k zOq).index) ((ops.getD k zOq).raw)))), (6, .p (SqE eFa vC11_7 ((qY r s n m c mode Vs0 ops k).d.la))), (7, .p (SqE eFa ((q31 8).val 1) (rwent_2 ((qY r s n m c mode Vs0 ops k).d.co)))), (8, .p (SqE eCe ((q31 8).val 2) (putC ((qY r s n m c mode Vs0 ops k).g.cl) ((ops.getD k zOq).index) ((ops.getD k zOq).raw)))), (9, .p (SqE eFa vC11_16 ((qY r s n m c mode Vs0 ops k).g.la))), (10, .p (SqE eFa vC11_17 ((qY r s n m c mode Vs0 ops k).g.co))), (11, .p (SqE eI ((q31 8).val 3) (markT ((qY r s n m c mode Vs0 ops k).ma) ((ops.getD k zOq).index) true))), (12, .p (SqE eAc ((q31 8).val 4) (((qY r s n m c mode Vs0 ops k).l) ++ [⟨true, ((ops.getD k zOq).index), rwent_0 ((qY r s n m c mode Vs0 ops k).d.co) ((ops.getD k zOq).index), rwent_1 ((qY r s n m c mode Vs0 ops k).d.co), 0, false⟩])))] (by kernel_rfl) (Nat.le_of_ble_eq_true rfl) (fun c5 hc5 => (oc rfl (oc rfl (oc rfl (oc rfl (oc rfl (oc rfl (oc (SqE.one (hc5 _ (.head _))) (oc (SqE.one (hc5 _ (.tail _ (.head _)))) (oc (SqE.one (hc5 _ (.tail _ (.tail _ (.head _))))) (oc rfl (oc rfl (oc rfl (oc rfl (oc rfl (oc rfl (oc (SqE.one (hc5 _ (.tail _ (.tail _ (.tail _ (.head _)))))) (oc (SqE.one (hc5 _ (.tail _ (.tail _ (.tail _ (.tail _ (.head _))))))) (oc (SqE.one (hc5 _ (.tail _ (.tail _ (.tail _ (.tail _ (.tail _ (.head _)))))))) (oc (SqE.one (hc5 _ (.tail _ (.tail _ (.tail _ (.tail _ (.tail _ (.tail _ (.head _))))))))) (oc (SqE.one (hc5 _ (.tail _ (.tail _ (.tail _ (.tail _ (.tail _ (.tail _ (.tail _ (.head _)))))))))) on0))))))))))))))))))))))]) (fun q31 L => (((((L.set 4 (ob ((q3 4).blk 0) #[.int .i64 r, .int .i64 s, .int .i64 n, .int .i64 m, .int .i64 c, .int .i64 mode, ((q31 8).val 0), vC11_7, ((q31 8).val 1), .int .i64 0, .int .i64 0, .int .i64 0, .int .i64 0, .int .i64 0, .int .i64 0, ((q31 8).val 2), vC11_16, vC11_17, ((q31 8).val 3), ((q31 8).val 4)] 108)).set 5 (.p (SqE eCe ((q31 8).val 0) (wrC ((qY r s n m c mode Vs0 ops k).d.cl) ((qY r s n m c mode Vs0 ops k).d.co) ((ops.getD k zOq).index) ((ops.getD k zOq).raw))))).set 7 (.p (SqE eFa ((q31 8).val 1) (rwent_2 ((qY r s n m c mode Vs0 ops k).d.co))))).set 8 (.p (SqE eCe ((q31 8).val 2) (putC ((qY r s n m c mode Vs0 ops k).g.cl) ((ops.getD k zOq).index) ((ops.getD k zOq).raw))))).set 11 (.p (SqE eI ((q31 8).val 3) (markT ((qY r s n m c mode Vs0 ops k).ma) ((ops.getD k zOq).index) true)))).set 12 (.p (SqE eAc ((q31 8).val 4) (((qY r s n m c mode Vs0 ops k).l) ++ [⟨true, ((ops.getD k zOq).index), rwent_0 ((qY r s n m c mode Vs0 ops k).d.co) ((ops.getD k zOq).index), rwent_1 ((qY r s n m c mode Vs0 ops k).d.co), 0, false⟩])))) OW ?_
     clear OW; intro q31 _ Wq31 OW; simp only [↓pc, ↓pn, vE, Hint.val, Act.put, eL]
     gi_upto_region 21 with fail
     refine rg (fun q32 => [.v (.int .i64 (vput_0 (qV (V0 r s n m c mode) ops k) (ops.getD k zOq).index)),
      .t (tk (show Value.bool ((vput_0 (qV (V0 r s n m c mode) ops k) (ops.getD k zOq).index) != 0) = .bool false from congrArg Value.bool (by exact (HQ k).k91 (by assumption))))]) (fun _ L => L) OW ?_
     clear OW; intro q32 _ Wq32 OW; simp only [↓pc, ↓pn, vE, Hint.val, Act.put, eL]
     gi_upto_region 32 with fail
     refine rg (fun q33 => [.t (tb (a := .int .i64 (k : Int)) (b := .int .i64 1) fun _ _ _ _ => bin_add_nat (a := k) (b := 1) (by omega)),
      .v (.int .i64 ((k + 1 : Nat) : Int))]) (fun _ L => L) OW ?_
     clear OW; intro q33 _ Wq33 OW; simp only [↓pc, ↓pn, vE, Hint.val, Act.put, eL]
     gi_wp2
     go_roundw
     case rel => exact ⟨k + 1, ((q31 8).val 0), vC11_7, ((q31 8).val 1), ((q31 8).val 2), vC11_16, vC11_17, ((q31 8).val 3), ((q31 8).val 4), by omega, by go_num, (by rw [qV, qY]; simp only [qsV, qsY, qW, qRd]; (repeat (first | rw [hB9] | rw [hB13] | rw [hB15] | rw [hB25] | rw [hB28] | rw [cond_true] | rw [cond_false])); exact OwnE.pick OW.out [0, 1, 2, 3, 4, 5, 6, 7, 8, 9, 10, 11, 12] _ (by kernel_rfl))⟩
     case measure => (simp [intOf] <;> omega)
    have dhB25 := ne_of_beq_false hB25
    gi_upto_region 23 with fail
    refine rg (fun q34 => [.v (.bool (((ops.getD k zOq).kind) == 3)),
     .v (.bool (((ops.getD k zOq).kind) == 3))]) (fun _ L => L) OW ?_
    clear OW; intro q34 _ Wq34 OW; simp only [↓pc, ↓pn, vE, Hint.val, Act.put, eL]
    cases hB35 : (((ops.getD k zOq).kind) == 3)
    case true =>
     have dhB35 := Lib.hid (eq_of_beq hB35)
     gi_upto_region 24 with fail
     refine rg (fun q36 => [.v (.pointer (some ⟨((q2 2).blk 0), 0, none⟩)),
      .v (.pointer (some ⟨(q10 2).blk 0, 1, none⟩)),
      .m (ld 13 (.int .i64 ((ops.getD k zOq).index))),
      .c [3] [3] (vRead ((q2 2).blk 0) (qV (V0 r s n m c mode) ops k) ((ops.getD k zOq).index) ((HQ k).ok (by first | omega))),
      .v (.tuple #[.agg (rB 72 (vRead_0 (qV (V0 r s n m c mode) ops k) ((ops.getD k zOq).index))).toArray, .int .i64 (vRead_1 (qV (V0 r s n m c mode) ops k) ((ops.getD k zOq).index))]),
      .v (.agg (rB 72 (vRead_0 (qV (V0 r s n m c mode) ops k) ((ops.getD k zOq).index))).toArray),
      .v (.int .i64 (vRead_1 (qV (V0 r s n m c mode) ops k) ((ops.getD k zOq).index))),
      .m (al 14),
      .m (ss 14),
      .v (.int .i64 (vRead_1 (qV (V0 r s n m c mode) ops k) ((ops.getD k zOq).index)))]) (fun q36 L => L.set 3 (.p (PkE (DevS ((q2 2).blk 0) (rdV (qV (V0 r s n m c mode) ops k) ((ops.getD k zOq).index))))) ++ [ob ((q36 7).blk 0) (rB 72 (vRead_0 (qV (V0 r s n m c mode) ops k) ((ops.getD k zOq).index))).toArray 41]) OW ?_
     clear OW; intro q36 _ Wq36 OW; simp only [↓pc, ↓pn, vE, Hint.val, Act.put, eL]
     gi_upto_region 25 with fail
     refine rg (fun q37 => [.v (.pointer (some ⟨(q3 4).blk 0, 0, none⟩)),
      .m (ls 4 ([.int .i64 r, .int .i64 s, .int .i64 n, .int .i64 m, .int .i64 c, .int .i64 mode, vC11_6, vC11_7, vC11_8])),
      .v (.pointer (some ⟨(q10 2).blk 0, 1, none⟩)),
      .m (ld 13 (.int .i64 ((ops.getD k zOq).index))),
      .c [] [] (rHas r s n m c mode vC11_6 vC11_7 vC11_8 ((ops.getD k zOq).index) (by omega)),
      .v (.bool (!(rhas r s n m c ((ops.getD k zOq).index))))]) (fun _ L => L) OW ?_
     clear OW; intro q37 _ Wq37 OW; simp only [↓pc, ↓pn, vE, Hint.val, Act.put, eL]
     cases hB38 : (!(rhas r s n m c ((ops.getD k zOq).index)))
     case true =>
      gi_upto_region 26 with fail
      refine rg (fun q39 => [.v (.int .i64 (vRead_1 (qV (V0 r s n m c mode) ops k) ((ops.getD k zOq).index))),
       .v (.bool ((vRead_1 (qV (V0 r s n m c mode) ops k) ((ops.getD k zOq).index)) != 12)),
       .v (.bool ((vRead_1 (qV (V0 r s n m c mode) ops k) ((ops.getD k zOq).index)) != 12)),
       .m (ls 14 (rB 72 (vRead_0 (qV (V0 r s n m c mode) ops k) ((ops.getD k zOq).index)))),
       .v (.agg (rB 72 (List.replicate 72 0)).toArray),
       .t (tbT 41 fun _ _ _ => bin_neT (xs := rB 72 (vRead_0 (qV (V0 r s n m c mode) ops k) ((ops.getD k zOq).index))) (ys := rB 72 (List.replicate 72 0)) (by kernel_rfl) (eqc_rB (show ((vRead_0 (qV (V0 r s n m c mode) ops k) ((ops.getD k zOq).index))).length = 72 by first | rfl | (simp only [List.length_set, List.length_append, List.length_replicate, List.length_cons, List.length_nil, List.length_map, List.length_range, List.length_take, List.length_drop, HOR, HVL, HQR]; done) | (simp only [List.length_set, List.length_append, List.length_replicate, List.length_cons, List.length_nil, List.length_map, List.length_range, List.length_take, List.length_drop, HOR, HVL, HQR]; omega)) List.length_replicate)),
       .k (.bool (((vRead_1 (qV (V0 r s n m c mode) ops k) ((ops.getD k zOq).index)) != 12) || (!(decide ((vRead_0 (qV (V0 r s n m c mode) ops k) ((ops.getD k zOq).index)) = List.replicate 72 0)))))]) (fun _ L => L) OW ?_
      clear OW; intro q39 _ Wq39 OW; simp only [↓pc, ↓pn, vE, Hint.val, Act.put, eL]
      cases hB40 : (((vRead_1 (qV (V0 r s n m c mode) ops k) ((ops.getD k zOq).index)) != 12) || (!(decide ((vRead_0 (qV (V0 r s n m c mode) ops k) ((ops.getD k zOq).index)) = List.replicate 72 0))))
      case true => exact absurd (hB40.symm.trans (show _ = false from by exact (HQ k).k114 (by assumption))) (by decide)
      case false =>
       gi_upto_region 32 with fail
       refine rg (fun q41 => [.t (tb (a := .int .i64 (k : Int)) (b := .int .i64 1) fun _ _ _ _ => bin_add_nat (a := k) (b := 1) (by omega)),
        .v (.int .i64 ((k + 1 : Nat) : Int))]) (fun _ L => L) OW ?_
       clear OW; intro q41 _ Wq41 OW; simp only [↓pc, ↓pn, vE, Hint.val, Act.put, eL]
       gi_wp2
       go_roundw
       case rel => exact ⟨k + 1, vC11_6, vC11_7, vC11_8, vC11_15, vC11_16, vC11_17, vC11_18, vC11_19, by omega, by go_num, (by rw [qV, qY]; simp only [qsV, qsY, qW, qRd]; (repeat (first | rw [hB9] | rw [hB13] | rw [hB15] | rw [hB25] | rw [hB35] | rw [hB38] | rw [hB40] | rw [cond_true] | rw [cond_false])); exact OwnE.pick OW.out [0, 1, 2, 3, 4, 5, 6, 7, 8, 9, 10, 11, 12] _ (by kernel_rfl))⟩
       case measure => (simp [intOf] <;> omega)
     gi_upto_region 28 with fail
     have pn1 := has_nn hB38
     refine rg (fun q42 => [.m (ls 4 ([.int .i64 r, .int .i64 s, .int .i64 n, .int .i64 m, .int .i64 c, .int .i64 mode, vC11_6, vC11_7, vC11_8, .int .i64 0, .int .i64 0, .int .i64 0, .int .i64 0, .int .i64 0, .int .i64 0, vC11_15, vC11_16, vC11_17, vC11_18, vC11_19])),
      .v (.pointer (some ⟨(q10 2).blk 0, 1, none⟩)),
      .m (ld 13 (.int .i64 ((ops.getD k zOq).index))),
      .c [5, 6, 7, 8, 9, 10, 11, 12] [7, 12] (qread r s n m c mode vC11_6 vC11_7 vC11_8 vC11_15 vC11_16 vC11_17 vC11_18 vC11_19 ((qY r s n m c mode Vs0 ops k).d.cl) ((qY r s n m c mode Vs0 ops k).d.la) ((qY r s n m c mode Vs0 ops k).d.co) ((qY r s n m c mode Vs0 ops k).g.cl) ((qY r s n m c mode Vs0 ops k).g.la) ((qY r s n m c mode Vs0 ops k).g.co) ((qY r s n m c mode Vs0 ops k).ma) ((qY r s n m c mode Vs0 ops k).l) ((ops.getD k zOq).index) pn1 (HI k).2.2 ((HQ k).rp.pl) (by have := (HQ k).n1; omega) (by have := (HQ k).n2; omega) (by have := (HQ k).n3; omega) (by have := (HQ k).n4; omega) (HQ k).rp.l1 (HQ k).rp.cl (HQ k).gcl (HQ k).rp.f1),
      .v (.tuple #[.agg #[.int .i64 r, .int .i64 s, .int .i64 n, .int .i64 m, .int .i64 c, .int .i64 mode, vC11_6, vC11_7, ((q42 3).val 0), .int .i64 0, .int .i64 0, .int .i64 0, .int .i64 0, .int .i64 0, .int .i64 0, vC11_15, vC11_16, vC11_17, vC11_18, ((q42 3).val 1)], .agg (rB 72 (qread_0 mode ((qY r s n m c mode Vs0 ops k).d.cl) ((qY r s n m c mode Vs0 ops k).d.la) ((qY r s n m c mode Vs0 ops k).d.co) ((ops.getD k zOq).index))).toArray]),
      .v (.agg #[.int .i64 r, .int .i64 s, .int .i64 n, .int .i64 m, .int .i64 c, .int .i64 mode, vC11_6, vC11_7, ((q42 3).val 0), .int .i64 0, .int .i64 0, .int .i64 0, .int .i64 0, .int .i64 0, .int .i64 0, vC11_15, vC11_16, vC11_17, vC11_18, ((q42 3).val 1)]),
      .v (.agg (rB 72 (qread_0 mode ((qY r s n m c mode Vs0 ops k).d.cl) ((qY r s n m c mode Vs0 ops k).d.la) ((qY r s n m c mode Vs0 ops k).d.co) ((ops.getD k zOq).index))).toArray),
      .m (al 15),
      .m (al 16),
      .m (sv 15 ((q42 7).blk 0) 0 108 ([.int .i64 r, .int .i64 s, .int .i64 n, .int .i64 m, .int .i64 c, .int .i64 mode, vC11_6, vC11_7, ((q42 3).val 0), .int .i64 0, .int .i64 0, .int .i64 0, .int .i64 0, .int .i64 0, .int .i64 0, vC11_15, vC11_16, vC11_17, vC11_18, ((q42 3).val 1)]) #[.int .i64 0, .int .i64 0, .int .i64 0, .int .i64 0, .int .i64 0, .int .i64 0, .slice none 0 0, .slice none 0 0, .slice none 0 0, .int .i64 0, .int .i64 0, .int .i64 0, .int .i64 0, .int .i64 0, .int .i64 0, .slice none 0 0, .slice none 0 0, .slice none 0 0, .slice none 0 0, .slice none 0 0] #[.int .i64 r, .int .i64 s, .int .i64 n, .int .i64 m, .int .i64 c, .int .i64 mode, vC11_6, vC11_7, ((q42 3).val 0), .int .i64 0, .int .i64 0, .int .i64 0, .int .i64 0, .int .i64 0, .int .i64 0, vC11_15, vC11_16, vC11_17, vC11_18, ((q42 3).val 1)] [(5, .p (SqE eCe vC11_6 ((qY r s n m c mode Vs0 ops k).d.cl))), (6, .p (SqE eFa vC11_7 ((qY r s n m c mode Vs0 ops k).d.la))), (7, .p (SqE eFa ((q42 3).val 0) (rwent_2 ((qY r s n m c mode Vs0 ops k).d.co)))), (8, .p (SqE eCe vC11_15 ((qY r s n m c mode Vs0 ops k).g.cl))), (9, .p (SqE eFa vC11_16 ((qY r s n m c mode Vs0 ops k).g.la))), (10, .p (SqE eFa vC11_17 ((qY r s n m c mode Vs0 ops k).g.co))), (11, .p (SqE eI vC11_18 ((qY r s n m c mode Vs0 ops k).ma))), (12, .p (SqE eAc ((q42 3).val 1) (((qY r s n m c mode Vs0 ops k).l) ++ [⟨false, ((ops.getD k zOq).index), rwent_0 ((qY r s n m c mode Vs0 ops k).d.co) ((ops.getD k zOq).index), rwent_1 ((qY r s n m c mode Vs0 ops k).d.co), ((expo mode (rdT ((qY r s n m c mode Vs0 ops k).d.cl) ((qY r s n m c mode Vs0 ops k).d.la) ((qY r s n m c mode Vs0 ops k).d.co) mode ((ops.getD k zOq).index)) (getC ((qY r s n m c mode Vs0 ops k).g.cl) (rwent_0 ((qY r s n m c mode Vs0 ops k).d.co) ((ops.getD k zOq).index))) : Nat) : Int), (!rwent_1 ((qY r s n m c mode Vs0 ops k).d.co)) && mkd ((qY r s n m c mode Vs0 ops k).ma) (rwent_0 ((qY r s n m c mode Vs0 ops k).d.co) ((ops.getD k zOq).index))⟩])))] (by kernel_rfl) (Nat.le_of_ble_eq_true rfl) (fun c5 hc5 => (oc rfl (oc rfl (oc rfl (oc rfl (oc rfl (oc rfl (oc (SqE.one (hc5 _ (.head _))) (oc (SqE.one (hc5 _ (.tail _ (.head _)))) (oc (SqE.one (hc5 _ (.tail _ (.tail _ (.head _))))) (oc rfl (oc rfl (oc rfl (oc rfl (oc rfl (oc rfl (oc (SqE.one (hc5 _ (.tail _ (.tail _ (.tail _ (.head _)))))) (oc (SqE.one (hc5 _ (.tail _ (.tail _ (.tail _ (.tail _ (.head _))))))) (oc (SqE.one (hc5 _ (.tail _ (.tail _ (.tail _ (.tail _ (.tail _ (.head _)))))))) (oc (SqE.one (hc5 _ (.tail _ (.tail _ (.tail _ (.tail _ (.tail _ (.tail _ (.head _))))))))) (oc (SqE.one (hc5 _ (.tail _ (.tail _ (.tail _ (.tail _ (.tail _ (.tail _ (.tail _ (.head _)))))))))) on0)))))))))))))))))))))),
      .m (ss 16)]) (fun q42 L => (L.set 7 (.p (SqE eFa ((q42 3).val 0) (rwent_2 ((qY r s n m c mode Vs0 ops k).d.co))))).set 12 (.p (SqE eAc ((q42 3).val 1) (((qY r s n m c mode Vs0 ops k).l) ++ [⟨false, ((ops.getD k zOq).index), rwent_0 ((qY r s n m c mode Vs0 ops k).d.co) ((ops.getD k zOq).index), rwent_1 ((qY r s n m c mode Vs0 ops k).d.co), ((expo mode (rdT ((qY r s n m c mode Vs0 ops k).d.cl) ((qY r s n m c mode Vs0 ops k).d.la) ((qY r s n m c mode Vs0 ops k).d.co) mode ((ops.getD k zOq).index)) (getC ((qY r s n m c mode Vs0 ops k).g.cl) (rwent_0 ((qY r s n m c mode Vs0 ops k).d.co) ((ops.getD k zOq).index))) : Nat) : Int), (!rwent_1 ((qY r s n m c mode Vs0 ops k).d.co)) && mkd ((qY r s n m c mode Vs0 ops k).ma) (rwent_0 ((qY r s n m c mode Vs0 ops k).d.co) ((ops.getD k zOq).index))⟩]))) ++ [ob ((q42 7).blk 0) #[.int .i64 r, .int .i64 s, .int .i64 n, .int .i64 m, .int .i64 c, .int .i64 mode, vC11_6, vC11_7, ((q42 3).val 0), .int .i64 0, .int .i64 0, .int .i64 0, .int .i64 0, .int .i64 0, .int .i64 0, vC11_15, vC11_16, vC11_17, vC11_18, ((q42 3).val 1)] 108, ob ((q42 8).blk 0) (rB 72 (qread_0 mode ((qY r s n m c mode Vs0 ops k).d.cl) ((qY r s n m c mode Vs0 ops k).d.la) ((qY r s n m c mode Vs0 ops k).d.co) ((ops.getD k zOq).index))).toArray 40]) OW ?_
     clear OW; intro q42 _ Wq42 OW; simp only [↓pc, ↓pn, vE, Hint.val, Act.put, eL]
     gi_upto_region 29 with fail
     refine rg (fun q43 => [.m (ls 15 ([.int .i64 r, .int .i64 s, .int .i64 n, .int .i64 m, .int .i64 c, .int .i64 mode, vC11_6, vC11_7, ((q42 3).val 0), .int .i64 0, .int .i64 0, .int .i64 0, .int .i64 0, .int .i64 0, .int .i64 0, vC11_15, vC11_16, vC11_17, vC11_18, ((q42 3).val 1)])),
      .m (sv 4 ((q3 4).blk 0) 0 108 ([.int .i64 r, .int .i64 s, .int .i64 n, .int .i64 m, .int .i64 c, .int .i64 mode, vC11_6, vC11_7, ((q42 3).val 0), .int .i64 0, .int .i64 0, .int .i64 0, .int .i64 0, .int .i64 0, .int .i64 0, vC11_15, vC11_16, vC11_17, vC11_18, ((q42 3).val 1)]) #[.int .i64 r, .int .i64 s, .int .i64 n, .int .i64 m, .int .i64 c, .int .i64 mode, vC11_6, vC11_7, vC11_8, .int .i64 0, .int .i64 0, .int .i64 0, .int .i64 0, .int .i64 0, .int .i64 0, vC11_15, vC11_16, vC11_17, vC11_18, vC11_19] #[.int .i64 r, .int .i64 s, .int .i64 n, .int .i64 m, .int .i64 c, .int .i64 mode, vC11_6, vC11_7, ((q42 3).val 0), .int .i64 0, .int .i64 0, .int .i64 0, .int .i64 0, .int .i64 0, .int .i64 0, vC11_15, vC11_16, vC11_17, vC11_18, ((q42 3).val 1)] [(5, .p (SqE eCe vC11_6 ((qY r s n m c mode Vs0 ops k).d.cl))), (6, .p (SqE eFa vC11_7 ((qY r s n m c mode Vs0 ops k).d.la))), (7, .p (SqE eFa ((q42 3).val 0) (rwent_2 ((qY r s n m c mode Vs0 ops k).d.co)))), (8, .p (SqE eCe vC11_15 ((qY r s n m c mode Vs0 ops k).g.cl))), (9, .p (SqE eFa vC11_16 ((qY r s n m c mode Vs0 ops k).g.la))), (10, .p (SqE eFa vC11_17 ((qY r s n m c mode Vs0 ops k).g.co))), (11, .p (SqE eI vC11_18 ((qY r s n m c mode Vs0 ops k).ma))), (12, .p (SqE eAc ((q42 3).val 1) (((qY r s n m c mode Vs0 ops k).l) ++ [⟨false, ((ops.getD k zOq).index), rwent_0 ((qY r s n m c mode Vs0 ops k).d.co) ((ops.getD k zOq).index), rwent_1 ((qY r s n m c mode Vs0 ops k).d.co), ((expo mode (rdT ((qY r s n m c mode Vs0 ops k).d.cl) ((qY r s n m c mode Vs0 ops k).d.la) ((qY r s n m c mode Vs0 ops k).d.co) mode ((ops.getD k zOq).index)) (getC ((qY r s n m c mode Vs0 ops k).g.cl) (rwent_0 ((qY r s n m c mode Vs0 ops k).d.co) ((ops.getD k zOq).index))) : Nat) : Int), (!rwent_1 ((qY r s n m c mode Vs0 ops k).d.co)) && mkd ((qY r s n m c mode Vs0 ops k).ma) (rwent_0 ((qY r s n m c mode Vs0 ops k).d.co) ((ops.getD k zOq).index))⟩])))] (by kernel_rfl) (Nat.le_of_ble_eq_true rfl) (fun c5 hc5 => (oc rfl (oc rfl (oc rfl (oc rfl (oc rfl (oc rfl (oc (SqE.one (hc5 _ (.head _))) (oc (SqE.one (hc5 _ (.tail _ (.head _)))) (oc (SqE.one (hc5 _ (.tail _ (.tail _ (.head _))))) (oc rfl (oc rfl (oc rfl (oc rfl (oc rfl (oc rfl (oc (SqE.one (hc5 _ (.tail _ (.tail _ (.tail _ (.head _)))))) (oc (SqE.one (hc5 _ (.tail _ (.tail _ (.tail _ (.tail _ (.head _))))))) (oc (SqE.one (hc5 _ (.tail _ (.tail _ (.tail _ (.tail _ (.tail _ (.head _)))))))) (oc (SqE.one (hc5 _ (.tail _ (.tail _ (.tail _ (.tail _ (.tail _ (.tail _ (.head _))))))))) (oc (SqE.one (hc5 _ (.tail _ (.tail _ (.tail _ (.tail _ (.tail _ (.tail _ (.tail _ (.head _)))))))))) on0))))))))))))))))))))))]) (fun q43 L => L.set 4 (ob ((q3 4).blk 0) #[.int .i64 r, .int .i64 s, .int .i64 n, .int .i64 m, .int .i64 c, .int .i64 mode, vC11_6, vC11_7, ((q42 3).val 0), .int .i64 0, .int .i64 0, .int .i64 0, .int .i64 0, .int .i64 0, .int .i64 0, vC11_15, vC11_16, vC11_17, vC11_18, ((q42 3).val 1)] 108)) OW ?_
     clear OW; intro q43 _ Wq43 OW; simp only [↓pc, ↓pn, vE, Hint.val, Act.put, eL]
     gi_upto_region 30 with fail
     refine rg (fun q44 => [.v (.int .i64 (vRead_1 (qV (V0 r s n m c mode) ops k) ((ops.getD k zOq).index))),
      .v (.bool ((vRead_1 (qV (V0 r s n m c mode) ops k) ((ops.getD k zOq).index)) != 0)),
      .v (.bool ((vRead_1 (qV (V0 r s n m c mode) ops k) ((ops.getD k zOq).index)) != 0)),
      .m (ls 14 (rB 72 (vRead_0 (qV (V0 r s n m c mode) ops k) ((ops.getD k zOq).index)))),
      .m (ls 16 (rB 72 (qread_0 mode ((qY r s n m c mode Vs0 ops k).d.cl) ((qY r s n m c mode Vs0 ops k).d.la) ((qY r s n m c mode Vs0 ops k).d.co) ((ops.getD k zOq).index)))),
      .t (tbT 40 fun _ _ _ => bin_neT (xs := rB 72 (vRead_0 (qV (V0 r s n m c mode) ops k) ((ops.getD k zOq).index))) (ys := rB 72 (qread_0 mode ((qY r s n m c mode Vs0 ops k).d.cl) ((qY r s n m c mode Vs0 ops k).d.la) ((qY r s n m c mode Vs0 ops k).d.co) ((ops.getD k zOq).index))) (by kernel_rfl) (eqc_rB (show ((vRead_0 (qV (V0 r s n m c mode) ops k) ((ops.getD k zOq).index))).length = 72 by first | rfl | (simp only [List.length_set, List.length_append, List.length_replicate, List.length_cons, List.length_nil, List.length_map, List.length_range, List.length_take, List.length_drop, HOR, HVL, HQR]; done) | (simp only [List.length_set, List.length_append, List.length_replicate, List.length_cons, List.length_nil, List.length_map, List.length_range, List.length_take, List.length_drop, HOR, HVL, HQR]; omega)) (show ((qread_0 mode ((qY r s n m c mode Vs0 ops k).d.cl) ((qY r s n m c mode Vs0 ops k).d.la) ((qY r s n m c mode Vs0 ops k).d.co) ((ops.getD k zOq).index))).length = 72 by first | rfl | (simp only [List.length_set, List.length_append, List.length_replicate, List.length_cons, List.length_nil, List.length_map, List.length_range, List.length_take, List.length_drop, HOR, HVL, HQR]; done) | (simp only [List.length_set, List.length_append, List.length_replicate, List.length_cons, List.length_nil, List.length_map, List.length_range, List.length_take, List.length_drop, HOR, HVL, HQR]; omega)))),
      .k (.bool (((vRead_1 (qV (V0 r s n m c mode) ops k) ((ops.getD k zOq).index)) != 0) || (!(decide ((vRead_0 (qV (V0 r s n m c mode) ops k) ((ops.getD k zOq).index)) = (qread_0 mode ((qY r s n m c mode Vs0 ops k).d.cl) ((qY r s n m c mode Vs0 ops k).d.la) ((qY r s n m c mode Vs0 ops k).d.co) ((ops.getD k zOq).index)))))))]) (fun _ L => L) OW ?_
     clear OW; intro q44 _ Wq44 OW; simp only [↓pc, ↓pn, vE, Hint.val, Act.put, eL]
     cases hB45 : (((vRead_1 (qV (V0 r s n m c mode) ops k) ((ops.getD k zOq).index)) != 0) || (!(decide ((vRead_0 (qV (V0 r s n m c mode) ops k) ((ops.getD k zOq).index)) = (qread_0 mode ((qY r s n m c mode Vs0 ops k).d.cl) ((qY r s n m c mode Vs0 ops k).d.la) ((qY r s n m c mode Vs0 ops k).d.co) ((ops.getD k zOq).index))))))
     case true => exact absurd (hB45.symm.trans (show _ = false from by exact (HQ k).k130 (by assumption))) (by decide)
     case false =>
      gi_upto_region 32 with fail
      refine rg (fun q46 => [.t (tb (a := .int .i64 (k : Int)) (b := .int .i64 1) fun _ _ _ _ => bin_add_nat (a := k) (b := 1) (by omega)),
       .v (.int .i64 ((k + 1 : Nat) : Int))]) (fun _ L => L) OW ?_
      clear OW; intro q46 _ Wq46 OW; simp only [↓pc, ↓pn, vE, Hint.val, Act.put, eL]
      gi_wp2
      go_roundw
      case rel => exact ⟨k + 1, vC11_6, vC11_7, ((q42 3).val 0), vC11_15, vC11_16, vC11_17, vC11_18, ((q42 3).val 1), by omega, by go_num, (by rw [qV, qY]; simp only [qsV, qsY, qW, qRd]; (repeat (first | rw [hB9] | rw [hB13] | rw [hB15] | rw [hB25] | rw [hB35] | rw [hB38] | rw [hB45] | rw [cond_true] | rw [cond_false])); exact OwnE.pick OW.out [0, 1, 2, 3, 4, 5, 6, 7, 8, 9, 10, 11, 12] _ (by kernel_rfl))⟩
      case measure => (simp [intOf] <;> omega)
    have dhB35 := ne_of_beq_false hB35
    gi_upto_region 32 with fail
    refine rg (fun q47 => [.t (tb (a := .int .i64 (k : Int)) (b := .int .i64 1) fun _ _ _ _ => bin_add_nat (a := k) (b := 1) (by omega)),
     .v (.int .i64 ((k + 1 : Nat) : Int))]) (fun _ L => L) OW ?_
    clear OW; intro q47 _ Wq47 OW; simp only [↓pc, ↓pn, vE, Hint.val, Act.put, eL]
    gi_wp2
    go_roundw
    case rel => exact ⟨k + 1, vC11_6, vC11_7, vC11_8, vC11_15, vC11_16, vC11_17, vC11_18, vC11_19, by omega, by go_num, (by rw [qV, qY]; simp only [qsV, qsY, qW, qRd]; (repeat (first | rw [hB9] | rw [hB13] | rw [hB15] | rw [hB25] | rw [hB35] | rw [cond_true] | rw [cond_false])); exact OwnE.pick OW.out [0, 1, 2, 3, 4, 5, 6, 7, 8, 9, 10, 11, 12] _ (by kernel_rfl))⟩
    case measure => (simp [intOf] <;> omega)
  have dhB9 := of_decide_eq_false hB9
  obtain rfl : ops.length = k := by omega
  gi_upto_region 33 with fail
  refine rg (fun q48 => [.v (.pointer (some ⟨((q2 2).blk 0), 0, none⟩)),
   .m (ls 4 ([.int .i64 r, .int .i64 s, .int .i64 n, .int .i64 m, .int .i64 c, .int .i64 mode, vC11_6, vC11_7, vC11_8, .int .i64 0, .int .i64 0, .int .i64 0, .int .i64 0, .int .i64 0, .int .i64 0, vC11_15, vC11_16, vC11_17, vC11_18, vC11_19])),
   .v (.pointer (some ⟨((q2 2).blk 0), 0, none⟩)),
   .m (sv 2 ((q1 2).blk 0) 0 108 ([.int .i64 r, .int .i64 s, .int .i64 n, .int .i64 m, .int .i64 c, .int .i64 mode, vC11_6, vC11_7, vC11_8, .int .i64 0, .int .i64 0, .int .i64 0, .int .i64 0, .int .i64 0, .int .i64 0, vC11_15, vC11_16, vC11_17, vC11_18, vC11_19]) #[.int .i64 0, .int .i64 0, .int .i64 0, .int .i64 0, .int .i64 0, .int .i64 0, .slice none 0 0, .slice none 0 0, .slice none 0 0, .int .i64 0, .int .i64 0, .int .i64 0, .int .i64 0, .int .i64 0, .int .i64 0, .slice none 0 0, .slice none 0 0, .slice none 0 0, .slice none 0 0, .slice none 0 0] #[.int .i64 r, .int .i64 s, .int .i64 n, .int .i64 m, .int .i64 c, .int .i64 mode, vC11_6, vC11_7, vC11_8, .int .i64 0, .int .i64 0, .int .i64 0, .int .i64 0, .int .i64 0, .int .i64 0, vC11_15, vC11_16, vC11_17, vC11_18, vC11_19] [(5, .p (SqE eCe vC11_6 ((qY r s n m c mode Vs0 ops ops.length).d.cl))), (6, .p (SqE eFa vC11_7 ((qY r s n m c mode Vs0 ops ops.length).d.la))), (7, .p (SqE eFa vC11_8 ((qY r s n m c mode Vs0 ops ops.length).d.co))), (8, .p (SqE eCe vC11_15 ((qY r s n m c mode Vs0 ops ops.length).g.cl))), (9, .p (SqE eFa vC11_16 ((qY r s n m c mode Vs0 ops ops.length).g.la))), (10, .p (SqE eFa vC11_17 ((qY r s n m c mode Vs0 ops ops.length).g.co))), (11, .p (SqE eI vC11_18 ((qY r s n m c mode Vs0 ops ops.length).ma))), (12, .p (SqE eAc vC11_19 ((qY r s n m c mode Vs0 ops ops.length).l)))] (by kernel_rfl) (Nat.le_of_ble_eq_true rfl) (fun c5 hc5 => (oc rfl (oc rfl (oc rfl (oc rfl (oc rfl (oc rfl (oc (SqE.one (hc5 _ (.head _))) (oc (SqE.one (hc5 _ (.tail _ (.head _)))) (oc (SqE.one (hc5 _ (.tail _ (.tail _ (.head _))))) (oc rfl (oc rfl (oc rfl (oc rfl (oc rfl (oc rfl (oc (SqE.one (hc5 _ (.tail _ (.tail _ (.tail _ (.head _)))))) (oc (SqE.one (hc5 _ (.tail _ (.tail _ (.tail _ (.tail _ (.head _))))))) (oc (SqE.one (hc5 _ (.tail _ (.tail _ (.tail _ (.tail _ (.tail _ (.head _)))))))) (oc (SqE.one (hc5 _ (.tail _ (.tail _ (.tail _ (.tail _ (.tail _ (.tail _ (.head _))))))))) (oc (SqE.one (hc5 _ (.tail _ (.tail _ (.tail _ (.tail _ (.tail _ (.tail _ (.tail _ (.head _)))))))))) on0)))))))))))))))))))))),
   .v (.bool true)]) (fun q48 L => L.set 2 (ob ((q1 2).blk 0) #[.int .i64 r, .int .i64 s, .int .i64 n, .int .i64 m, .int .i64 c, .int .i64 mode, vC11_6, vC11_7, vC11_8, .int .i64 0, .int .i64 0, .int .i64 0, .int .i64 0, .int .i64 0, .int .i64 0, vC11_15, vC11_16, vC11_17, vC11_18, vC11_19] 108)) OW ?_
  clear OW; intro q48 _ Wq48 OW; simp only [↓pc, ↓pn, vE, Hint.val, Act.put, eL]
  gi_wp2
  exact leafE HS HH OW [.t (.pointer (some ⟨((q2 2).blk 0), 0, none⟩)), .s ([.int .i64 r, .int .i64 s, .int .i64 n, .int .i64 m, .int .i64 c, .int .i64 mode, vC11_6, vC11_7, vC11_8, .int .i64 0, .int .i64 0, .int .i64 0, .int .i64 0, .int .i64 0, .int .i64 0, vC11_15, vC11_16, vC11_17, vC11_18, vC11_19]) 2, .t (.bool true)] (.l [((q2 2).blk 0)] [] [vC11_6, vC11_7, vC11_8, vC11_15, vC11_16, vC11_17, vC11_18, vC11_19]) [3, 5, 6, 7, 8, 9, 10, 11, 12] [(0, 0)] rfl
theorem qplayed (r s n m c mode : Int) (v : Value) (ops : List Oq) (hops : oqsIn ops) (hq : ∀ k, ((ops.getD k zOq).kind == 1) = false) (hn : ops.length ≤ 60) (hg : gright r s n m c = true) (hm : rightB mode = true) : Con Try.prog 57 #[.agg #[.int .i64 r, .int .i64 s, .int .i64 n, .int .i64 m, .int .i64 c], .int .i64 mode, v] [.p (SqE eOq v ops)] [] (fun E => [.p (PkE (DevS ((E.blk 0)) (qV (V0 r s n m c mode) ops ops.length))), .p (SqE eCe (E.val 0) ((qY r s n m c mode Vs0 ops ops.length).d.cl)), .p (SqE eFa (E.val 1) ((qY r s n m c mode Vs0 ops ops.length).d.la)), .p (SqE eFa (E.val 2) ((qY r s n m c mode Vs0 ops ops.length).d.co)), .p (SqE eCe (E.val 3) ((qY r s n m c mode Vs0 ops ops.length).g.cl)), .p (SqE eFa (E.val 4) ((qY r s n m c mode Vs0 ops ops.length).g.la)), .p (SqE eFa (E.val 5) ((qY r s n m c mode Vs0 ops ops.length).g.co)), .p (SqE eI (E.val 6) ((qY r s n m c mode Vs0 ops ops.length).ma)), .p (SqE eAc (E.val 7) ((qY r s n m c mode Vs0 ops ops.length).l))]) (fun E => .tuple #[.pointer (some ⟨(E.blk 0), 0, none⟩), .agg #[.int .i64 r, .int .i64 s, .int .i64 n, .int .i64 m, .int .i64 c, .int .i64 mode, (E.val 0), (E.val 1), (E.val 2), .int .i64 0, .int .i64 0, .int .i64 0, .int .i64 0, .int .i64 0, .int .i64 0, (E.val 3), (E.val 4), (E.val 5), (E.val 6), (E.val 7)], .bool true]) :=
 Con.ro 0 rfl (fun bq0 hq0 => qplayed_c r s n m c mode v ops hops hq hn hg hm bq0 hq0) (enters_of Try.func57 (by kernel_rfl) rfl)
end Go.Proofs.Ytckhkagkpldoiaa.E
