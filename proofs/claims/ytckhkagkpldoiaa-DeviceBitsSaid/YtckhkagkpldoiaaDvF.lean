/- A device: the document's example; what one place of a quiet device holds. -/
import Derived.Test.YtckhkagkpldoiaaDvX
import Derived.Test.YtckhkagkpldoiaaDrPX
import Derived.WalkKit
import Derived.Sort.CutIn
import Derived.IntWalk
namespace Go.Proofs.Ytckhkagkpldoiaa.E
open Go Go.RowKit Go.Shelf
attribute [local go_sem] Oper.semAt_some
set_option linter.unusedVariables false
set_option linter.unusedSimpArgs false

/-- A device is right, and has so many accesses at most. -/
structure DvK (V : Dv) (n : Nat) : Prop where
  D : DrOk V.D
  gl : ∀ k, (V.ghost k).length = 72
  ll : V.l.length ≤ n
theorem DvK.ok {V : Dv} {n : Nat} (h : DvK V n) (hn : n ≤ 100000) : DvOk V := ⟨h.D, h.gl, Nat.le_trans h.ll hn⟩
theorem V0_k (r s b m c mode : Int) : DvK (V0 r s b m c mode) 0 := ⟨D0_ok r s b m c mode, fun _ => List.length_replicate, Nat.le_refl _⟩
theorem DvK.put {V : Dv} {n : Nat} (h : DvK V n) (i : Int) {r : List UInt8} (hr : r.length = 72) (mk : Int) : DvK (putV V i r mk) (n + 1) := by
  unfold putV
  cases dWrite_2 V.D i != 0
  · exact ⟨wrD_ok h.D i hr, upI_len h.gl i hr, by show (V.l ++ [_]).length ≤ _; have := h.ll; simp; omega⟩
  · exact ⟨wrD_ok h.D i hr, h.gl, Nat.le_succ_of_le h.ll⟩
theorem DvK.inj {V : Dv} {n : Nat} (h : DvK V n) {f : Fa} (hf : FaOk f) : DvK (injV V f) n := ⟨injD_ok h.D hf, h.gl, h.ll⟩
theorem DvK.rd {V : Dv} {n : Nat} (h : DvK V n) (i : Int) : DvK (rdV V i) (n + 1) := by
  unfold rdV
  cases dRead_3 V.D i != 0
  · exact ⟨rdD_ok h.D i, h.gl, by show (V.l ++ [_]).length ≤ _; have := h.ll; simp; omega⟩
  · exact ⟨rdD_ok h.D i, h.gl, Nat.le_succ_of_le h.ll⟩
/-- What one place holds where no fault lasts and none is to come. -/
structure BI (V : Dv) (r s b m c mode i : Int) (x g : List UInt8) (mk : Int) (l : List Ac) : Prop where
  g0 : V.D.g0 = r
  g1 : V.D.g1 = s
  g2 : V.D.g2 = b
  g3 : V.D.g3 = m
  g4 : V.D.g4 = c
  mode : V.D.mode = mode
  la : V.D.lasts = []
  co : V.D.coming = []
  x : V.D.cells i = x
  g : V.ghost i = g
  mz : V.marks i = mk
  l : V.l = l
section
variable {V : Dv} {r s b m c mode i : Int} {x g : List UInt8} {mk : Int} {l : List Ac}
theorem BI.gat (h : BI V r s b m c mode i x g mk l) (hi : gat_4 r s b m c i = 0) : gat_4 V.D.g0 V.D.g1 V.D.g2 V.D.g3 V.D.g4 i = 0 := by rw [h.g0, h.g1, h.g2, h.g3, h.g4]; exact hi
theorem BI.put (h : BI V r s b m c mode i x g mk l) (hi : gat_4 r s b m c i = 0) (y : List UInt8) (nk : Int) : BI (putV V i y nk) r s b m c mode i y y nk (l ++ [⟨true, i, i, false, 0, false⟩]) := by
  obtain ⟨h1, h2⟩ := wr_at h.co (h.gat hi) y
  obtain ⟨h3, h4, h5⟩ := went_none h.co
  have e0 : dWrite_0 V.D i = i := by unfold dWrite_0; rw [h.gat hi]; exact h5 i
  have e1 : dWrite_1 V.D i = false := by unfold dWrite_1; rw [h.gat hi]; exact h4
  unfold putV
  rw [h2, h1, e0, e1]
  exact ⟨h.g0, h.g1, h.g2, h.g3, h.g4, h.mode, h.la, h.co, upI_at _ _ _, upI_at _ _ _, upI_at _ _ _, by show V.l ++ _ = _; rw [h.l]⟩
theorem BI.rd (h : BI V r s b m c mode i x g mk l) (hi : gat_4 r s b m c i = 0) : BI (rdV V i) r s b m c mode i x g mk (l ++ [⟨false, i, i, false, ((expo mode x g : Nat) : Int), mk == 1⟩]) ∧ vRead_0 V i = x := by
  obtain ⟨h1, h2, h3, h4⟩ := rd_at h.co (h.gat hi)
  rw [h.la, h.x] at h1
  have h1 : dRead_0 V.D i = x := h1
  have e : rdD V.D i = V.D := by unfold rdD; rw [h.gat hi]; exact (went_none h.co).1
  unfold rdV vRead_0
  rw [h4, e, h1, h2, h3, h.mode, h.g, h.mz, h.l]
  exact ⟨⟨h.g0, h.g1, h.g2, h.g3, h.g4, h.mode, h.la, h.co, h.x, h.g, h.mz, rfl⟩, rfl⟩
/-- A bit that is to be turned there. -/
def fbt (u0 u1 u2 u3 y : Int) : Fa := ⟨1, u0, u1, u2, u3, 0, y, 0⟩
theorem BI.inj {u0 u1 u2 u3 : Int} (h : BI V r s b m c mode (gindex_0 r s b m c u0 u1 u2 u3) x g mk l) (hi : gindex_1 r s b m c u0 u1 u2 u3 = 0) (y : Int) :
    BI (injV V (fbt u0 u1 u2 u3 y)) r s b m c mode (gindex_0 r s b m c u0 u1 u2 u3) (bif dInject_0 V.D (fbt u0 u1 u2 u3 y) == 0 then flipI x y else x) g mk l := by
  have hg : giF V.D (fbt u0 u1 u2 u3 y) = gindex_0 r s b m c u0 u1 u2 u3 := by unfold giF fbt; rw [h.g0, h.g1, h.g2, h.g3, h.g4]
  have hj : dInject_0 V.D (fbt u0 u1 u2 u3 y) = bif !frF V.D (fbt u0 u1 u2 u3 y) then 10 else 0 := by
    unfold dInject_0 frF
    cases fright (fbt u0 u1 u2 u3 y).x0 (fbt u0 u1 u2 u3 y).x1 (fbt u0 u1 u2 u3 y).x2 (fbt u0 u1 u2 u3 y).x3 (fbt u0 u1 u2 u3 y).x4 (fbt u0 u1 u2 u3 y).x5 (fbt u0 u1 u2 u3 y).x6 (fbt u0 u1 u2 u3 y).x7 V.D.g0 V.D.g1 V.D.g2 V.D.g3 V.D.g4 V.D.mode
    · rfl
    · show gindex_1 _ _ _ _ _ u0 u1 u2 u3 = 0
      rw [h.g0, h.g1, h.g2, h.g3, h.g4]; exact hi
  unfold injV injD
  rw [hj]
  cases frF V.D (fbt u0 u1 u2 u3 y)
  · exact ⟨h.g0, h.g1, h.g2, h.g3, h.g4, h.mode, h.la, h.co, h.x, h.g, h.mz, h.l⟩
  · refine ⟨h.g0, h.g1, h.g2, h.g3, h.g4, h.mode, h.la, h.co, ?_, h.g, h.mz, h.l⟩
    show upI V.D.cells (giF V.D (fbt u0 u1 u2 u3 y)) (flipI (V.D.cells (giF V.D (fbt u0 u1 u2 u3 y))) y) (gindex_0 r s b m c u0 u1 u2 u3) = flipI x y
    rw [hg, upI_at, h.x]
end
theorem V0_bi (r s b m c mode i : Int) : BI (V0 r s b m c mode) r s b m c mode i zRw zRw 0 [] := ⟨rfl, rfl, rfl, rfl, rfl, rfl, rfl, rfl, rfl, rfl, rfl, rfl⟩
/-- The document's example. -/
def anB : List UInt8 := chipB 2 (List.replicate 72 0) 0 (255 : UInt8)
def anF2 : Fa := ⟨1, 0, 0, 0, 0, 0, 9, 0⟩
def an1V : Dv := putV (V0 1 0 1 1 1 2) 0 anB 0
def an2V : Dv := injV an1V anF2
def an3V : Dv := rdV an2V 0
theorem anB_len : anB.length = 72 := by kernel_rfl
theorem anF2_ok : FaOk anF2 := ⟨by decide, by decide⟩
theorem an1 : DvK an1V 1 := (V0_k 1 0 1 1 1 2).put 0 anB_len 0
theorem an2 : DvK an2V 1 := an1.inj anF2_ok
theorem an3_l : an3V.l = [⟨true, 0, 0, false, 0, false⟩, ⟨false, 0, 0, false, 1, false⟩] := by kernel_rfl
theorem an_len : an3V.l.length ≤ 1000000 := by rw [an3_l]; decide
theorem an_n : an3V.l.length - fromN 1 = 1 := by rw [an3_l]; rfl
def anN (k : Nat) : Int := if k = 0 then 0 else 11
theorem an_k {k : Nat} (h : k < an3V.l.length - fromN 1) : k ≤ 0 ∧ (an3V.l.getD (fromN 1 + k) zAc).expo ≤ 1 ∧ 1 ≤ (an3V.l.getD (fromN 1 + k) zAc).expo ∧ fromN 1 + k ≤ 1 := by
  rw [an_n] at h
  obtain rfl : k = 0 := by omega
  rw [an3_l]
  exact ⟨by decide, by decide, by decide, by decide⟩
theorem an_step {k : Nat} (h : k < an3V.l.length - fromN 1) : anN (k + 1) = anN k + (((fromN 1 + k : Nat) : Int) + 10 * (an3V.l.getD (fromN 1 + k) zAc).expo) := by
  rw [an_n] at h
  obtain rfl : k = 0 := by omega
  rw [an3_l]
  rfl
theorem anN_le (k : Nat) : 0 ≤ anN k ∧ anN k ≤ 11 := by unfold anN; split <;> decide
attribute [local irreducible] anN an1V an2V an3V fapply ovF gat_0 gat_1 gat_2 gat_3 gat_4 gindex_0 gindex_1 dInject_0 injD wrD rdD dWrite_0 dWrite_1 dWrite_2 dRead_0 dRead_1 dRead_2 dRead_3 D0 expo putV rdV V0 chipB fromN flipI
set_option maxRecDepth 100000 in
set_option maxHeartbeats 1000000 in
theorem vanchor  : Con Try.prog 48 #[] [] [] (fun _ => []) (fun _ => .bool true) := by
 refine Con.of (enters_of Try.func48 (by kernel_rfl) rfl) fun w cs HS HH OW => ?_
 refine (callsIn_wide (n := 6)).1 ?_
 refine callsIn_of_wp_marks Try.func48 rfl trivial ?_ rfl
 simp only [Try.ntmps48, eF, Nat.reduceAdd, Nat.reduceSub]
 gi_upto_region 0 with fail
 refine rg (fun q1 => [.v (.bool false)]) (fun _ L => L) OW ?_
 clear OW; intro q1 _ Wq1 OW; simp only [↓pc, ↓pn, vE, Hint.val, Act.put, eL]
 gi_upto_region 1 with fail
 refine rg (fun q2 => [.v (.agg #[.int .i64 1, .int .i64 0, .int .i64 1, .int .i64 1, .int .i64 1]),
  .c [] [0] (vNew 1 0 1 1 1 2 (by kernel_rfl) (by kernel_rfl)),
  .v (.tuple #[.pointer (some ⟨((q2 1).blk 0), 0, none⟩), .int .i64 0]),
  .v (.pointer (some ⟨((q2 1).blk 0), 0, none⟩)),
  .v (.int .i64 0),
  .v (.pointer (some ⟨((q2 1).blk 0), 0, none⟩)),
  .v (.int .i64 0)]) (fun q2 L => L ++ [.p (PkE (DevS (((q2 1).blk 0)) (V0 1 0 1 1 1 2)))]) OW ?_
 clear OW; intro q2 _ Wq2 OW; simp only [↓pc, ↓pn, vE, Hint.val, Act.put, eL]
 gi_upto_region 2 with fail
 refine rg (fun q3 => [.v (.int .i64 0),
  .v (.bool false),
  .v (.bool false),
  .v (.pointer (some ⟨((q2 1).blk 0), 0, none⟩)),
  .v (.bool false),
  .k (.bool false)]) (fun _ L => L) OW ?_
 clear OW; intro q3 _ Wq3 OW; simp only [↓pc, ↓pn, vE, Hint.val, Act.put, eL]
 gi_upto_region 4 with fail
 refine rg (fun q4 => [.v (.pointer (some ⟨((q2 1).blk 0), 0, none⟩)),
  .v (.agg (rB 72 (List.replicate 72 0)).toArray),
  .c [] [] (show Con _ 67 #[.agg (rB 72 (List.replicate 72 0)).toArray, .int .i64 2, .int .i64 0, .int .u8 255] _ _ _ fun _ => .agg (rB 72 (chipB 2 (List.replicate 72 0) 0 (255 : UInt8))).toArray from conB (enters_of Try.func67 (by kernel_rfl) rfl) fun w' => (by rw [rB_raw (n := 72) (xs := List.replicate 72 0) List.length_replicate, rB_raw (n := 72) (xs := chipB 2 (List.replicate 72 0) 0 (255 : UInt8)) (show (chipB 2 (List.replicate 72 0) 0 (255 : UInt8)).length = 72 by first | rfl | (simp only [List.length_set, List.length_append, List.length_replicate, List.length_cons, List.length_nil, List.length_map, List.length_range, List.length_take, List.length_drop, chipB_ln]; done) | (simp only [List.length_set, List.length_append, List.length_replicate, List.length_cons, List.length_nil, List.length_map, List.length_range, List.length_take, List.length_drop, chipB_ln]; omega))]; exact chip_any (List.replicate 72 0) (by first | rfl | (simp only [List.length_set, List.length_append, List.length_replicate, List.length_cons, List.length_nil, List.length_map, List.length_range, List.length_take, List.length_drop, chipB_ln]; done) | (simp only [List.length_set, List.length_append, List.length_replicate, List.length_cons, List.length_nil, List.length_map, List.length_range, List.length_take, List.length_drop, chipB_ln]; omega)) 2 0 (255 : UInt8) _)),
  .c [0] [0] (vWrite ((q2 1).blk 0) (V0 1 0 1 1 1 2) 0 (chipB 2 (List.replicate 72 0) 0 (255 : UInt8)) (by first | rfl | (simp only [List.length_set, List.length_append, List.length_replicate, List.length_cons, List.length_nil, List.length_map, List.length_range, List.length_take, List.length_drop, chipB_ln]; done) | (simp only [List.length_set, List.length_append, List.length_replicate, List.length_cons, List.length_nil, List.length_map, List.length_range, List.length_take, List.length_drop, chipB_ln]; omega)) ((V0_k 1 0 1 1 1 2).ok (by decide)))]) (fun q4 L => L.set 0 (.p (PkE (DevS ((q2 1).blk 0) (an1V))))) OW ?_
 clear OW; intro q4 _ Wq4 OW; simp only [↓pc, ↓pn, vE, Hint.val, Act.put, eL]
 gi_upto_region 5 with fail
 refine rg (fun q5 => [.v (.pointer (some ⟨((q2 1).blk 0), 0, none⟩)),
  .v (.agg #[.int .i64 1, .int .i64 0, .int .i64 0, .int .i64 0, .int .i64 0, .int .i64 0, .int .i64 9, .int .i64 0]),
  .c [0] [0] (vInject ((q2 1).blk 0) an1V (⟨1, 0, 0, 0, 0, 0, 9, 0⟩ : Fa) (an1.ok (by decide)) anF2_ok)]) (fun q5 L => L.set 0 (.p (PkE (DevS ((q2 1).blk 0) (an2V))))) OW ?_
 clear OW; intro q5 _ Wq5 OW; simp only [↓pc, ↓pn, vE, Hint.val, Act.put, eL]
 gi_upto_region 6 with fail
 refine rg (fun q6 => [.v (.pointer (some ⟨((q2 1).blk 0), 0, none⟩)),
  .c [0] [0] (vRead ((q2 1).blk 0) an2V 0 (an2.ok (by decide)))]) (fun q6 L => L.set 0 (.p (PkE (DevS ((q2 1).blk 0) (an3V))))) OW ?_
 clear OW; intro q6 _ Wq6 OW; simp only [↓pc, ↓pn, vE, Hint.val, Act.put, eL]
 gi_upto_region 7 with fail
 refine rg (fun q7 => [.m (al 1),
  .m (st 1)]) (fun q7 L => L ++ [ob ((q7 0).blk 0) #[.int .i64 0] 3]) OW ?_
 clear OW; intro q7 _ Wq7 OW; simp only [↓pc, ↓pn, vE, Hint.val, Act.put, eL]
 gi_upto_region 8 with fail
 refine rg (fun q8 => [.v (.pointer (some ⟨((q2 1).blk 0), 0, none⟩)),
  .c [] [2, 3] (vAccesses ((q2 1).blk 0) 1)]) (fun q8 L => L ++ [ob ((q8 1).blk 0) #[.int .i64 1] 3, ob ((q8 1).blk 1) #[.pointer (some ⟨((q2 1).blk 0), 0, none⟩)] 92]) OW ?_
 clear OW; intro q8 _ Wq8 OW; simp only [↓pc, ↓pn, vE, Hint.val, Act.put, eL]
 gi_wp2
 obtain ⟨bK9, hK10, OW1⟩ := OW.out.open 0 (by kernel_rfl)
 replace OW := Lib.hid (OwnE.cast (L' := [.c bK9, ob ((q7 0).blk 0) #[.int .i64 0] 3, ob ((q8 1).blk 0) #[.int .i64 1] 3, ob ((q8 1).blk 1) #[.pointer (some ⟨((q2 1).blk 0), 0, none⟩)] 92]) OW1 (by kernel_rfl)); clear OW1
 refine reE_iter (n := 6) (by omega) (gf := 88) (lb := #[.pointer (some ⟨((q8 1).blk 0), 0, none⟩), .pointer (some ⟨((q8 1).blk 1), 0, none⟩)]) rfl (enters_of Try.func88 (by kernel_rfl) rfl) (encs := fun (i : Nat) => #[.int .i64 ((i : Nat) : Int), .agg #[.bool (an3V.l.getD i zAc).wr, .int .i64 (an3V.l.getD i zAc).index, .int .i64 (an3V.l.getD i zAc).at_, .bool (an3V.l.getD i zAc).drop, .int .i64 (an3V.l.getD i zAc).expo, .bool (an3V.l.getD i zAc).mark]]) (xs := (List.range (an3V.l.length - fromN 1)).map (fun k => fromN 1 + k)) (KO := List.flatten [[(((q8 1).blk 0), .cells #[.int .i64 1] 3 (0, 0))], [(((q8 1).blk 1), .cells #[.pointer (some ⟨((q2 1).blk 0), 0, none⟩)] 92 (0, 0))], bK9]) (vAcc (6 - 1) (by omega) ((q8 1).blk 0) ((q8 1).blk 1) ((q2 1).blk 0) an3V 1 an_len bK9 hK10)
  (fun k Ls => k ≤ an3V.l.length - fromN 1 ∧ Ls = [.c bK9, ob ((q7 0).blk 0) #[.int .i64 (anN k)] 3, ob ((q8 1).blk 0) #[.int .i64 1] 3, ob ((q8 1).blk 1) #[.pointer (some ⟨((q2 1).blk 0), 0, none⟩)] 92]) (fun _ _ _ => False) (Lib.hid (OwnE.cast (L' := [.c bK9, ob ((q7 0).blk 0) #[.int .i64 (anN 0)] 3, ob ((q8 1).blk 0) #[.int .i64 1] 3, ob ((q8 1).blk 1) #[.pointer (some ⟨((q2 1).blk 0), 0, none⟩)] 92]) OW.out (by skip; kernel_rfl))) ⟨Nat.zero_le _, rfl⟩ ?KOI11 ?KXI11 (OwnE.ndC (Os := [[(((q8 1).blk 0), .cells #[.int .i64 1] 3 (0, 0))], [(((q8 1).blk 1), .cells #[.pointer (some ⟨((q2 1).blk 0), 0, none⟩)] 92 (0, 0))], bK9]) (OwnE.pick OW.out [2, 3, 0] _ (by kernel_rfl))) (fun _ => rfl) ?roundI11 ?doneI11 ?stopI11
 case KOI11 => rintro k Ls ⟨_, rfl⟩; exact holds_at (Os := [[(((q8 1).blk 0), .cells #[.int .i64 1] 3 (0, 0))], [(((q8 1).blk 1), .cells #[.pointer (some ⟨((q2 1).blk 0), 0, none⟩)] 92 (0, 0))], bK9]) [2, 3, 0] (by kernel_rfl)
 case KXI11 => exact fun _ _ _ h => h.elim
 case roundI11 =>
  rintro lR k xE Ls R14 W12 hxE ⟨hk13, rfl⟩ OW
  simp only [putP0, putP1, putP2, eL]
  obtain ⟨hkb15, rfl⟩ := range_map_some hxE
  obtain ⟨ak1, ak2, ak3, ak4⟩ := an_k hkb15
  obtain ⟨ak5, ak6⟩ := anN_le k
  gi_upto_region 9 with fail
  refine rg (fun q16 => [.v (.int .i64 ((fromN 1 + k : Nat) : Int))]) (fun _ L => L) OW ?_
  clear OW; intro q16 _ Wq16 OW; simp only [↓pc, ↓pn, vE, Hint.val, Act.put, eL]
  gi_upto_region 10 with fail
  refine rg (fun q17 => [.m (al 4),
   .m (ss 4)]) (fun q17 L => L ++ [ob ((q17 0).blk 0) #[.bool ((an3V.l.getD (fromN 1 + k) zAc).wr), .int .i64 ((an3V.l.getD (fromN 1 + k) zAc).index), .int .i64 ((an3V.l.getD (fromN 1 + k) zAc).at_), .bool ((an3V.l.getD (fromN 1 + k) zAc).drop), .int .i64 ((an3V.l.getD (fromN 1 + k) zAc).expo), .bool ((an3V.l.getD (fromN 1 + k) zAc).mark)] 101]) OW ?_
  clear OW; intro q17 _ Wq17 OW; simp only [↓pc, ↓pn, vE, Hint.val, Act.put, eL]
  gi_wp2
  refine ⟨[.c bK9, ob ((q7 0).blk 0) #[.int .i64 (anN k)] 3, ob ((q8 1).blk 0) #[.int .i64 1] 3, ob ((q8 1).blk 1) #[.pointer (some ⟨((q2 1).blk 0), 0, none⟩)] 92, ob ((q17 0).blk 0) #[.bool ((an3V.l.getD (fromN 1 + k) zAc).wr), .int .i64 ((an3V.l.getD (fromN 1 + k) zAc).index), .int .i64 ((an3V.l.getD (fromN 1 + k) zAc).at_), .bool ((an3V.l.getD (fromN 1 + k) zAc).drop), .int .i64 ((an3V.l.getD (fromN 1 + k) zAc).expo), .bool ((an3V.l.getD (fromN 1 + k) zAc).mark)] 101], OW.out, holds_at (Os := [[(((q8 1).blk 0), .cells #[.int .i64 1] 3 (0, 0))], [(((q8 1).blk 1), .cells #[.pointer (some ⟨((q2 1).blk 0), 0, none⟩)] 92 (0, 0))], bK9]) [2, 3, 0] (by kernel_rfl), ?_⟩
  clear OW; intro R19 W18 OW
  gi_upto_region 11 with fail
  refine rg (fun q20 => [.m (ld 1 (.int .i64 (anN k))),
   .v (.int .i64 ((fromN 1 + k : Nat) : Int)),
   .v (.pointer (some ⟨(q17 0).blk 0, 4, none⟩)),
   .m (ld 4 (.int .i64 ((an3V.l.getD (fromN 1 + k) zAc).expo))),
   .t (tb (a := .int .i64 10) (b := .int .i64 ((an3V.l.getD (fromN 1 + k) zAc).expo)) fun _ _ _ _ => bin_mul_in (a := 10) (b := ((an3V.l.getD (fromN 1 + k) zAc).expo)) (by omega) (by omega)),
   .t (tb (a := .int .i64 ((fromN 1 + k : Nat) : Int)) (b := .int .i64 (10 * ((an3V.l.getD (fromN 1 + k) zAc).expo))) fun _ _ _ _ => bin_add_in (a := ((fromN 1 + k : Nat) : Int)) (b := (10 * ((an3V.l.getD (fromN 1 + k) zAc).expo))) (by omega) (by omega)),
   .t (tb (a := .int .i64 (anN k)) (b := .int .i64 (((fromN 1 + k : Nat) : Int) + (10 * ((an3V.l.getD (fromN 1 + k) zAc).expo)))) fun _ _ _ _ => bin_add_in (a := (anN k)) (b := (((fromN 1 + k : Nat) : Int) + (10 * ((an3V.l.getD (fromN 1 + k) zAc).expo)))) (by omega) (by omega)),
   .m (st 1)]) (fun q20 L => L.set 1 (ob ((q7 0).blk 0) #[.int .i64 ((anN k) + (((fromN 1 + k : Nat) : Int) + (10 * ((an3V.l.getD (fromN 1 + k) zAc).expo))))] 3)) OW ?_
  clear OW; intro q20 _ Wq20 OW; simp only [↓pc, ↓pn, vE, Hint.val, Act.put, eL]
  gi_wp2
  exact NextE.mk (L' := [.c bK9, ob ((q7 0).blk 0) #[.int .i64 (anN (k + 1))] 3, ob ((q8 1).blk 0) #[.int .i64 1] 3, ob ((q8 1).blk 1) #[.pointer (some ⟨((q2 1).blk 0), 0, none⟩)] 92]) OW [0, 1, 2, 3] ⟨by omega, rfl⟩ (by rw [an_step hkb15]; kernel_rfl)
 case stopI11 =>
  rintro D c k Ls W2 hi h; exact h.elim
 case doneI11 =>
  rintro D21 Ls W22 hR OW1
  rw [show ((List.range (an3V.l.length - fromN 1)).map (fun k => fromN 1 + k)).length = an3V.l.length - fromN 1 from by rw [List.length_map, List.length_range]] at hR
  obtain ⟨_, rfl⟩ := hR
  clear OW
  obtain ⟨R24, OC23, OW⟩ := Clo.markE (Clo.nil _ _) OW1.out
  clear OW1
  replace OW := Lib.hid (OwnE.cast (L' := [.p (PkE (DevS ((q2 1).blk 0) (an3V))), ob ((q7 0).blk 0) #[.int .i64 (anN (an3V.l.length - fromN 1))] 3, ob ((q8 1).blk 0) #[.int .i64 1] 3, ob ((q8 1).blk 1) #[.pointer (some ⟨((q2 1).blk 0), 0, none⟩)] 92]) (OW.out.weak 0 (y := .p (PkE (DevS ((q2 1).blk 0) (an3V)))) rfl (cP hK10)) (by kernel_rfl))
  gi_upto_region 12 with fail
  refine rg (fun q25 => [.m (ld 1 (.int .i64 (anN (an3V.l.length - fromN 1)))),
   .v (.bool ((anN (an3V.l.length - fromN 1)) == 11)),
   .v (.bool ((anN (an3V.l.length - fromN 1)) == 11)),
   .v (.pointer (some ⟨((q2 1).blk 0), 0, none⟩)),
   .c [0] [] (vCount ((q2 1).blk 0) an3V),
   .v (.bool ((an3V.l.length : Int) == 2)),
   .k (.bool (((anN (an3V.l.length - fromN 1)) == 11) && ((an3V.l.length : Int) == 2))),
   .v (.bool (((anN (an3V.l.length - fromN 1)) == 11) && ((an3V.l.length : Int) == 2)))]) (fun _ L => L) OW ?_
  clear OW; intro q25 _ Wq25 OW; simp only [↓pc, ↓pn, vE, Hint.val, Act.put, eL]
  gi_wp2
  exact leafM HS HH OC23 OW [.t (.bool (((anN (an3V.l.length - fromN 1)) == 11) && ((an3V.l.length : Int) == 2)))] Env.zero [] [] (by kernel_rfl)
end Go.Proofs.Ytckhkagkpldoiaa.E
