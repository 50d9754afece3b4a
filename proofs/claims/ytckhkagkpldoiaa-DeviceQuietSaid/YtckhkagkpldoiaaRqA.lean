/- The document's device: marks, accesses, writes, reads. -/
import Derived.Test.YtckhkagkpldoiaaRpG
import Derived.Test.YtckhkagkpldoiaaDvA
import Derived.WalkKit
import Derived.Sort.CutIn
import Derived.IntWalk
namespace Go.Proofs.Ytckhkagkpldoiaa.E
open Go Go.RowKit Go.Shelf
attribute [local go_sem] Oper.semAt_some
set_option linter.unusedVariables false
set_option linter.unusedSimpArgs false

abbrev slAr (v : Value) (xs : List Ac) : Ent := .p (SlE eAc [.bool false, .int .i64 0, .int .i64 0, .bool false, .int .i64 0, .bool false] 165 v xs)
theorem slTAr : SlT Try.prog 106 165 [.bool false, .int .i64 0, .int .i64 0, .bool false, .int .i64 0, .bool false] := SlT.mk' (by kernel_rfl) (by kernel_rfl) rfl
theorem h1Ar : ∀ y, ∀ u ∈ eAc y, u.oneCell' = true := h1Ac
set_option maxRecDepth 100000 in
set_option maxHeartbeats 1000000 in
theorem qadd_c (r s n m c mode : Int) (v6 v7 v8 v15 v16 v17 v18 v19 : Value) (cl : List Ce) (la co : List Fa) (gl : List Ce) (ga go : List Fa) (mk : List Int) (l : List Ac) (a : Ac) (hl : l.length ≤ 100000) (bq0 : Objs) (hq0 : SqE eCe v6 cl bq0) (bq1 : Objs) (hq1 : SqE eFa v7 la bq1) (bq2 : Objs) (hq2 : SqE eFa v8 co bq2) (bq3 : Objs) (hq3 : SqE eCe v15 gl bq3) (bq4 : Objs) (hq4 : SqE eFa v16 ga bq4) (bq5 : Objs) (hq5 : SqE eFa v17 go bq5) (bq6 : Objs) (hq6 : SqE eI v18 mk bq6) : Con Try.prog 105 #[.agg #[.int .i64 r, .int .i64 s, .int .i64 n, .int .i64 m, .int .i64 c, .int .i64 mode, v6, v7, v8, .int .i64 0, .int .i64 0, .int .i64 0, .int .i64 0, .int .i64 0, .int .i64 0, v15, v16, v17, v18, v19], .agg #[.bool a.wr, .int .i64 a.index, .int .i64 a.at_, .bool a.drop, .int .i64 a.expo, .bool a.mark]] [.c bq0, .c bq1, .c bq2, .c bq3, .c bq4, .c bq5, .c bq6, .p (SqE eAc v19 l)] [7] (fun E => [.p (SqE eAc (E.val 0) (l ++ [a]))]) (fun E => .agg #[.int .i64 r, .int .i64 s, .int .i64 n, .int .i64 m, .int .i64 c, .int .i64 mode, v6, v7, v8, .int .i64 0, .int .i64 0, .int .i64 0, .int .i64 0, .int .i64 0, .int .i64 0, v15, v16, v17, v18, (E.val 0)]) := by
 refine Con.of (enters_of Try.func105 (by kernel_rfl) rfl) fun w cs HS HH OW => ?_
 refine (callsIn_wide (n := 6)).1 ?_
 refine callsIn_of_wp_marks Try.func105 rfl trivial ?_ rfl
 simp only [Try.ntmps105, eF, Nat.reduceAdd, Nat.reduceSub]
 gi_upto_region 0 with fail
 refine rg (fun q1 => [.m (bx 8),
  .m (bx 9),
  .m (al 10)]) (fun q1 L => L ++ [ob ((q1 0).blk 0) #[.int .i64 r, .int .i64 s, .int .i64 n, .int .i64 m, .int .i64 c, .int .i64 mode, v6, v7, v8, .int .i64 0, .int .i64 0, .int .i64 0, .int .i64 0, .int .i64 0, .int .i64 0, v15, v16, v17, v18, v19] 108, ob ((q1 1).blk 0) #[.bool a.wr, .int .i64 a.index, .int .i64 a.at_, .bool a.drop, .int .i64 a.expo, .bool a.mark] 165, ob ((q1 2).blk 0) #[.int .i64 0, .int .i64 0, .int .i64 0, .int .i64 0, .int .i64 0, .int .i64 0, .slice none 0 0, .slice none 0 0, .slice none 0 0, .int .i64 0, .int .i64 0, .int .i64 0, .int .i64 0, .int .i64 0, .int .i64 0, .slice none 0 0, .slice none 0 0, .slice none 0 0, .slice none 0 0, .slice none 0 0] 108]) OW ?_
 clear OW; intro q1 _ Wq1 OW; simp only [↓pc, ↓pn, vE, Hint.val, Act.put, eL]
 gi_upto_region 1 with fail
 refine rg (fun q2 => [.v (.slice none 0 0)]) (fun _ L => L) OW ?_
 clear OW; intro q2 _ Wq2 OW; simp only [↓pc, ↓pn, vE, Hint.val, Act.put, eL]
 gi_upto_region 2 with fail
 replace OW := Lib.hid (OW.out.nilS eAc [.bool false, .int .i64 0, .int .i64 0, .bool false, .int .i64 0, .bool false] 165)
 refine rg (fun q4 => [.v (.slice none 0 0),
  .v (.pointer (some ⟨(q1 0).blk 0, 19, none⟩)),
  .m (ld 8 (v19)),
  .m (apS 11 7 slTAr (.slice none 0 0) (v19) (xs := []) (ys := l) (.p (SqE eAc v19 l)) (fun _ h => h.1) h1Ar (fun _ => rfl) (by (simp only [List.length_append, List.length_cons, List.length_nil]; omega))),
  .v ((q4 3).val 0)]) (fun q4 L => L.set 11 (slAr ((q4 3).val 0) (([]) ++ l))) OW ?_
 clear OW; intro q4 _ Wq4 OW; simp only [↓pc, ↓pn, vE, Hint.val, Act.put, eL]
 gi_upto_region 3 with fail
 refine rg (fun q5 => [.v ((q4 3).val 0),
  .m (ls 9 ([.bool a.wr, .int .i64 a.index, .int .i64 a.at_, .bool a.drop, .int .i64 a.expo, .bool a.mark])),
  .m (bs 12 1),
  .m (apB 11 12 slTAr ((q4 3).val 0) (xs := ([]) ++ l) (ys := [a]) h1Ar (fun _ => rfl) (by (simp only [List.length_append, List.length_cons, List.length_nil]; omega))),
  .v (.pointer (some ⟨(q1 0).blk 0, 19, none⟩)),
  .m (stV 8 11 (slAr ((q5 3).val 0) ((([]) ++ l) ++ ([a]))) ((q5 3).val 0) fun bs h => SlE.one ((fun _ h => h) bs h))]) (fun q5 L => (L.set 8 (ob ((q1 0).blk 0) #[.int .i64 r, .int .i64 s, .int .i64 n, .int .i64 m, .int .i64 c, .int .i64 mode, v6, v7, v8, .int .i64 0, .int .i64 0, .int .i64 0, .int .i64 0, .int .i64 0, .int .i64 0, v15, v16, v17, v18, (q5 3).val 0] 108)).set 11 (slAr ((q5 3).val 0) ((([]) ++ l) ++ ([a]))) ++ [ob ((q5 2).blk 0) #[.bool a.wr, .int .i64 a.index, .int .i64 a.at_, .bool a.drop, .int .i64 a.expo, .bool a.mark] 165]) OW ?_
 clear OW; intro q5 _ Wq5 OW; simp only [↓pc, ↓pn, vE, Hint.val, Act.put, eL]
 gi_upto_region 4 with fail
 refine rg (fun q6 => [.m (ls 8 ([.int .i64 r, .int .i64 s, .int .i64 n, .int .i64 m, .int .i64 c, .int .i64 mode, v6, v7, v8, .int .i64 0, .int .i64 0, .int .i64 0, .int .i64 0, .int .i64 0, .int .i64 0, v15, v16, v17, v18, (q5 3).val 0])),
  .m (sv 10 ((q1 2).blk 0) 0 108 ([.int .i64 r, .int .i64 s, .int .i64 n, .int .i64 m, .int .i64 c, .int .i64 mode, v6, v7, v8, .int .i64 0, .int .i64 0, .int .i64 0, .int .i64 0, .int .i64 0, .int .i64 0, v15, v16, v17, v18, (q5 3).val 0]) #[.int .i64 0, .int .i64 0, .int .i64 0, .int .i64 0, .int .i64 0, .int .i64 0, .slice none 0 0, .slice none 0 0, .slice none 0 0, .int .i64 0, .int .i64 0, .int .i64 0, .int .i64 0, .int .i64 0, .int .i64 0, .slice none 0 0, .slice none 0 0, .slice none 0 0, .slice none 0 0, .slice none 0 0] #[.int .i64 r, .int .i64 s, .int .i64 n, .int .i64 m, .int .i64 c, .int .i64 mode, v6, v7, v8, .int .i64 0, .int .i64 0, .int .i64 0, .int .i64 0, .int .i64 0, .int .i64 0, v15, v16, v17, v18, (q5 3).val 0] [(11, slAr ((q5 3).val 0) ((([]) ++ l) ++ ([a])))] (by kernel_rfl) (Nat.le_of_ble_eq_true rfl) (fun c5 hc5 => (oc rfl (oc rfl (oc rfl (oc rfl (oc rfl (oc rfl (oc (SrE.one hq0.1) (oc (SrE.one hq1.1) (oc (SrE.one hq2.1) (oc rfl (oc rfl (oc rfl (oc rfl (oc rfl (oc rfl (oc (SrE.one hq3.1) (oc (SrE.one hq4.1) (oc (SrE.one hq5.1) (oc (SrE.one hq6.1) (oc (SlE.one (hc5 _ (.head _))) on0))))))))))))))))))))))]) (fun q6 L => L.set 10 (ob ((q1 2).blk 0) #[.int .i64 r, .int .i64 s, .int .i64 n, .int .i64 m, .int .i64 c, .int .i64 mode, v6, v7, v8, .int .i64 0, .int .i64 0, .int .i64 0, .int .i64 0, .int .i64 0, .int .i64 0, v15, v16, v17, v18, (q5 3).val 0] 108)) OW ?_
 clear OW; intro q6 _ Wq6 OW; simp only [↓pc, ↓pn, vE, Hint.val, Act.put, eL]
 replace OW := Lib.hid (OwnE.cast (L' := [.c bq0, .c bq1, .c bq2, .c bq3, .c bq4, .c bq5, .c bq6, .p (SqE eAc v19 l), ob ((q1 0).blk 0) #[.int .i64 r, .int .i64 s, .int .i64 n, .int .i64 m, .int .i64 c, .int .i64 mode, v6, v7, v8, .int .i64 0, .int .i64 0, .int .i64 0, .int .i64 0, .int .i64 0, .int .i64 0, v15, v16, v17, v18, (q5 3).val 0] 108, ob ((q1 1).blk 0) #[.bool a.wr, .int .i64 a.index, .int .i64 a.at_, .bool a.drop, .int .i64 a.expo, .bool a.mark] 165, ob ((q1 2).blk 0) #[.int .i64 r, .int .i64 s, .int .i64 n, .int .i64 m, .int .i64 c, .int .i64 mode, v6, v7, v8, .int .i64 0, .int .i64 0, .int .i64 0, .int .i64 0, .int .i64 0, .int .i64 0, v15, v16, v17, v18, (q5 3).val 0] 108, .p (SqE eAc ((q5 3).val 0) ((([]) ++ l) ++ ([a]))), ob ((q5 2).blk 0) #[.bool a.wr, .int .i64 a.index, .int .i64 a.at_, .bool a.drop, .int .i64 a.expo, .bool a.mark] 165]) (OW.out.weak 11 (y := .p (SqE eAc ((q5 3).val 0) ((([]) ++ l) ++ ([a])))) rfl (fun _ h => SlE.sq h)) (by kernel_rfl))
 gi_wp2
 exact leafE HS HH OW [.s ([.int .i64 r, .int .i64 s, .int .i64 n, .int .i64 m, .int .i64 c, .int .i64 mode, v6, v7, v8, .int .i64 0, .int .i64 0, .int .i64 0, .int .i64 0, .int .i64 0, .int .i64 0, v15, v16, v17, v18, (q5 3).val 0]) 10] (.l [] [] [(q5 3).val 0]) [11] [(0, 0), (1, 1), (2, 2), (3, 3), (4, 4), (5, 5), (6, 6)] rfl (by kernel_rfl) (by (repeat (first | rw [cond_true] | rw [cond_false])); kernel_rfl)
theorem qadd (r s n m c mode : Int) (v6 v7 v8 v15 v16 v17 v18 v19 : Value) (cl : List Ce) (la co : List Fa) (gl : List Ce) (ga go : List Fa) (mk : List Int) (l : List Ac) (a : Ac) (hl : l.length ≤ 100000) : Con Try.prog 105 #[.agg #[.int .i64 r, .int .i64 s, .int .i64 n, .int .i64 m, .int .i64 c, .int .i64 mode, v6, v7, v8, .int .i64 0, .int .i64 0, .int .i64 0, .int .i64 0, .int .i64 0, .int .i64 0, v15, v16, v17, v18, v19], .agg #[.bool a.wr, .int .i64 a.index, .int .i64 a.at_, .bool a.drop, .int .i64 a.expo, .bool a.mark]] [.p (SqE eCe v6 cl), .p (SqE eFa v7 la), .p (SqE eFa v8 co), .p (SqE eCe v15 gl), .p (SqE eFa v16 ga), .p (SqE eFa v17 go), .p (SqE eI v18 mk), .p (SqE eAc v19 l)] [7] (fun E => [.p (SqE eAc (E.val 0) (l ++ [a]))]) (fun E => .agg #[.int .i64 r, .int .i64 s, .int .i64 n, .int .i64 m, .int .i64 c, .int .i64 mode, v6, v7, v8, .int .i64 0, .int .i64 0, .int .i64 0, .int .i64 0, .int .i64 0, .int .i64 0, v15, v16, v17, v18, (E.val 0)]) :=
 Con.ro 6 rfl (fun bq6 hq6 => Con.ro 5 rfl (fun bq5 hq5 => Con.ro 4 rfl (fun bq4 hq4 => Con.ro 3 rfl (fun bq3 hq3 => Con.ro 2 rfl (fun bq2 hq2 => Con.ro 1 rfl (fun bq1 hq1 => Con.ro 0 rfl (fun bq0 hq0 => qadd_c r s n m c mode v6 v7 v8 v15 v16 v17 v18 v19 cl la co gl ga go mk l a hl bq0 hq0 bq1 hq1 bq2 hq2 bq3 hq3 bq4 hq4 bq5 hq5 bq6 hq6) (enters_of Try.func105 (by kernel_rfl) rfl)) (enters_of Try.func105 (by kernel_rfl) rfl)) (enters_of Try.func105 (by kernel_rfl) rfl)) (enters_of Try.func105 (by kernel_rfl) rfl)) (enters_of Try.func105 (by kernel_rfl) rfl)) (enters_of Try.func105 (by kernel_rfl) rfl)) (enters_of Try.func105 (by kernel_rfl) rfl)
def markL (mk : List Int) (i : Int) : Nat → List Int
  | 0 => []
  | k + 1 => bif mk.getD k 0 != i then markL mk i k ++ [mk.getD k 0] else markL mk i k
theorem markL_len (mk : List Int) (i : Int) : ∀ k, (markL mk i k).length ≤ k
  | 0 => Nat.le_refl _
  | k + 1 => by
    have := markL_len mk i k
    unfold markL
    cases mk.getD k 0 != i
    · show (markL mk i k).length ≤ _; omega
    · show (markL mk i k ++ [_]).length ≤ _; simp; omega
def markT (mk : List Int) (i : Int) (on : Bool) : List Int := bif on then markL mk i mk.length ++ [i] else markL mk i mk.length
attribute [local irreducible] markL
set_option maxRecDepth 100000 in
set_option maxHeartbeats 1000000 in
theorem qmark_c (r s n m c mode : Int) (v6 v7 v8 v15 v16 v17 v18 v19 : Value) (cl : List Ce) (la co : List Fa) (gl : List Ce) (ga go : List Fa) (mk : List Int) (l : List Ac) (i : Int) (on : Bool) (hk : mk.length ≤ 100000) (bq0 : Objs) (hq0 : SqE eCe v6 cl bq0) (bq1 : Objs) (hq1 : SqE eFa v7 la bq1) (bq2 : Objs) (hq2 : SqE eFa v8 co bq2) (bq3 : Objs) (hq3 : SqE eCe v15 gl bq3) (bq4 : Objs) (hq4 : SqE eFa v16 ga bq4) (bq5 : Objs) (hq5 : SqE eFa v17 go bq5) (bq7 : Objs) (hq7 : SqE eAc v19 l bq7) : Con Try.prog 104 #[.agg #[.int .i64 r, .int .i64 s, .int .i64 n, .int .i64 m, .int .i64 c, .int .i64 mode, v6, v7, v8, .int .i64 0, .int .i64 0, .int .i64 0, .int .i64 0, .int .i64 0, .int .i64 0, v15, v16, v17, v18, v19], .int .i64 i, .bool on] [.c bq0, .c bq1, .c bq2, .c bq3, .c bq4, .c bq5, .p (SqE eI v18 mk), .c bq7] [6] (fun E => [.p (SqE eI (E.val 0) (markT mk i on))]) (fun E => .agg #[.int .i64 r, .int .i64 s, .int .i64 n, .int .i64 m, .int .i64 c, .int .i64 mode, v6, v7, v8, .int .i64 0, .int .i64 0, .int .i64 0, .int .i64 0, .int .i64 0, .int .i64 0, v15, v16, v17, (E.val 0), v19]) := by
 refine Con.of (enters_of Try.func104 (by kernel_rfl) rfl) fun w cs HS HH OW => ?_
 have HML := fun k => markL_len mk i k
 refine (callsIn_wide (n := 6)).1 ?_
 refine callsIn_of_wp_marks Try.func104 rfl trivial ?_ rfl
 simp only [Try.ntmps104, eF, Nat.reduceAdd, Nat.reduceSub]
 gi_upto_region 0 with fail
 refine rg (fun q1 => [.m (bx 8),
  .m (al 9)]) (fun q1 L => L ++ [ob ((q1 0).blk 0) #[.int .i64 r, .int .i64 s, .int .i64 n, .int .i64 m, .int .i64 c, .int .i64 mode, v6, v7, v8, .int .i64 0, .int .i64 0, .int .i64 0, .int .i64 0, .int .i64 0, .int .i64 0, v15, v16, v17, v18, v19] 108, ob ((q1 1).blk 0) #[.int .i64 0, .int .i64 0, .int .i64 0, .int .i64 0, .int .i64 0, .int .i64 0, .slice none 0 0, .slice none 0 0, .slice none 0 0, .int .i64 0, .int .i64 0, .int .i64 0, .int .i64 0, .int .i64 0, .int .i64 0, .slice none 0 0, .slice none 0 0, .slice none 0 0, .slice none 0 0, .slice none 0 0] 108]) OW ?_
 clear OW; intro q1 _ Wq1 OW; simp only [↓pc, ↓pn, vE, Hint.val, Act.put, eL]
 gi_upto_region 1 with fail
 refine rg (fun q2 => [.v (.slice none 0 0)]) (fun _ L => L) OW ?_
 clear OW; intro q2 _ Wq2 OW; simp only [↓pc, ↓pn, vE, Hint.val, Act.put, eL]
 gi_upto_region 2 with fail
 refine rg (fun q3 => [.v (.int .i64 0)]) (fun _ L => L) OW ?_
 clear OW; intro q3 _ Wq3 OW; simp only [↓pc, ↓pn, vE, Hint.val, Act.put, eL]
 gi_wp2
 replace OW := Lib.hid (OW.out.nilS eI [.int .i64 0] 3)
 gi_loopw [8, 7] (fun z8 z7 wr => ∃ k : Nat, ∃ vS7 : Value, k ≤ mk.length ∧ z8 = .int .i64 (k : Int) ∧ vS7 = z7 ∧ OwnE (ids cs.flatten) w [.c bq0, .c bq1, .c bq2, .c bq3, .c bq4, .c bq5, .p (SqE eI v18 mk), .c bq7, ob ((q1 0).blk 0) #[.int .i64 r, .int .i64 s, .int .i64 n, .int .i64 m, .int .i64 c, .int .i64 mode, v6, v7, v8, .int .i64 0, .int .i64 0, .int .i64 0, .int .i64 0, .int .i64 0, .int .i64 0, v15, v16, v17, v18, v19] 108, ob ((q1 1).blk 0) #[.int .i64 0, .int .i64 0, .int .i64 0, .int .i64 0, .int .i64 0, .int .i64 0, .slice none 0 0, .slice none 0 0, .slice none 0 0, .int .i64 0, .int .i64 0, .int .i64 0, .int .i64 0, .int .i64 0, .int .i64 0, .slice none 0 0, .slice none 0 0, .slice none 0 0, .slice none 0 0, .slice none 0 0] 108, slI vS7 (markL mk i k)] wr) (fun z8 z7 _ => mk.length - (intOf (z8)).toNat)
 case atStart => exact ⟨0, .slice none 0 0, by omega, rfl, rfl, (by rw [markL]; exact OwnE.cast OW.out (by kernel_rfl))⟩
 case round =>
  obtain ⟨k, vS7, hk5, rfl, rfl, hO⟩ := hrel
  clear OW
  have OW := Lib.hid hO
  clear hO
  gi_upto_region 3 with fail
  refine rg (fun q6 => [.v (.int .i64 (k : Int)),
   .v (.pointer (some ⟨(q1 0).blk 0, 18, none⟩)),
   .m (ld 8 (v18)),
   .m (lenR 6 (.p (SqE eI v18 mk)) (fun _ h => h.1)),
   .v (.bool (decide ((k : Int) < (mk.length : Int))))]) (fun _ L => L) OW ?_
  clear OW; intro q6 _ Wq6 OW; simp only [↓pc, ↓pn, vE, Hint.val, Act.put, eL]
  cases hB7 : (decide ((k : Int) < (mk.length : Int)))
  case true =>
   have dhB7 := of_decide_eq_true hB7
   gi_upto_region 5 with fail
   refine rg (fun q8 => [.v (.pointer (some ⟨(q1 0).blk 0, 18, none⟩)),
    .m (ld 8 (v18)),
    .v (.int .i64 (k : Int)),
    .m (idxR 6 (.p (SqE eI v18 mk)) k 1 (fun _ h => h.1) (by omega)),
    .m (ldR (u := .int .i64 (mk.getD k 0)) (d := 0) 6 (.p (SqE eI v18 mk)) k 1 0 (fun _ h => h.1) (fun _ => rfl) (by omega) (Nat.le_of_ble_eq_true rfl) (by kernel_rfl)),
    .v (.int .i64 i),
    .v (.bool ((mk.getD k 0) != i))]) (fun _ L => L) OW ?_
   clear OW; intro q8 _ Wq8 OW; simp only [↓pc, ↓pn, vE, Hint.val, Act.put, eL]
   cases hB9 : ((mk.getD k 0) != i)
   case true =>
    have dhB9 := bne_iff_ne.1 hB9
    gi_upto_region 6 with fail
    refine rg (fun q10 => [.v (vS7),
     .v (.pointer (some ⟨(q1 0).blk 0, 18, none⟩)),
     .m (ld 8 (v18)),
     .v (.int .i64 (k : Int)),
     .m (idxR 6 (.p (SqE eI v18 mk)) k 1 (fun _ h => h.1) (by omega)),
     .m (ldR (u := .int .i64 (mk.getD k 0)) (d := 0) 6 (.p (SqE eI v18 mk)) k 1 0 (fun _ h => h.1) (fun _ => rfl) (by omega) (Nat.le_of_ble_eq_true rfl) (by kernel_rfl)),
     .m (bs 11 1),
     .m (apB 10 11 slTI (vS7) (xs := markL mk i k) (ys := [(mk.getD k 0)]) h1I (fun _ => rfl) (by (first | (have := HML k; simp only [List.length_cons, List.length_nil]; omega) | (have := HML mk.length; simp only [List.length_cons, List.length_nil]; omega)))),
     .v ((q10 7).val 0)]) (fun q10 L => L.set 10 (slI ((q10 7).val 0) ((markL mk i k) ++ ([(mk.getD k 0)]))) ++ [ob ((q10 6).blk 0) #[.int .i64 (mk.getD k 0)] 3]) OW ?_
    clear OW; intro q10 _ Wq10 OW; simp only [↓pc, ↓pn, vE, Hint.val, Act.put, eL]
    gi_upto_region 4 with fail
    refine rg (fun q11 => [.v (.int .i64 (k : Int)),
     .t (tb (a := .int .i64 (k : Int)) (b := .int .i64 1) fun _ _ _ _ => bin_add_nat (a := k) (b := 1) (by omega)),
     .v (.int .i64 ((k + 1 : Nat) : Int))]) (fun _ L => L) OW ?_
    clear OW; intro q11 _ Wq11 OW; simp only [↓pc, ↓pn, vE, Hint.val, Act.put, eL]
    gi_wp2
    go_roundw
    case rel => exact ⟨k + 1, (q10 7).val 0, by omega, by go_num, rfl, (by rw [markL]; (repeat (first | rw [hB7] | rw [hB9] | rw [cond_true] | rw [cond_false])); exact OwnE.pick OW.out [0, 1, 2, 3, 4, 5, 6, 7, 8, 9, 10] _ (by kernel_rfl))⟩
    case measure => (simp [intOf] <;> omega)
   have dhB9 := Lib.hid (eq_of_bne_false hB9)
   gi_upto_region 4 with fail
   refine rg (fun q12 => [.v (.int .i64 (k : Int)),
    .t (tb (a := .int .i64 (k : Int)) (b := .int .i64 1) fun _ _ _ _ => bin_add_nat (a := k) (b := 1) (by omega)),
    .v (.int .i64 ((k + 1 : Nat) : Int))]) (fun _ L => L) OW ?_
   clear OW; intro q12 _ Wq12 OW; simp only [↓pc, ↓pn, vE, Hint.val, Act.put, eL]
   gi_wp2
   go_roundw
   case rel => exact ⟨k + 1, vS7, by omega, by go_num, rfl, (by rw [markL]; (repeat (first | rw [hB7] | rw [hB9] | rw [cond_true] | rw [cond_false])); exact OwnE.pick OW.out [0, 1, 2, 3, 4, 5, 6, 7, 8, 9, 10] _ (by kernel_rfl))⟩
   case measure => (simp [intOf] <;> omega)
  have dhB7 := of_decide_eq_false hB7
  obtain rfl : mk.length = k := by omega
  gi_upto_region 7 with fail
  refine rg (fun q13 => [.v (.bool on)]) (fun _ L => L) OW ?_
  clear OW; intro q13 _ Wq13 OW; simp only [↓pc, ↓pn, vE, Hint.val, Act.put, eL]
  cases hB14 : (on)
  case true =>
   gi_upto_region 8 with fail
   refine rg (fun q15 => [.v (vS7),
    .v (.int .i64 i),
    .m (bs 11 1),
    .m (apB 10 11 slTI (vS7) (xs := markL mk i mk.length) (ys := [i]) h1I (fun _ => rfl) (by (first | (have := HML k; simp only [List.length_cons, List.length_nil]; omega) | (have := HML mk.length; simp only [List.length_cons, List.length_nil]; omega)))),
    .v ((q15 3).val 0)]) (fun q15 L => L.set 10 (slI ((q15 3).val 0) ((markL mk i mk.length) ++ ([i]))) ++ [ob ((q15 2).blk 0) #[.int .i64 i] 3]) OW ?_
   clear OW; intro q15 _ Wq15 OW; simp only [↓pc, ↓pn, vE, Hint.val, Act.put, eL]
   gi_upto_region 9 with fail
   refine rg (fun q16 => [.v ((q15 3).val 0),
    .v (.pointer (some ⟨(q1 0).blk 0, 18, none⟩)),
    .m (stV 8 10 (slI ((q15 3).val 0) ((markL mk i mk.length) ++ ([i]))) ((q15 3).val 0) fun bs h => SlE.one ((fun _ h => h) bs h))]) (fun q16 L => L.set 8 (ob ((q1 0).blk 0) #[.int .i64 r, .int .i64 s, .int .i64 n, .int .i64 m, .int .i64 c, .int .i64 mode, v6, v7, v8, .int .i64 0, .int .i64 0, .int .i64 0, .int .i64 0, .int .i64 0, .int .i64 0, v15, v16, v17, (q15 3).val 0, v19] 108)) OW ?_
   clear OW; intro q16 _ Wq16 OW; simp only [↓pc, ↓pn, vE, Hint.val, Act.put, eL]
   gi_upto_region 10 with fail
   refine rg (fun q17 => [.m (ls 8 ([.int .i64 r, .int .i64 s, .int .i64 n, .int .i64 m, .int .i64 c, .int .i64 mode, v6, v7, v8, .int .i64 0, .int .i64 0, .int .i64 0, .int .i64 0, .int .i64 0, .int .i64 0, v15, v16, v17, (q15 3).val 0, v19])),
    .m (sv 9 ((q1 1).blk 0) 0 108 ([.int .i64 r, .int .i64 s, .int .i64 n, .int .i64 m, .int .i64 c, .int .i64 mode, v6, v7, v8, .int .i64 0, .int .i64 0, .int .i64 0, .int .i64 0, .int .i64 0, .int .i64 0, v15, v16, v17, (q15 3).val 0, v19]) #[.int .i64 0, .int .i64 0, .int .i64 0, .int .i64 0, .int .i64 0, .int .i64 0, .slice none 0 0, .slice none 0 0, .slice none 0 0, .int .i64 0, .int .i64 0, .int .i64 0, .int .i64 0, .int .i64 0, .int .i64 0, .slice none 0 0, .slice none 0 0, .slice none 0 0, .slice none 0 0, .slice none 0 0] #[.int .i64 r, .int .i64 s, .int .i64 n, .int .i64 m, .int .i64 c, .int .i64 mode, v6, v7, v8, .int .i64 0, .int .i64 0, .int .i64 0, .int .i64 0, .int .i64 0, .int .i64 0, v15, v16, v17, (q15 3).val 0, v19] [(10, slI ((q15 3).val 0) ((markL mk i mk.length) ++ ([i])))] (by kernel_rfl) (Nat.le_of_ble_eq_true rfl) (fun c5 hc5 => (oc rfl (oc rfl (oc rfl (oc rfl (oc rfl (oc rfl (oc (SrE.one hq0.1) (oc (SrE.one hq1.1) (oc (SrE.one hq2.1) (oc rfl (oc rfl (oc rfl (oc rfl (oc rfl (oc rfl (oc (SrE.one hq3.1) (oc (SrE.one hq4.1) (oc (SrE.one hq5.1) (oc (SlE.one (hc5 _ (.head _))) (oc (SrE.one hq7.1) on0))))))))))))))))))))))]) (fun q17 L => L.set 9 (ob ((q1 1).blk 0) #[.int .i64 r, .int .i64 s, .int .i64 n, .int .i64 m, .int .i64 c, .int .i64 mode, v6, v7, v8, .int .i64 0, .int .i64 0, .int .i64 0, .int .i64 0, .int .i64 0, .int .i64 0, v15, v16, v17, (q15 3).val 0, v19] 108)) OW ?_
   clear OW; intro q17 _ Wq17 OW; simp only [↓pc, ↓pn, vE, Hint.val, Act.put, eL]
   replace OW := Lib.hid (OwnE.cast (L' := [.c bq0, .c bq1, .c bq2, .c bq3, .c bq4, .c bq5, .p (SqE eI v18 mk), .c bq7, ob ((q1 0).blk 0) #[.int .i64 r, .int .i64 s, .int .i64 n, .int .i64 m, .int .i64 c, .int .i64 mode, v6, v7, v8, .int .i64 0, .int .i64 0, .int .i64 0, .int .i64 0, .int .i64 0, .int .i64 0, v15, v16, v17, (q15 3).val 0, v19] 108, ob ((q1 1).blk 0) #[.int .i64 r, .int .i64 s, .int .i64 n, .int .i64 m, .int .i64 c, .int .i64 mode, v6, v7, v8, .int .i64 0, .int .i64 0, .int .i64 0, .int .i64 0, .int .i64 0, .int .i64 0, v15, v16, v17, (q15 3).val 0, v19] 108, .p (SqE eI ((q15 3).val 0) ((markL mk i mk.length) ++ ([i]))), ob ((q15 2).blk 0) #[.int .i64 i] 3]) (OW.out.weak 10 (y := .p (SqE eI ((q15 3).val 0) ((markL mk i mk.length) ++ ([i])))) rfl (fun _ h => SlE.sq h)) (by kernel_rfl))
   gi_wp2
   exact leafE HS HH OW [.s ([.int .i64 r, .int .i64 s, .int .i64 n, .int .i64 m, .int .i64 c, .int .i64 mode, v6, v7, v8, .int .i64 0, .int .i64 0, .int .i64 0, .int .i64 0, .int .i64 0, .int .i64 0, v15, v16, v17, (q15 3).val 0, v19]) 9] (.l [] [] [(q15 3).val 0]) [10] [(0, 0), (1, 1), (2, 2), (3, 3), (4, 4), (5, 5), (7, 7)] rfl (by kernel_rfl) (by simp only [markT]; (repeat (first | rw [hB7] | rw [hB14] | rw [cond_true] | rw [cond_false])); kernel_rfl)
  gi_upto_region 9 with fail
  refine rg (fun q18 => [.v (vS7),
   .v (.pointer (some ⟨(q1 0).blk 0, 18, none⟩)),
   .m (stV 8 10 (slI vS7 (markL mk i mk.length)) vS7 fun bs h => SlE.one ((fun _ h => h) bs h))]) (fun q18 L => L.set 8 (ob ((q1 0).blk 0) #[.int .i64 r, .int .i64 s, .int .i64 n, .int .i64 m, .int .i64 c, .int .i64 mode, v6, v7, v8, .int .i64 0, .int .i64 0, .int .i64 0, .int .i64 0, .int .i64 0, .int .i64 0, v15, v16, v17, vS7, v19] 108)) OW ?_
  clear OW; intro q18 _ Wq18 OW; simp only [↓pc, ↓pn, vE, Hint.val, Act.put, eL]
  gi_upto_region 10 with fail
  refine rg (fun q19 => [.m (ls 8 ([.int .i64 r, .int .i64 s, .int .i64 n, .int .i64 m, .int .i64 c, .int .i64 mode, v6, v7, v8, .int .i64 0, .int .i64 0, .int .i64 0, .int .i64 0, .int .i64 0, .int .i64 0, v15, v16, v17, vS7, v19])),
   .m (sv 9 ((q1 1).blk 0) 0 108 ([.int .i64 r, .int .i64 s, .int .i64 n, .int .i64 m, .int .i64 c, .int .i64 mode, v6, v7, v8, .int .i64 0, .int .i64 0, .int .i64 0, .int .i64 0, .int .i64 0, .int .i64 0, v15, v16, v17, vS7, v19]) #[.int .i64 0, .int .i64 0, .int .i64 0, .int .i64 0, .int .i64 0, .int .i64 0, .slice none 0 0, .slice none 0 0, .slice none 0 0, .int .i64 0, .int .i64 0, .int .i64 0, .int .i64 0, .int .i64 0, .int .i64 0, .slice none 0 0, .slice none 0 0, .slice none 0 0, .slice none 0 0, .slice none 0 0] #[.int .i64 r, .int .i64 s, .int .i64 n, .int .i64 m, .int .i64 c, .int .i64 mode, v6, v7, v8, .int .i64 0, .int .i64 0, .int .i64 0, .int .i64 0, .int .i64 0, .int .i64 0, v15, v16, v17, vS7, v19] [(10, slI vS7 (markL mk i mk.length))] (by kernel_rfl) (Nat.le_of_ble_eq_true rfl) (fun c5 hc5 => (oc rfl (oc rfl (oc rfl (oc rfl (oc rfl (oc rfl (oc (SrE.one hq0.1) (oc (SrE.one hq1.1) (oc (SrE.one hq2.1) (oc rfl (oc rfl (oc rfl (oc rfl (oc rfl (oc rfl (oc (SrE.one hq3.1) (oc (SrE.one hq4.1) (oc (SrE.one hq5.1) (oc (SlE.one (hc5 _ (.head _))) (oc (SrE.one hq7.1) on0))))))))))))))))))))))]) (fun q19 L => L.set 9 (ob ((q1 1).blk 0) #[.int .i64 r, .int .i64 s, .int .i64 n, .int .i64 m, .int .i64 c, .int .i64 mode, v6, v7, v8, .int .i64 0, .int .i64 0, .int .i64 0, .int .i64 0, .int .i64 0, .int .i64 0, v15, v16, v17, vS7, v19] 108)) OW ?_
  clear OW; intro q19 _ Wq19 OW; simp only [↓pc, ↓pn, vE, Hint.val, Act.put, eL]
  replace OW := Lib.hid (OwnE.cast (L' := [.c bq0, .c bq1, .c bq2, .c bq3, .c bq4, .c bq5, .p (SqE eI v18 mk), .c bq7, ob ((q1 0).blk 0) #[.int .i64 r, .int .i64 s, .int .i64 n, .int .i64 m, .int .i64 c, .int .i64 mode, v6, v7, v8, .int .i64 0, .int .i64 0, .int .i64 0, .int .i64 0, .int .i64 0, .int .i64 0, v15, v16, v17, vS7, v19] 108, ob ((q1 1).blk 0) #[.int .i64 r, .int .i64 s, .int .i64 n, .int .i64 m, .int .i64 c, .int .i64 mode, v6, v7, v8, .int .i64 0, .int .i64 0, .int .i64 0, .int .i64 0, .int .i64 0, .int .i64 0, v15, v16, v17, vS7, v19] 108, .p (SqE eI vS7 (markL mk i mk.length))]) (OW.out.weak 10 (y := .p (SqE eI vS7 (markL mk i mk.length))) rfl (fun _ h => SlE.sq h)) (by kernel_rfl))
  gi_wp2
  exact leafE HS HH OW [.s ([.int .i64 r, .int .i64 s, .int .i64 n, .int .i64 m, .int .i64 c, .int .i64 mode, v6, v7, v8, .int .i64 0, .int .i64 0, .int .i64 0, .int .i64 0, .int .i64 0, .int .i64 0, v15, v16, v17, vS7, v19]) 9] (.l [] [] [vS7]) [10] [(0, 0), (1, 1), (2, 2), (3, 3), (4, 4), (5, 5), (7, 7)] rfl (by kernel_rfl) (by simp only [markT]; (repeat (first | rw [hB7] | rw [hB14] | rw [cond_true] | rw [cond_false])); kernel_rfl)
theorem qmark (r s n m c mode : Int) (v6 v7 v8 v15 v16 v17 v18 v19 : Value) (cl : List Ce) (la co : List Fa) (gl : List Ce) (ga go : List Fa) (mk : List Int) (l : List Ac) (i : Int) (on : Bool) (hk : mk.length ≤ 100000) : Con Try.prog 104 #[.agg #[.int .i64 r, .int .i64 s, .int .i64 n, .int .i64 m, .int .i64 c, .int .i64 mode, v6, v7, v8, .int .i64 0, .int .i64 0, .int .i64 0, .int .i64 0, .int .i64 0, .int .i64 0, v15, v16, v17, v18, v19], .int .i64 i, .bool on] [.p (SqE eCe v6 cl), .p (SqE eFa v7 la), .p (SqE eFa v8 co), .p (SqE eCe v15 gl), .p (SqE eFa v16 ga), .p (SqE eFa v17 go), .p (SqE eI v18 mk), .p (SqE eAc v19 l)] [6] (fun E => [.p (SqE eI (E.val 0) (markT mk i on))]) (fun E => .agg #[.int .i64 r, .int .i64 s, .int .i64 n, .int .i64 m, .int .i64 c, .int .i64 mode, v6, v7, v8, .int .i64 0, .int .i64 0, .int .i64 0, .int .i64 0, .int .i64 0, .int .i64 0, v15, v16, v17, (E.val 0), v19]) :=
 Con.ro 7 rfl (fun bq7 hq7 => Con.ro 5 rfl (fun bq5 hq5 => Con.ro 4 rfl (fun bq4 hq4 => Con.ro 3 rfl (fun bq3 hq3 => Con.ro 2 rfl (fun bq2 hq2 => Con.ro 1 rfl (fun bq1 hq1 => Con.ro 0 rfl (fun bq0 hq0 => qmark_c r s n m c mode v6 v7 v8 v15 v16 v17 v18 v19 cl la co gl ga go mk l i on hk bq0 hq0 bq1 hq1 bq2 hq2 bq3 hq3 bq4 hq4 bq5 hq5 bq7 hq7) (enters_of Try.func104 (by kernel_rfl) rfl)) (enters_of Try.func104 (by kernel_rfl) rfl)) (enters_of Try.func104 (by kernel_rfl) rfl)) (enters_of Try.func104 (by kernel_rfl) rfl)) (enters_of Try.func104 (by kernel_rfl) rfl)) (enters_of Try.func104 (by kernel_rfl) rfl)) (enters_of Try.func104 (by kernel_rfl) rfl)
def mkd : List Int → Int → Bool
  | [], _ => false
  | a :: mk, i => bif a == i then true else mkd mk i
theorem mk_drop {mk : List Int} {k : Nat} (hk : (k : Int) < (mk.length : Int)) : mk.drop k = mk.getD k 0 :: mk.drop (k + 1) := by
  have hk : k < mk.length := by omega
  rw [List.drop_eq_getElem_cons hk, List.getD_eq_getElem?_getD, List.getElem?_eq_getElem hk]
  rfl
theorem mkd_t {mk : List Int} {i : Int} {k : Nat} (hk : (k : Int) < (mk.length : Int)) (h : (mk.getD k 0 == i) = true) : mkd (mk.drop k) i = true := by rw [mk_drop hk, mkd, h]; rfl
theorem mkd_f {mk : List Int} {i : Int} {k : Nat} (hk : (k : Int) < (mk.length : Int)) (h : (mk.getD k 0 == i) = false) : mkd (mk.drop k) i = mkd (mk.drop (k + 1)) i := by rw [mk_drop hk, mkd, h]; rfl
theorem mkd_0 (i : Int) : mkd [] i = false := rfl
attribute [local irreducible] mkd markT
set_option maxRecDepth 100000 in
set_option maxHeartbeats 1000000 in
theorem qmarked_c (r s n m c mode : Int) (v6 v7 v8 v15 v16 v17 v18 v19 : Value) (cl : List Ce) (la co : List Fa) (gl : List Ce) (ga go : List Fa) (mk : List Int) (l : List Ac) (i : Int) (hk : mk.length ≤ 100000) (bq0 : Objs) (hq0 : SqE eCe v6 cl bq0) (bq1 : Objs) (hq1 : SqE eFa v7 la bq1) (bq2 : Objs) (hq2 : SqE eFa v8 co bq2) (bq3 : Objs) (hq3 : SqE eCe v15 gl bq3) (bq4 : Objs) (hq4 : SqE eFa v16 ga bq4) (bq5 : Objs) (hq5 : SqE eFa v17 go bq5) (bq6 : Objs) (hq6 : SqE eI v18 mk bq6) (bq7 : Objs) (hq7 : SqE eAc v19 l bq7) : Con Try.prog 106 #[.agg #[.int .i64 r, .int .i64 s, .int .i64 n, .int .i64 m, .int .i64 c, .int .i64 mode, v6, v7, v8, .int .i64 0, .int .i64 0, .int .i64 0, .int .i64 0, .int .i64 0, .int .i64 0, v15, v16, v17, v18, v19], .int .i64 i] [.c bq0, .c bq1, .c bq2, .c bq3, .c bq4, .c bq5, .c bq6, .c bq7] [] (fun _ => []) (fun _ => .bool (mkd mk i)) := by
 refine Con.of (enters_of Try.func106 (by kernel_rfl) rfl) fun w cs HS HH OW => ?_
 refine (callsIn_wide (n := 6)).1 ?_
 refine callsIn_of_wp_marks Try.func106 rfl trivial ?_ rfl
 simp only [Try.ntmps106, eF, Nat.reduceAdd, Nat.reduceSub]
 gi_upto_region 0 with fail
 refine rg (fun q1 => [.m (bx 8),
  .v (.bool false)]) (fun q1 L => L ++ [ob ((q1 0).blk 0) #[.int .i64 r, .int .i64 s, .int .i64 n, .int .i64 m, .int .i64 c, .int .i64 mode, v6, v7, v8, .int .i64 0, .int .i64 0, .int .i64 0, .int .i64 0, .int .i64 0, .int .i64 0, v15, v16, v17, v18, v19] 108]) OW ?_
 clear OW; intro q1 _ Wq1 OW; simp only [↓pc, ↓pn, vE, Hint.val, Act.put, eL]
 gi_upto_region 1 with fail
 refine rg (fun q2 => [.v (.int .i64 0)]) (fun _ L => L) OW ?_
 clear OW; intro q2 _ Wq2 OW; simp only [↓pc, ↓pn, vE, Hint.val, Act.put, eL]
 gi_wp2
 gi_loopw [5] (fun z5 wr => ∃ k : Nat, k ≤ mk.length ∧ z5 = .int .i64 (k : Int) ∧ (mkd mk i = mkd (mk.drop k) i) ∧ OwnE (ids cs.flatten) w [.c bq0, .c bq1, .c bq2, .c bq3, .c bq4, .c bq5, .c bq6, .c bq7, ob ((q1 0).blk 0) #[.int .i64 r, .int .i64 s, .int .i64 n, .int .i64 m, .int .i64 c, .int .i64 mode, v6, v7, v8, .int .i64 0, .int .i64 0, .int .i64 0, .int .i64 0, .int .i64 0, .int .i64 0, v15, v16, v17, v18, v19] 108] wr) (fun z5 _ => mk.length - (intOf (z5)).toNat)
 case atStart => exact ⟨0, by omega, rfl, rfl, (by skip; exact OwnE.cast OW.out (by kernel_rfl))⟩
 case round =>
  obtain ⟨k, hk4, rfl, hgm, hO⟩ := hrel
  clear OW
  have HGM := Lib.hid hgm
  clear hgm
  have OW := Lib.hid hO
  clear hO
  gi_upto_region 2 with fail
  refine rg (fun q5 => [.v (.int .i64 (k : Int)),
   .v (.pointer (some ⟨(q1 0).blk 0, 18, none⟩)),
   .m (ld 8 (v18)),
   .m (lenR 6 (.c bq6) (cP hq6.1)),
   .v (.bool (decide ((k : Int) < (mk.length : Int))))]) (fun _ L => L) OW ?_
  clear OW; intro q5 _ Wq5 OW; simp only [↓pc, ↓pn, vE, Hint.val, Act.put, eL]
  cases hB6 : (decide ((k : Int) < (mk.length : Int)))
  case true =>
   have dhB6 := of_decide_eq_true hB6
   gi_upto_region 4 with fail
   refine rg (fun q7 => [.v (.pointer (some ⟨(q1 0).blk 0, 18, none⟩)),
    .m (ld 8 (v18)),
    .v (.int .i64 (k : Int)),
    .m (idxR 6 (.c bq6) k 1 (cP hq6.1) (by omega)),
    .m (ldR (u := .int .i64 (mk.getD k 0)) (d := 0) 6 (.c bq6) k 1 0 (cP hq6.1) (fun _ => rfl) (by omega) (Nat.le_of_ble_eq_true rfl) (by kernel_rfl)),
    .v (.int .i64 i),
    .v (.bool ((mk.getD k 0) == i))]) (fun _ L => L) OW ?_
   clear OW; intro q7 _ Wq7 OW; simp only [↓pc, ↓pn, vE, Hint.val, Act.put, eL]
   cases hB8 : ((mk.getD k 0) == i)
   case true =>
    have dhB8 := Lib.hid (eq_of_beq hB8)
    gi_upto_region 5 with fail
    refine rg (fun q9 => [.v (.bool true)]) (fun _ L => L) OW ?_
    clear OW; intro q9 _ Wq9 OW; simp only [↓pc, ↓pn, vE, Hint.val, Act.put, eL]
    gi_wp2
    exact leafE HS HH OW [.t (.bool true)] Env.zero [] [(0, 0), (1, 1), (2, 2), (3, 3), (4, 4), (5, 5), (6, 6), (7, 7)] (by first | exact congrArg Value.bool (HGM.out.trans (mkd_t (by assumption) (by assumption))).symm | exact congrArg Value.bool (HGM.out.trans (by rw [List.drop_length]; exact mkd_0 i)).symm)
   have dhB8 := ne_of_beq_false hB8
   gi_upto_region 3 with fail
   refine rg (fun q10 => [.v (.int .i64 (k : Int)),
    .t (tb (a := .int .i64 (k : Int)) (b := .int .i64 1) fun _ _ _ _ => bin_add_nat (a := k) (b := 1) (by omega)),
    .v (.int .i64 ((k + 1 : Nat) : Int))]) (fun _ L => L) OW ?_
   clear OW; intro q10 _ Wq10 OW; simp only [↓pc, ↓pn, vE, Hint.val, Act.put, eL]
   gi_wp2
   go_roundw
   case rel => exact ⟨k + 1, by omega, by go_num, HGM.out.trans (mkd_f (by assumption) (by assumption)), (by skip; exact OwnE.pick OW.out [0, 1, 2, 3, 4, 5, 6, 7, 8] _ (by kernel_rfl))⟩
   case measure => (simp [intOf] <;> omega)
  have dhB6 := of_decide_eq_false hB6
  obtain rfl : mk.length = k := by omega
  gi_upto_region 6 with fail
  refine rg (fun q11 => [.v (.bool false)]) (fun _ L => L) OW ?_
  clear OW; intro q11 _ Wq11 OW; simp only [↓pc, ↓pn, vE, Hint.val, Act.put, eL]
  gi_wp2
  exact leafE HS HH OW [.t (.bool false)] Env.zero [] [(0, 0), (1, 1), (2, 2), (3, 3), (4, 4), (5, 5), (6, 6), (7, 7)] (by first | exact congrArg Value.bool (HGM.out.trans (mkd_t (by assumption) (by assumption))).symm | exact congrArg Value.bool (HGM.out.trans (by rw [List.drop_length]; exact mkd_0 i)).symm)
theorem qmarked (r s n m c mode : Int) (v6 v7 v8 v15 v16 v17 v18 v19 : Value) (cl : List Ce) (la co : List Fa) (gl : List Ce) (ga go : List Fa) (mk : List Int) (l : List Ac) (i : Int) (hk : mk.length ≤ 100000) : Con Try.prog 106 #[.agg #[.int .i64 r, .int .i64 s, .int .i64 n, .int .i64 m, .int .i64 c, .int .i64 mode, v6, v7, v8, .int .i64 0, .int .i64 0, .int .i64 0, .int .i64 0, .int .i64 0, .int .i64 0, v15, v16, v17, v18, v19], .int .i64 i] [.p (SqE eCe v6 cl), .p (SqE eFa v7 la), .p (SqE eFa v8 co), .p (SqE eCe v15 gl), .p (SqE eFa v16 ga), .p (SqE eFa v17 go), .p (SqE eI v18 mk), .p (SqE eAc v19 l)] [] (fun _ => []) (fun _ => .bool (mkd mk i)) :=
 Con.ro 7 rfl (fun bq7 hq7 => Con.ro 6 rfl (fun bq6 hq6 => Con.ro 5 rfl (fun bq5 hq5 => Con.ro 4 rfl (fun bq4 hq4 => Con.ro 3 rfl (fun bq3 hq3 => Con.ro 2 rfl (fun bq2 hq2 => Con.ro 1 rfl (fun bq1 hq1 => Con.ro 0 rfl (fun bq0 hq0 => qmarked_c r s n m c mode v6 v7 v8 v15 v16 v17 v18 v19 cl la co gl ga go mk l i hk bq0 hq0 bq1 hq1 bq2 hq2 bq3 hq3 bq4 hq4 bq5 hq5 bq6 hq6 bq7 hq7) (enters_of Try.func106 (by kernel_rfl) rfl)) (enters_of Try.func106 (by kernel_rfl) rfl)) (enters_of Try.func106 (by kernel_rfl) rfl)) (enters_of Try.func106 (by kernel_rfl) rfl)) (enters_of Try.func106 (by kernel_rfl) rfl)) (enters_of Try.func106 (by kernel_rfl) rfl)) (enters_of Try.func106 (by kernel_rfl) rfl)) (enters_of Try.func106 (by kernel_rfl) rfl)
theorem rw_nn {co : List Fa} (hb : ∀ f ∈ co, PlB f) {i : Int} (h0 : 0 ≤ i) (h1 : i ≤ 9223372036854775807) : 0 ≤ rwent_0 co i ∧ rwent_0 co i ≤ 9223372036854775807 := by
  unfold rwent_0
  cases h2 : (co.length : Int) == 0
  · obtain ⟨⟨a1, a2⟩, ⟨a3, a4⟩, ⟨a5, a6⟩, a7, a8⟩ := hb _ (mem_getD (d := zFa) (i := 0) (by have := ne_of_beq_false h2; omega))
    cases (co.getD 0 zFa).x0 == 7
    · simp only [cond_false]; omega
    · exact ⟨h0, h1⟩
  · exact ⟨h0, h1⟩
def wrC (cl : List Ce) (co : List Fa) (i : Int) (b : List UInt8) : List Ce := bif !rwent_1 co then putC cl (rwent_0 co i) b else cl
attribute [local irreducible] getC putC rwent_0 rwent_1 rwent_2 ov11 expo
set_option maxRecDepth 100000 in
set_option maxHeartbeats 1000000 in
theorem qwrite_c (r s n m c mode : Int) (v6 v7 v8 v15 v16 v17 v18 v19 : Value) (cl : List Ce) (la co : List Fa) (gl : List Ce) (ga go : List Fa) (mk : List Int) (l : List Ac) (i : Int) (b : List UInt8) (lb : b.length = 72) (on : Bool) (hb : ∀ f ∈ co, PlB f) (hc : cl.length ≤ 90000) (hg : gl.length ≤ 90000) (hk : mk.length ≤ 90000) (hl : l.length ≤ 90000) (bq1 : Objs) (hq1 : SqE eFa v7 la bq1) (bq4 : Objs) (hq4 : SqE eFa v16 ga bq4) (bq5 : Objs) (hq5 : SqE eFa v17 go bq5) : Con Try.prog 91 #[.agg #[.int .i64 r, .int .i64 s, .int .i64 n, .int .i64 m, .int .i64 c, .int .i64 mode, v6, v7, v8, .int .i64 0, .int .i64 0, .int .i64 0, .int .i64 0, .int .i64 0, .int .i64 0, v15, v16, v17, v18, v19], .int .i64 i, .agg (rB 72 b).toArray, .bool on] [.p (SqE eCe v6 cl), .c bq1, .p (SqE eFa v8 co), .p (SqE eCe v15 gl), .c bq4, .c bq5, .p (SqE eI v18 mk), .p (SqE eAc v19 l)] [0, 2, 3, 6, 7] (fun E => [.p (SqE eCe (E.val 0) (wrC cl co i b)), .p (SqE eFa (E.val 1) (rwent_2 co)), .p (SqE eCe (E.val 2) (putC gl i b)), .p (SqE eI (E.val 3) (markT mk i on)), .p (SqE eAc (E.val 4) (l ++ [⟨true, i, rwent_0 co i, rwent_1 co, 0, false⟩]))]) (fun E => .agg #[.int .i64 r, .int .i64 s, .int .i64 n, .int .i64 m, .int .i64 c, .int .i64 mode, (E.val 0), v7, (E.val 1), .int .i64 0, .int .i64 0, .int .i64 0, .int .i64 0, .int .i64 0, .int .i64 0, (E.val 2), v16, v17, (E.val 3), (E.val 4)]) := by
 refine Con.of (enters_of Try.func91 (by kernel_rfl) rfl) fun w cs HS HH OW => ?_
 refine (callsIn_wide (n := 6)).1 ?_
 refine callsIn_of_wp_marks Try.func91 rfl trivial ?_ rfl
 simp only [Try.ntmps91, eF, Nat.reduceAdd, Nat.reduceSub]
 gi_upto_region 0 with fail
 refine rg (fun q1 => [.m (bx 8),
  .m (bx 9),
  .m (al 10)]) (fun q1 L => L ++ [ob ((q1 0).blk 0) #[.int .i64 r, .int .i64 s, .int .i64 n, .int .i64 m, .int .i64 c, .int .i64 mode, v6, v7, v8, .int .i64 0, .int .i64 0, .int .i64 0, .int .i64 0, .int .i64 0, .int .i64 0, v15, v16, v17, v18, v19] 108, ob ((q1 1).blk 0) (rB 72 b).toArray 40, ob ((q1 2).blk 0) #[.int .i64 0, .int .i64 0, .int .i64 0, .int .i64 0, .int .i64 0, .int .i64 0, .slice none 0 0, .slice none 0 0, .slice none 0 0, .int .i64 0, .int .i64 0, .int .i64 0, .int .i64 0, .int .i64 0, .int .i64 0, .slice none 0 0, .slice none 0 0, .slice none 0 0, .slice none 0 0, .slice none 0 0] 108]) OW ?_
 clear OW; intro q1 _ Wq1 OW; simp only [↓pc, ↓pn, vE, Hint.val, Act.put, eL]
 gi_upto_region 1 with fail
 refine rg (fun q2 => [.v (.pointer (some ⟨(q1 0).blk 0, 0, none⟩)),
  .m (ls 8 ([.int .i64 r, .int .i64 s, .int .i64 n, .int .i64 m, .int .i64 c, .int .i64 mode, v6, v7, v8])),
  .v (.int .i64 i),
  .c [0, 1, 2] [2] (Con.at (rd' := [.p (SqE eCe v6 cl), .c bq1, .p (SqE eFa v8 co)]) (rwent r s n m c mode v6 v7 v8 cl la co i hb) (atS (atC hq1 (atS (fun _ h => h))))),
  .v (.tuple #[.agg #[.int .i64 r, .int .i64 s, .int .i64 n, .int .i64 m, .int .i64 c, .int .i64 mode, v6, v7, ((q2 3).val 0)], .int .i64 (rwent_0 co i), .bool (rwent_1 co)]),
  .v (.agg #[.int .i64 r, .int .i64 s, .int .i64 n, .int .i64 m, .int .i64 c, .int .i64 mode, v6, v7, ((q2 3).val 0)]),
  .v (.int .i64 (rwent_0 co i)),
  .v (.bool (rwent_1 co)),
  .m (al 11),
  .m (sv 11 ((q2 8).blk 0) 0 82 ([.int .i64 r, .int .i64 s, .int .i64 n, .int .i64 m, .int .i64 c, .int .i64 mode, v6, v7, ((q2 3).val 0)]) #[.int .i64 0, .int .i64 0, .int .i64 0, .int .i64 0, .int .i64 0, .int .i64 0, .slice none 0 0, .slice none 0 0, .slice none 0 0] #[.int .i64 r, .int .i64 s, .int .i64 n, .int .i64 m, .int .i64 c, .int .i64 mode, v6, v7, ((q2 3).val 0)] [(0, .p (SqE eCe v6 cl)), (2, .p (SqE eFa ((q2 3).val 0) (rwent_2 co)))] (by kernel_rfl) (Nat.le_of_ble_eq_true rfl) (fun c5 hc5 => (oc rfl (oc rfl (oc rfl (oc rfl (oc rfl (oc rfl (oc (SqE.one (hc5 _ (.head _))) (oc (SrE.one hq1.1) (oc (SqE.one (hc5 _ (.tail _ (.head _)))) on0))))))))))),
  .v (.int .i64 (rwent_0 co i)),
  .v (.bool (rwent_1 co))]) (fun q2 L => L.set 2 (.p (SqE eFa ((q2 3).val 0) (rwent_2 co))) ++ [ob ((q2 8).blk 0) #[.int .i64 r, .int .i64 s, .int .i64 n, .int .i64 m, .int .i64 c, .int .i64 mode, v6, v7, ((q2 3).val 0)] 82]) OW ?_
 clear OW; intro q2 _ Wq2 OW; simp only [↓pc, ↓pn, vE, Hint.val, Act.put, eL]
 gi_upto_region 2 with fail
 refine rg (fun q3 => [.v (.bool (rwent_1 co)),
  .v (.bool (!(rwent_1 co)))]) (fun _ L => L) OW ?_
 clear OW; intro q3 _ Wq3 OW; simp only [↓pc, ↓pn, vE, Hint.val, Act.put, eL]
 cases hB4 : (!(rwent_1 co))
 case true =>
  gi_upto_region 3 with fail
  refine rg (fun q5 => [.m (ls 11 ([.int .i64 r, .int .i64 s, .int .i64 n, .int .i64 m, .int .i64 c, .int .i64 mode, v6, v7, ((q2 3).val 0)])),
   .v (.int .i64 (rwent_0 co i)),
   .m (ls 9 (rB 72 b)),
   .c [0, 1, 2] [0] (Con.at (rd' := [.p (SqE eCe v6 cl), .c bq1, .p (SqE eFa ((q2 3).val 0) (rwent_2 co))]) (rput r s n m c mode v6 v7 ((q2 3).val 0) cl la (rwent_2 co) (rwent_0 co i) b (by first | rfl | (simp only [List.length_set, List.length_append, List.length_replicate, List.length_cons, List.length_nil, List.length_map, List.length_range, List.length_take, List.length_drop, lb]; done) | (simp only [List.length_set, List.length_append, List.length_replicate, List.length_cons, List.length_nil, List.length_map, List.length_range, List.length_take, List.length_drop, lb]; omega)) (by omega)) (atS (atC hq1 (atS (fun _ h => h))))),
   .m (sv 11 ((q2 8).blk 0) 0 82 ([.int .i64 r, .int .i64 s, .int .i64 n, .int .i64 m, .int .i64 c, .int .i64 mode, ((q5 3).val 0), v7, ((q2 3).val 0)]) #[.int .i64 r, .int .i64 s, .int .i64 n, .int .i64 m, .int .i64 c, .int .i64 mode, v6, v7, ((q2 3).val 0)] #[.int .i64 r, .int .i64 s, .int .i64 n, .int .i64 m, .int .i64 c, .int .i64 mode, ((q5 3).val 0), v7, ((q2 3).val 0)] [(0, .p (SqE eCe ((q5 3).val 0) (putC cl (rwent_0 co i) b))), (2, .p (SqE eFa ((q2 3).val 0) (rwent_2 co)))] (by kernel_rfl) (Nat.le_of_ble_eq_true rfl) (fun c5 hc5 => (oc rfl (oc rfl (oc rfl (oc rfl (oc rfl (oc rfl (oc (SqE.one (hc5 _ (.head _))) (oc (SrE.one hq1.1) (oc (SqE.one (hc5 _ (.tail _ (.head _)))) on0)))))))))))]) (fun q5 L => (L.set 0 (.p (SqE eCe ((q5 3).val 0) (putC cl (rwent_0 co i) b)))).set 11 (ob ((q2 8).blk 0) #[.int .i64 r, .int .i64 s, .int .i64 n, .int .i64 m, .int .i64 c, .int .i64 mode, ((q5 3).val 0), v7, ((q2 3).val 0)] 82)) OW ?_
  clear OW; intro q5 _ Wq5 OW; simp only [↓pc, ↓pn, vE, Hint.val, Act.put, eL]
  gi_upto_region 4 with fail
  refine rg (fun q6 => [.m (ls 11 ([.int .i64 r, .int .i64 s, .int .i64 n, .int .i64 m, .int .i64 c, .int .i64 mode, ((q5 3).val 0), v7, ((q2 3).val 0)])),
   .v (.pointer (some ⟨(q1 0).blk 0, 0, none⟩)),
   .m (sv 8 ((q1 0).blk 0) 0 108 ([.int .i64 r, .int .i64 s, .int .i64 n, .int .i64 m, .int .i64 c, .int .i64 mode, ((q5 3).val 0), v7, ((q2 3).val 0)]) #[.int .i64 r, .int .i64 s, .int .i64 n, .int .i64 m, .int .i64 c, .int .i64 mode, v6, v7, v8, .int .i64 0, .int .i64 0, .int .i64 0, .int .i64 0, .int .i64 0, .int .i64 0, v15, v16, v17, v18, v19] #[.int .i64 r, .int .i64 s, .int .i64 n, .int .i64 m, .int .i64 c, .int .i64 mode, ((q5 3).val 0), v7, ((q2 3).val 0), .int .i64 0, .int .i64 0, .int .i64 0, .int .i64 0, .int .i64 0, .int .i64 0, v15, v16, v17, v18, v19] [(0, .p (SqE eCe ((q5 3).val 0) (putC cl (rwent_0 co i) b))), (2, .p (SqE eFa ((q2 3).val 0) (rwent_2 co)))] (by kernel_rfl) (Nat.le_of_ble_eq_true rfl) (fun c5 hc5 => (oc rfl (oc rfl (oc rfl (oc rfl (oc rfl (oc rfl (oc (SqE.one (hc5 _ (.head _))) (oc (SrE.one hq1.1) (oc (SqE.one (hc5 _ (.tail _ (.head _)))) on0)))))))))))]) (fun q6 L => L.set 8 (ob ((q1 0).blk 0) #[.int .i64 r, .int .i64 s, .int .i64 n, .int .i64 m, .int .i64 c, .int .i64 mode, ((q5 3).val 0), v7, ((q2 3).val 0), .int .i64 0, .int .i64 0, .int .i64 0, .int .i64 0, .int .i64 0, .int .i64 0, v15, v16, v17, v18, v19] 108)) OW ?_
  clear OW; intro q6 _ Wq6 OW; simp only [↓pc, ↓pn, vE, Hint.val, Act.put, eL]
  gi_upto_region 5 with fail
  refine rg (fun q7 => [.v (.pointer (some ⟨(q1 0).blk 0, 9, none⟩)),
   .m (ls 8 ([.int .i64 0, .int .i64 0, .int .i64 0, .int .i64 0, .int .i64 0, .int .i64 0, v15, v16, v17])),
   .v (.int .i64 i),
   .m (ls 9 (rB 72 b)),
   .c [3, 4, 5] [3] (Con.at (rd' := [.p (SqE eCe v15 gl), .c bq4, .c bq5]) (rput 0 0 0 0 0 0 v15 v16 v17 gl ga go i b (by first | rfl | (simp only [List.length_set, List.length_append, List.length_replicate, List.length_cons, List.length_nil, List.length_map, List.length_range, List.length_take, List.length_drop, lb]; done) | (simp only [List.length_set, List.length_append, List.length_replicate, List.length_cons, List.length_nil, List.length_map, List.length_range, List.length_take, List.length_drop, lb]; omega)) (by omega)) (atS (atC hq4 (atC hq5 (fun _ h => h))))),
   .v (.pointer (some ⟨(q1 0).blk 0, 9, none⟩)),
   .m (sv 8 ((q1 0).blk 0) 9 108 ([.int .i64 0, .int .i64 0, .int .i64 0, .int .i64 0, .int .i64 0, .int .i64 0, ((q7 4).val 0), v16, v17]) #[.int .i64 r, .int .i64 s, .int .i64 n, .int .i64 m, .int .i64 c, .int .i64 mode, ((q5 3).val 0), v7, ((q2 3).val 0), .int .i64 0, .int .i64 0, .int .i64 0, .int .i64 0, .int .i64 0, .int .i64 0, v15, v16, v17, v18, v19] #[.int .i64 r, .int .i64 s, .int .i64 n, .int .i64 m, .int .i64 c, .int .i64 mode, ((q5 3).val 0), v7, ((q2 3).val 0), .int .i64 0, .int .i64 0, .int .i64 0, .int .i64 0, .int .i64 0, .int .i64 0, ((q7 4).val 0), v16, v17, v18, v19] [(3, .p (SqE eCe ((q7 4).val 0) (putC gl i b)))] (by kernel_rfl) (Nat.le_of_ble_eq_true rfl) (fun c5 hc5 => (oc rfl (oc rfl (oc rfl (oc rfl (oc rfl (oc rfl (oc (SqE.one (hc5 _ (.head _))) (oc (SrE.one hq4.1) (oc (SrE.one hq5.1) on0)))))))))))]) (fun q7 L => (L.set 3 (.p (SqE eCe ((q7 4).val 0) (putC gl i b)))).set 8 (ob ((q1 0).blk 0) #[.int .i64 r, .int .i64 s, .int .i64 n, .int .i64 m, .int .i64 c, .int .i64 mode, ((q5 3).val 0), v7, ((q2 3).val 0), .int .i64 0, .int .i64 0, .int .i64 0, .int .i64 0, .int .i64 0, .int .i64 0, ((q7 4).val 0), v16, v17, v18, v19] 108)) OW ?_
  clear OW; intro q7 _ Wq7 OW; simp only [↓pc, ↓pn, vE, Hint.val, Act.put, eL]
  gi_upto_region 6 with fail
  refine rg (fun q8 => [.m (ls 8 ([.int .i64 r, .int .i64 s, .int .i64 n, .int .i64 m, .int .i64 c, .int .i64 mode, ((q5 3).val 0), v7, ((q2 3).val 0), .int .i64 0, .int .i64 0, .int .i64 0, .int .i64 0, .int .i64 0, .int .i64 0, ((q7 4).val 0), v16, v17, v18, v19])),
   .v (.int .i64 i),
   .v (.bool on),
   .c [0, 1, 2, 3, 4, 5, 6, 7] [6] (Con.at (rd' := [.p (SqE eCe ((q5 3).val 0) (putC cl (rwent_0 co i) b)), .c bq1, .p (SqE eFa ((q2 3).val 0) (rwent_2 co)), .p (SqE eCe ((q7 4).val 0) (putC gl i b)), .c bq4, .c bq5, .p (SqE eI v18 mk), .p (SqE eAc v19 l)]) (qmark r s n m c mode ((q5 3).val 0) v7 ((q2 3).val 0) ((q7 4).val 0) v16 v17 v18 v19 (putC cl (rwent_0 co i) b) la (rwent_2 co) (putC gl i b) ga go mk l i on (by omega)) (atS (atC hq1 (atS (atS (atC hq4 (atC hq5 (atS (atS (fun _ h => h)))))))))),
   .m (sv 8 ((q1 0).blk 0) 0 108 ([.int .i64 r, .int .i64 s, .int .i64 n, .int .i64 m, .int .i64 c, .int .i64 mode, ((q5 3).val 0), v7, ((q2 3).val 0), .int .i64 0, .int .i64 0, .int .i64 0, .int .i64 0, .int .i64 0, .int .i64 0, ((q7 4).val 0), v16, v17, ((q8 3).val 0), v19]) #[.int .i64 r, .int .i64 s, .int .i64 n, .int .i64 m, .int .i64 c, .int .i64 mode, ((q5 3).val 0), v7, ((q2 3).val 0), .int .i64 0, .int .i64 0, .int .i64 0, .int .i64 0, .int .i64 0, .int .i64 0, ((q7 4).val 0), v16, v17, v18, v19] #[.int .i64 r, .int .i64 s, .int .i64 n, .int .i64 m, .int .i64 c, .int .i64 mode, ((q5 3).val 0), v7, ((q2 3).val 0), .int .i64 0, .int .i64 0, .int .i64 0, .int .i64 0, .int .i64 0, .int .i64 0, ((q7 4).val 0), v16, v17, ((q8 3).val 0), v19] [(0, .p (SqE eCe ((q5 3).val 0) (putC cl (rwent_0 co i) b))), (2, .p (SqE eFa ((q2 3).val 0) (rwent_2 co))), (3, .p (SqE eCe ((q7 4).val 0) (putC gl i b))), (6, .p (SqE eI ((q8 3).val 0) (markT mk i on))), (7, .p (SqE eAc v19 l))] (by kernel_rfl) (Nat.le_of_ble_eq_true rfl) (fun c5 hc5 => (oc rfl (oc rfl (oc rfl (oc rfl (oc rfl (oc rfl (oc (SqE.one (hc5 _ (.head _))) (oc (SrE.one hq1.1) (oc (SqE.one (hc5 _ (.tail _ (.head _)))) (oc rfl (oc rfl (oc rfl (oc rfl (oc rfl (oc rfl (oc (SqE.one (hc5 _ (.tail _ (.tail _ (.head _))))) (oc (SrE.one hq4.1) (oc (SrE.one hq5.1) (oc (SqE.one (hc5 _ (.tail _ (.tail _ (.tail _ (.head _)))))) (oc (SqE.one (hc5 _ (.tail _ (.tail _ (.tail _ (.tail _ (.head _))))))) on0))))))))))))))))))))))]) (fun q8 L => (L.set 6 (.p (SqE eI ((q8 3).val 0) (markT mk i on)))).set 8 (ob ((q1 0).blk 0) #[.int .i64 r, .int .i64 s, .int .i64 n, .int .i64 m, .int .i64 c, .int .i64 mode, ((q5 3).val 0), v7, ((q2 3).val 0), .int .i64 0, .int .i64 0, .int .i64 0, .int .i64 0, .int .i64 0, .int .i64 0, ((q7 4).val 0), v16, v17, ((q8 3).val 0), v19] 108)) OW ?_
  clear OW; intro q8 _ Wq8 OW; simp only [↓pc, ↓pn, vE, Hint.val, Act.put, eL]
  gi_upto_region 7 with fail
  refine rg (fun q9 => [.m (ls 8 ([.int .i64 r, .int .i64 s, .int .i64 n, .int .i64 m, .int .i64 c, .int .i64 mode, ((q5 3).val 0), v7, ((q2 3).val 0), .int .i64 0, .int .i64 0, .int .i64 0, .int .i64 0, .int .i64 0, .int .i64 0, ((q7 4).val 0), v16, v17, ((q8 3).val 0), v19])),
   .v (.int .i64 i),
   .v (.int .i64 (rwent_0 co i)),
   .v (.bool (rwent_1 co)),
   .v (.agg #[.bool true, .int .i64 i, .int .i64 (rwent_0 co i), .bool (rwent_1 co), .int .i64 0, .bool false]),
   .c [0, 1, 2, 3, 4, 5, 6, 7] [7] (Con.at (rd' := [.p (SqE eCe ((q5 3).val 0) (putC cl (rwent_0 co i) b)), .c bq1, .p (SqE eFa ((q2 3).val 0) (rwent_2 co)), .p (SqE eCe ((q7 4).val 0) (putC gl i b)), .c bq4, .c bq5, .p (SqE eI ((q8 3).val 0) (markT mk i on)), .p (SqE eAc v19 l)]) (qadd r s n m c mode ((q5 3).val 0) v7 ((q2 3).val 0) ((q7 4).val 0) v16 v17 ((q8 3).val 0) v19 (putC cl (rwent_0 co i) b) la (rwent_2 co) (putC gl i b) ga go (markT mk i on) l (⟨true, i, (rwent_0 co i), (rwent_1 co), 0, false⟩ : Ac) (by omega)) (atS (atC hq1 (atS (atS (atC hq4 (atC hq5 (atS (atS (fun _ h => h)))))))))),
   .m (sv 10 ((q1 2).blk 0) 0 108 ([.int .i64 r, .int .i64 s, .int .i64 n, .int .i64 m, .int .i64 c, .int .i64 mode, ((q5 3).val 0), v7, ((q2 3).val 0), .int .i64 0, .int .i64 0, .int .i64 0, .int .i64 0, .int .i64 0, .int .i64 0, ((q7 4).val 0), v16, v17, ((q8 3).val 0), ((q9 5).val 0)]) #[.int .i64 0, .int .i64 0, .int .i64 0, .int .i64 0, .int .i64 0, .int .i64 0, .slice none 0 0, .slice none 0 0, .slice none 0 0, .int .i64 0, .int .i64 0, .int .i64 0, .int .i64 0, .int .i64 0, .int .i64 0, .slice none 0 0, .slice none 0 0, .slice none 0 0, .slice none 0 0, .slice none 0 0] #[.int .i64 r, .int .i64 s, .int .i64 n, .int .i64 m, .int .i64 c, .int .i64 mode, ((q5 3).val 0), v7, ((q2 3).val 0), .int .i64 0, .int .i64 0, .int .i64 0, .int .i64 0, .int .i64 0, .int .i64 0, ((q7 4).val 0), v16, v17, ((q8 3).val 0), ((q9 5).val 0)] [(0, .p (SqE eCe ((q5 3).val 0) (putC cl (rwent_0 co i) b))), (2, .p (SqE eFa ((q2 3).val 0) (rwent_2 co))), (3, .p (SqE eCe ((q7 4).val 0) (putC gl i b))), (6, .p (SqE eI ((q8 3).val 0) (markT mk i on))), (7, .p (SqE eAc ((q9 5).val 0) (l ++ [(⟨true, i, (rwent_0 co i), (rwent_1 co), 0, false⟩ : Ac)])))] (by kernel_rfl) (Nat.le_of_ble_eq_true rfl) (fun c5 hc5 => (oc rfl (oc rfl (oc rfl (oc rfl (oc rfl (oc rfl (oc (SqE.one (hc5 _ (.head _))) (oc (SrE.one hq1.1) (oc (SqE.one (hc5 _ (.tail _ (.head _)))) (oc rfl (oc rfl (oc rfl (oc rfl (oc rfl (oc rfl (oc (SqE.one (hc5 _ (.tail _ (.tail _ (.head _))))) (oc (SrE.one hq4.1) (oc (SrE.one hq5.1) (oc (SqE.one (hc5 _ (.tail _ (.tail _ (.tail _ (.head _)))))) (oc (SqE.one (hc5 _ (.tail _ (.tail _ (.tail _ (.tail _ (.head _))))))) on0))))))))))))))))))))))]) (fun q9 L => (L.set 7 (.p (SqE eAc ((q9 5).val 0) (l ++ [(⟨true, i, (rwent_0 co i), (rwent_1 co), 0, false⟩ : Ac)])))).set 10 (ob ((q1 2).blk 0) #[.int .i64 r, .int .i64 s, .int .i64 n, .int .i64 m, .int .i64 c, .int .i64 mode, ((q5 3).val 0), v7, ((q2 3).val 0), .int .i64 0, .int .i64 0, .int .i64 0, .int .i64 0, .int .i64 0, .int .i64 0, ((q7 4).val 0), v16, v17, ((q8 3).val 0), ((q9 5).val 0)] 108)) OW ?_
  clear OW; intro q9 _ Wq9 OW; simp only [↓pc, ↓pn, vE, Hint.val, Act.put, eL]
  gi_wp2
  exact leafE HS HH OW [.s ([.int .i64 r, .int .i64 s, .int .i64 n, .int .i64 m, .int .i64 c, .int .i64 mode, ((q5 3).val 0), v7, ((q2 3).val 0), .int .i64 0, .int .i64 0, .int .i64 0, .int .i64 0, .int .i64 0, .int .i64 0, ((q7 4).val 0), v16, v17, ((q8 3).val 0), ((q9 5).val 0)]) 10] (.l [] [] [((q5 3).val 0), ((q2 3).val 0), ((q7 4).val 0), ((q8 3).val 0), ((q9 5).val 0), (q5 3).val 0, (q2 3).val 0, (q7 4).val 0, (q8 3).val 0, (q9 5).val 0]) [0, 2, 3, 6, 7] [(1, 1), (4, 4), (5, 5)] rfl (by kernel_rfl) (by simp only [wrC]; (repeat (first | rw [hB4] | rw [cond_true] | rw [cond_false])); kernel_rfl)
 gi_upto_region 4 with fail
 refine rg (fun q10 => [.m (ls 11 ([.int .i64 r, .int .i64 s, .int .i64 n, .int .i64 m, .int .i64 c, .int .i64 mode, v6, v7, ((q2 3).val 0)])),
  .v (.pointer (some ⟨(q1 0).blk 0, 0, none⟩)),
  .m (sv 8 ((q1 0).blk 0) 0 108 ([.int .i64 r, .int .i64 s, .int .i64 n, .int .i64 m, .int .i64 c, .int .i64 mode, v6, v7, ((q2 3).val 0)]) #[.int .i64 r, .int .i64 s, .int .i64 n, .int .i64 m, .int .i64 c, .int .i64 mode, v6, v7, v8, .int .i64 0, .int .i64 0, .int .i64 0, .int .i64 0, .int .i64 0, .int .i64 0, v15, v16, v17, v18, v19] #[.int .i64 r, .int .i64 s, .int .i64 n, .int .i64 m, .int .i64 c, .int .i64 mode, v6, v7, ((q2 3).val 0), .int .i64 0, .int .i64 0, .int .i64 0, .int .i64 0, .int .i64 0, .int .i64 0, v15, v16, v17, v18, v19] [(0, .p (SqE eCe v6 cl)), (2, .p (SqE eFa ((q2 3).val 0) (rwent_2 co)))] (by kernel_rfl) (Nat.le_of_ble_eq_true rfl) (fun c5 hc5 => (oc rfl (oc rfl (oc rfl (oc rfl (oc rfl (oc rfl (oc (SqE.one (hc5 _ (.head _))) (oc (SrE.one hq1.1) (oc (SqE.one (hc5 _ (.tail _ (.head _)))) on0)))))))))))]) (fun q10 L => L.set 8 (ob ((q1 0).blk 0) #[.int .i64 r, .int .i64 s, .int .i64 n, .int .i64 m, .int .i64 c, .int .i64 mode, v6, v7, ((q2 3).val 0), .int .i64 0, .int .i64 0, .int .i64 0, .int .i64 0, .int .i64 0, .int .i64 0, v15, v16, v17, v18, v19] 108)) OW ?_
 clear OW; intro q10 _ Wq10 OW; simp only [↓pc, ↓pn, vE, Hint.val, Act.put, eL]
 gi_upto_region 5 with fail
 refine rg (fun q11 => [.v (.pointer (some ⟨(q1 0).blk 0, 9, none⟩)),
  .m (ls 8 ([.int .i64 0, .int .i64 0, .int .i64 0, .int .i64 0, .int .i64 0, .int .i64 0, v15, v16, v17])),
  .v (.int .i64 i),
  .m (ls 9 (rB 72 b)),
  .c [3, 4, 5] [3] (Con.at (rd' := [.p (SqE eCe v15 gl), .c bq4, .c bq5]) (rput 0 0 0 0 0 0 v15 v16 v17 gl ga go i b (by first | rfl | (simp only [List.length_set, List.length_append, List.length_replicate, List.length_cons, List.length_nil, List.length_map, List.length_range, List.length_take, List.length_drop, lb]; done) | (simp only [List.length_set, List.length_append, List.length_replicate, List.length_cons, List.length_nil, List.length_map, List.length_range, List.length_take, List.length_drop, lb]; omega)) (by omega)) (atS (atC hq4 (atC hq5 (fun _ h => h))))),
  .v (.pointer (some ⟨(q1 0).blk 0, 9, none⟩)),
  .m (sv 8 ((q1 0).blk 0) 9 108 ([.int .i64 0, .int .i64 0, .int .i64 0, .int .i64 0, .int .i64 0, .int .i64 0, ((q11 4).val 0), v16, v17]) #[.int .i64 r, .int .i64 s, .int .i64 n, .int .i64 m, .int .i64 c, .int .i64 mode, v6, v7, ((q2 3).val 0), .int .i64 0, .int .i64 0, .int .i64 0, .int .i64 0, .int .i64 0, .int .i64 0, v15, v16, v17, v18, v19] #[.int .i64 r, .int .i64 s, .int .i64 n, .int .i64 m, .int .i64 c, .int .i64 mode, v6, v7, ((q2 3).val 0), .int .i64 0, .int .i64 0, .int .i64 0, .int .i64 0, .int .i64 0, .int .i64 0, ((q11 4).val 0), v16, v17, v18, v19] [(3, .p (SqE eCe ((q11 4).val 0) (putC gl i b)))] (by kernel_rfl) (Nat.le_of_ble_eq_true rfl) (fun c5 hc5 => (oc rfl (oc rfl (oc rfl (oc rfl (oc rfl (oc rfl (oc (SqE.one (hc5 _ (.head _))) (oc (SrE.one hq4.1) (oc (SrE.one hq5.1) on0)))))))))))]) (fun q11 L => (L.set 3 (.p (SqE eCe ((q11 4).val 0) (putC gl i b)))).set 8 (ob ((q1 0).blk 0) #[.int .i64 r, .int .i64 s, .int .i64 n, .int .i64 m, .int .i64 c, .int .i64 mode, v6, v7, ((q2 3).val 0), .int .i64 0, .int .i64 0, .int .i64 0, .int .i64 0, .int .i64 0, .int .i64 0, ((q11 4).val 0), v16, v17, v18, v19] 108)) OW ?_
 clear OW; intro q11 _ Wq11 OW; simp only [↓pc, ↓pn, vE, Hint.val, Act.put, eL]
 gi_upto_region 6 with fail
 refine rg (fun q12 => [.m (ls 8 ([.int .i64 r, .int .i64 s, .int .i64 n, .int .i64 m, .int .i64 c, .int .i64 mode, v6, v7, ((q2 3).val 0), .int .i64 0, .int .i64 0, .int .i64 0, .int .i64 0, .int .i64 0, .int .i64 0, ((q11 4).val 0), v16, v17, v18, v19])),
  .v (.int .i64 i),
  .v (.bool on),
  .c [0, 1, 2, 3, 4, 5, 6, 7] [6] (Con.at (rd' := [.p (SqE eCe v6 cl), .c bq1, .p (SqE eFa ((q2 3).val 0) (rwent_2 co)), .p (SqE eCe ((q11 4).val 0) (putC gl i b)), .c bq4, .c bq5, .p (SqE eI v18 mk), .p (SqE eAc v19 l)]) (qmark r s n m c mode v6 v7 ((q2 3).val 0) ((q11 4).val 0) v16 v17 v18 v19 cl la (rwent_2 co) (putC gl i b) ga go mk l i on (by omega)) (atS (atC hq1 (atS (atS (atC hq4 (atC hq5 (atS (atS (fun _ h => h)))))))))),
  .m (sv 8 ((q1 0).blk 0) 0 108 ([.int .i64 r, .int .i64 s, .int .i64 n, .int .i64 m, .int .i64 c, .int .i64 mode, v6, v7, ((q2 3).val 0), .int .i64 0, .int .i64 0, .int .i64 0, .int .i64 0, .int .i64 0, .int .i64 0, ((q11 4).val 0), v16, v17, ((q12 3).val 0), v19]) #[.int .i64 r, .int .i64 s, .int .i64 n, .int .i64 m, .int .i64 c, .int .i64 mode, v6, v7, ((q2 3).val 0), .int .i64 0, .int .i64 0, .int .i64 0, .int .i64 0, .int .i64 0, .int .i64 0, ((q11 4).val 0), v16, v17, v18, v19] #[.int .i64 r, .int .i64 s, .int .i64 n, .int .i64 m, .int .i64 c, .int .i64 mode, v6, v7, ((q2 3).val 0), .int .i64 0, .int .i64 0, .int .i64 0, .int .i64 0, .int .i64 0, .int .i64 0, ((q11 4).val 0), v16, v17, ((q12 3).val 0), v19] [(0, .p (SqE eCe v6 cl)), (2, .p (SqE eFa ((q2 3).val 0) (rwent_2 co))), (3, .p (SqE eCe ((q11 4).val 0) (putC gl i b))), (6, .p (SqE eI ((q12 3).val 0) (markT mk i on))), (7, .p (SqE eAc v19 l))] (by kernel_rfl) (Nat.le_of_ble_eq_true rfl) (fun c5 hc5 => (oc rfl (oc rfl (oc rfl (oc rfl (oc rfl (oc rfl (oc (SqE.one (hc5 _ (.head _))) (oc (SrE.one hq1.1) (oc (SqE.one (hc5 _ (.tail _ (.head _)))) (oc rfl (oc rfl (oc rfl (oc rfl (oc rfl (oc rfl (oc (SqE.one (hc5 _ (.tail _ (.tail _ (.head _))))) (oc (SrE.one hq4.1) (oc (SrE.one hq5.1) (oc (SqE.one (hc5 _ (.tail _ (.tail _ (.tail _ (.head _)))))) (oc (SqE.one (hc5 _ (.tail _ (.tail _ (.tail _ (.tail _ (.head _))))))) on0))))))))))))))))))))))]) (fun q12 L => (L.set 6 (.p (SqE eI ((q12 3).val 0) (markT mk i on)))).set 8 (ob ((q1 0).blk 0) #[.int .i64 r, .int .i64 s, .int .i64 n, .int .i64 m, .int .i64 c, .int .i64 mode, v6, v7, ((q2 3).val 0), .int .i64 0, .int .i64 0, .int .i64 0, .int .i64 0, .int .i64 0, .int .i64 0, ((q11 4).val 0), v16, v17, ((q12 3).val 0), v19] 108)) OW ?_
 clear OW; intro q12 _ Wq12 OW; simp only [↓pc, ↓pn, vE, Hint.val, Act.put, eL]
 gi_upto_region 7 with fail
 refine rg (fun q13 => [.m (ls 8 ([.int .i64 r, .int .i64 s, .int .i64 n, .int .i64 m, .int .i64 c, .int .i64 mode, v6, v7, ((q2 3).val 0), .int .i64 0, .int .i64 0, .int .i64 0, .int .i64 0, .int .i64 0, .int .i64 0, ((q11 4).val 0), v16, v17, ((q12 3).val 0), v19])),
  .v (.int .i64 i),
  .v (.int .i64 (rwent_0 co i)),
  .v (.bool (rwent_1 co)),
  .v (.agg #[.bool true, .int .i64 i, .int .i64 (rwent_0 co i), .bool (rwent_1 co), .int .i64 0, .bool false]),
  .c [0, 1, 2, 3, 4, 5, 6, 7] [7] (Con.at (rd' := [.p (SqE eCe v6 cl), .c bq1, .p (SqE eFa ((q2 3).val 0) (rwent_2 co)), .p (SqE eCe ((q11 4).val 0) (putC gl i b)), .c bq4, .c bq5, .p (SqE eI ((q12 3).val 0) (markT mk i on)), .p (SqE eAc v19 l)]) (qadd r s n m c mode v6 v7 ((q2 3).val 0) ((q11 4).val 0) v16 v17 ((q12 3).val 0) v19 cl la (rwent_2 co) (putC gl i b) ga go (markT mk i on) l (⟨true, i, (rwent_0 co i), (rwent_1 co), 0, false⟩ : Ac) (by omega)) (atS (atC hq1 (atS (atS (atC hq4 (atC hq5 (atS (atS (fun _ h => h)))))))))),
  .m (sv 10 ((q1 2).blk 0) 0 108 ([.int .i64 r, .int .i64 s, .int .i64 n, .int .i64 m, .int .i64 c, .int .i64 mode, v6, v7, ((q2 3).val 0), .int .i64 0, .int .i64 0, .int .i64 0, .int .i64 0, .int .i64 0, .int .i64 0, ((q11 4).val 0), v16, v17, ((q12 3).val 0), ((q13 5).val 0)]) #[.int .i64 0, .int .i64 0, .int .i64 0, .int .i64 0, .int .i64 0, .int .i64 0, .slice none 0 0, .slice none 0 0, .slice none 0 0, .int .i64 0, .int .i64 0, .int .i64 0, .int .i64 0, .int .i64 0, .int .i64 0, .slice none 0 0, .slice none 0 0, .slice none 0 0, .slice none 0 0, .slice none 0 0] #[.int .i64 r, .int .i64 s, .int .i64 n, .int .i64 m, .int .i64 c, .int .i64 mode, v6, v7, ((q2 3).val 0), .int .i64 0, .int .i64 0, .int .i64 0, .int .i64 0, .int .i64 0, .int .i64 0, ((q11 4).val 0), v16, v17, ((q12 3).val 0), ((q13 5).val 0)] [(0, .p (SqE eCe v6 cl)), (2, .p (SqE eFa ((q2 3).val 0) (rwent_2 co))), (3, .p (SqE eCe ((q11 4).val 0) (putC gl i b))), (6, .p (SqE eI ((q12 3).val 0) (markT mk i on))), (7, .p (SqE eAc ((q13 5).val 0) (l ++ [(⟨true, i, (rwent_0 co i), (rwent_1 co), 0, false⟩ : Ac)])))] (by kernel_rfl) (Nat.le_of_ble_eq_true rfl) (fun c5 hc5 => (oc rfl (oc rfl (oc rfl (oc rfl (oc rfl (oc rfl (oc (SqE.one (hc5 _ (.head _))) (oc (SrE.one hq1.1) (oc (SqE.one (hc5 _ (.tail _ (.head _)))) (oc rfl (oc rfl (oc rfl (oc rfl (oc rfl (oc rfl (oc (SqE.one (hc5 _ (.tail _ (.tail _ (.head _))))) (oc (SrE.one hq4.1) (oc (SrE.one hq5.1) (oc (SqE.one (hc5 _ (.tail _ (.tail _ (.tail _ (.head _)))))) (oc (SqE.one (hc5 _ (.tail _ (.tail _ (.tail _ (.tail _ (.head _))))))) on0))))))))))))))))))))))]) (fun q13 L => (L.set 7 (.p (SqE eAc ((q13 5).val 0) (l ++ [(⟨true, i, (rwent_0 co i), (rwent_1 co), 0, false⟩ : Ac)])))).set 10 (ob ((q1 2).blk 0) #[.int .i64 r, .int .i64 s, .int .i64 n, .int .i64 m, .int .i64 c, .int .i64 mode, v6, v7, ((q2 3).val 0), .int .i64 0, .int .i64 0, .int .i64 0, .int .i64 0, .int .i64 0, .int .i64 0, ((q11 4).val 0), v16, v17, ((q12 3).val 0), ((q13 5).val 0)] 108)) OW ?_
 clear OW; intro q13 _ Wq13 OW; simp only [↓pc, ↓pn, vE, Hint.val, Act.put, eL]
 gi_wp2
 exact leafE HS HH OW [.s ([.int .i64 r, .int .i64 s, .int .i64 n, .int .i64 m, .int .i64 c, .int .i64 mode, v6, v7, ((q2 3).val 0), .int .i64 0, .int .i64 0, .int .i64 0, .int .i64 0, .int .i64 0, .int .i64 0, ((q11 4).val 0), v16, v17, ((q12 3).val 0), ((q13 5).val 0)]) 10] (.l [] [] [v6, ((q2 3).val 0), ((q11 4).val 0), ((q12 3).val 0), ((q13 5).val 0), (q2 3).val 0, (q11 4).val 0, (q12 3).val 0, (q13 5).val 0]) [0, 2, 3, 6, 7] [(1, 1), (4, 4), (5, 5)] rfl (by kernel_rfl) (by simp only [wrC]; (repeat (first | rw [hB4] | rw [cond_true] | rw [cond_false])); kernel_rfl)
theorem qwrite (r s n m c mode : Int) (v6 v7 v8 v15 v16 v17 v18 v19 : Value) (cl : List Ce) (la co : List Fa) (gl : List Ce) (ga go : List Fa) (mk : List Int) (l : List Ac) (i : Int) (b : List UInt8) (lb : b.length = 72) (on : Bool) (hb : ∀ f ∈ co, PlB f) (hc : cl.length ≤ 90000) (hg : gl.length ≤ 90000) (hk : mk.length ≤ 90000) (hl : l.length ≤ 90000) : Con Try.prog 91 #[.agg #[.int .i64 r, .int .i64 s, .int .i64 n, .int .i64 m, .int .i64 c, .int .i64 mode, v6, v7, v8, .int .i64 0, .int .i64 0, .int .i64 0, .int .i64 0, .int .i64 0, .int .i64 0, v15, v16, v17, v18, v19], .int .i64 i, .agg (rB 72 b).toArray, .bool on] [.p (SqE eCe v6 cl), .p (SqE eFa v7 la), .p (SqE eFa v8 co), .p (SqE eCe v15 gl), .p (SqE eFa v16 ga), .p (SqE eFa v17 go), .p (SqE eI v18 mk), .p (SqE eAc v19 l)] [0, 2, 3, 6, 7] (fun E => [.p (SqE eCe (E.val 0) (wrC cl co i b)), .p (SqE eFa (E.val 1) (rwent_2 co)), .p (SqE eCe (E.val 2) (putC gl i b)), .p (SqE eI (E.val 3) (markT mk i on)), .p (SqE eAc (E.val 4) (l ++ [⟨true, i, rwent_0 co i, rwent_1 co, 0, false⟩]))]) (fun E => .agg #[.int .i64 r, .int .i64 s, .int .i64 n, .int .i64 m, .int .i64 c, .int .i64 mode, (E.val 0), v7, (E.val 1), .int .i64 0, .int .i64 0, .int .i64 0, .int .i64 0, .int .i64 0, .int .i64 0, (E.val 2), v16, v17, (E.val 3), (E.val 4)]) :=
 Con.ro 5 rfl (fun bq5 hq5 => Con.ro 4 rfl (fun bq4 hq4 => Con.ro 1 rfl (fun bq1 hq1 => qwrite_c r s n m c mode v6 v7 v8 v15 v16 v17 v18 v19 cl la co gl ga go mk l i b lb on hb hc hg hk hl bq1 hq1 bq4 hq4 bq5 hq5) (enters_of Try.func91 (by kernel_rfl) rfl)) (enters_of Try.func91 (by kernel_rfl) rfl)) (enters_of Try.func91 (by kernel_rfl) rfl)
def rdT (cl : List Ce) (la co : List Fa) (mode i : Int) : List UInt8 := bif !rwent_1 co then ov11 la mode (rwent_0 co i / 1048576) (rwent_0 co i / 65536 % 16) (rwent_0 co i / 64 % 1024) (rwent_0 co i % 64) (getC cl (rwent_0 co i)) la.length else List.replicate 72 0
def qread_0 (mode : Int) (cl : List Ce) (la : List Fa) (co : List Fa) (i : Int) : List UInt8 := (bif !(rwent_1 co) then ov11 la mode ((rwent_0 co i) / 1048576) ((rwent_0 co i) / 65536 % 16) ((rwent_0 co i) / 64 % 1024) ((rwent_0 co i) % 64) (getC cl (rwent_0 co i)) la.length else List.replicate 72 0)
set_option maxRecDepth 100000 in
set_option maxHeartbeats 1000000 in
theorem qread_c (r s n m c mode : Int) (v6 v7 v8 v15 v16 v17 v18 v19 : Value) (cl : List Ce) (la co : List Fa) (gl : List Ce) (ga go : List Fa) (mk : List Int) (l : List Ac) (i : Int) (hi : 0 ≤ i) (hj : i ≤ 9223372036854775807) (hb : ∀ f ∈ co, PlB f) (hc : cl.length ≤ 90000) (hg : gl.length ≤ 90000) (hk : mk.length ≤ 90000) (hl : l.length ≤ 90000) (ha : la.length ≤ 256) (hcl : ∀ e ∈ cl, e.r.length = 72) (hgl : ∀ e ∈ gl, e.r.length = 72) (hla : ∀ f ∈ la, FaOk f) (bq0 : Objs) (hq0 : SqE eCe v6 cl bq0) (bq1 : Objs) (hq1 : SqE eFa v7 la bq1) (bq3 : Objs) (hq3 : SqE eCe v15 gl bq3) (bq4 : Objs) (hq4 : SqE eFa v16 ga bq4) (bq5 : Objs) (hq5 : SqE eFa v17 go bq5) (bq6 : Objs) (hq6 : SqE eI v18 mk bq6) : Con Try.prog 92 #[.agg #[.int .i64 r, .int .i64 s, .int .i64 n, .int .i64 m, .int .i64 c, .int .i64 mode, v6, v7, v8, .int .i64 0, .int .i64 0, .int .i64 0, .int .i64 0, .int .i64 0, .int .i64 0, v15, v16, v17, v18, v19], .int .i64 i] [.c bq0, .c bq1, .p (SqE eFa v8 co), .c bq3, .c bq4, .c bq5, .c bq6, .p (SqE eAc v19 l)] [2, 7] (fun E => [.p (SqE eFa (E.val 0) (rwent_2 co)), .p (SqE eAc (E.val 1) (l ++ [⟨false, i, rwent_0 co i, rwent_1 co, ((expo mode (rdT cl la co mode i) (getC gl (rwent_0 co i)) : Nat) : Int), (!rwent_1 co) && mkd mk (rwent_0 co i)⟩]))]) (fun E => .tuple #[.agg #[.int .i64 r, .int .i64 s, .int .i64 n, .int .i64 m, .int .i64 c, .int .i64 mode, v6, v7, (E.val 0), .int .i64 0, .int .i64 0, .int .i64 0, .int .i64 0, .int .i64 0, .int .i64 0, v15, v16, v17, v18, (E.val 1)], .agg (rB 72 (qread_0 mode cl la co i)).toArray]) := by
 refine Con.of (enters_of Try.func92 (by kernel_rfl) rfl) fun w cs HS HH OW => ?_
 obtain ⟨pn1, pn2⟩ := rw_nn hb hi hj
 have HGC := fun j => getC_len hcl j
 have HGG := fun j => getC_len hgl j
 have HOV := fun k => ov11_len la mode (rwent_0 co i / 1048576) (rwent_0 co i / 65536 % 16) (rwent_0 co i / 64 % 1024) (rwent_0 co i % 64) (HGC (rwent_0 co i)) k
 refine (callsIn_wide (n := 6)).1 ?_
 refine callsIn_of_wp_marks Try.func92 rfl trivial ?_ rfl
 simp only [Try.ntmps92, eF, Nat.reduceAdd, Nat.reduceSub]
 gi_upto_region 0 with fail
 refine rg (fun q1 => [.m (bx 8),
  .m (al 9),
  .m (al 10)]) (fun q1 L => L ++ [ob ((q1 0).blk 0) #[.int .i64 r, .int .i64 s, .int .i64 n, .int .i64 m, .int .i64 c, .int .i64 mode, v6, v7, v8, .int .i64 0, .int .i64 0, .int .i64 0, .int .i64 0, .int .i64 0, .int .i64 0, v15, v16, v17, v18, v19] 108, ob ((q1 1).blk 0) #[.int .i64 0, .int .i64 0, .int .i64 0, .int .i64 0, .int .i64 0, .int .i64 0, .slice none 0 0, .slice none 0 0, .slice none 0 0, .int .i64 0, .int .i64 0, .int .i64 0, .int .i64 0, .int .i64 0, .int .i64 0, .slice none 0 0, .slice none 0 0, .slice none 0 0, .slice none 0 0, .slice none 0 0] 108, ob ((q1 2).blk 0) (rB 72 (List.replicate 72 0)).toArray 40]) OW ?_
 clear OW; intro q1 _ Wq1 OW; simp only [↓pc, ↓pn, vE, Hint.val, Act.put, eL]
 gi_upto_region 1 with fail
 refine rg (fun q2 => [.v (.pointer (some ⟨(q1 0).blk 0, 0, none⟩)),
  .m (ls 8 ([.int .i64 r, .int .i64 s, .int .i64 n, .int .i64 m, .int .i64 c, .int .i64 mode, v6, v7, v8])),
  .v (.int .i64 i),
  .c [0, 1, 2] [2] (Con.at (rd' := [.c bq0, .c bq1, .p (SqE eFa v8 co)]) (rwent r s n m c mode v6 v7 v8 cl la co i hb) (atC hq0 (atC hq1 (atS (fun _ h => h))))),
  .v (.tuple #[.agg #[.int .i64 r, .int .i64 s, .int .i64 n, .int .i64 m, .int .i64 c, .int .i64 mode, v6, v7, ((q2 3).val 0)], .int .i64 (rwent_0 co i), .bool (rwent_1 co)]),
  .v (.agg #[.int .i64 r, .int .i64 s, .int .i64 n, .int .i64 m, .int .i64 c, .int .i64 mode, v6, v7, ((q2 3).val 0)]),
  .v (.int .i64 (rwent_0 co i)),
  .v (.bool (rwent_1 co)),
  .m (al 11),
  .m (sv 11 ((q2 8).blk 0) 0 82 ([.int .i64 r, .int .i64 s, .int .i64 n, .int .i64 m, .int .i64 c, .int .i64 mode, v6, v7, ((q2 3).val 0)]) #[.int .i64 0, .int .i64 0, .int .i64 0, .int .i64 0, .int .i64 0, .int .i64 0, .slice none 0 0, .slice none 0 0, .slice none 0 0] #[.int .i64 r, .int .i64 s, .int .i64 n, .int .i64 m, .int .i64 c, .int .i64 mode, v6, v7, ((q2 3).val 0)] [(2, .p (SqE eFa ((q2 3).val 0) (rwent_2 co)))] (by kernel_rfl) (Nat.le_of_ble_eq_true rfl) (fun c5 hc5 => (oc rfl (oc rfl (oc rfl (oc rfl (oc rfl (oc rfl (oc (SrE.one hq0.1) (oc (SrE.one hq1.1) (oc (SqE.one (hc5 _ (.head _))) on0))))))))))),
  .v (.int .i64 (rwent_0 co i)),
  .v (.bool (rwent_1 co))]) (fun q2 L => L.set 2 (.p (SqE eFa ((q2 3).val 0) (rwent_2 co))) ++ [ob ((q2 8).blk 0) #[.int .i64 r, .int .i64 s, .int .i64 n, .int .i64 m, .int .i64 c, .int .i64 mode, v6, v7, ((q2 3).val 0)] 82]) OW ?_
 clear OW; intro q2 _ Wq2 OW; simp only [↓pc, ↓pn, vE, Hint.val, Act.put, eL]
 gi_upto_region 2 with fail
 refine rg (fun q3 => [.m (ls 11 ([.int .i64 r, .int .i64 s, .int .i64 n, .int .i64 m, .int .i64 c, .int .i64 mode, v6, v7, ((q2 3).val 0)])),
  .v (.pointer (some ⟨(q1 0).blk 0, 0, none⟩)),
  .m (sv 8 ((q1 0).blk 0) 0 108 ([.int .i64 r, .int .i64 s, .int .i64 n, .int .i64 m, .int .i64 c, .int .i64 mode, v6, v7, ((q2 3).val 0)]) #[.int .i64 r, .int .i64 s, .int .i64 n, .int .i64 m, .int .i64 c, .int .i64 mode, v6, v7, v8, .int .i64 0, .int .i64 0, .int .i64 0, .int .i64 0, .int .i64 0, .int .i64 0, v15, v16, v17, v18, v19] #[.int .i64 r, .int .i64 s, .int .i64 n, .int .i64 m, .int .i64 c, .int .i64 mode, v6, v7, ((q2 3).val 0), .int .i64 0, .int .i64 0, .int .i64 0, .int .i64 0, .int .i64 0, .int .i64 0, v15, v16, v17, v18, v19] [(2, .p (SqE eFa ((q2 3).val 0) (rwent_2 co)))] (by kernel_rfl) (Nat.le_of_ble_eq_true rfl) (fun c5 hc5 => (oc rfl (oc rfl (oc rfl (oc rfl (oc rfl (oc rfl (oc (SrE.one hq0.1) (oc (SrE.one hq1.1) (oc (SqE.one (hc5 _ (.head _))) on0)))))))))))]) (fun q3 L => L.set 8 (ob ((q1 0).blk 0) #[.int .i64 r, .int .i64 s, .int .i64 n, .int .i64 m, .int .i64 c, .int .i64 mode, v6, v7, ((q2 3).val 0), .int .i64 0, .int .i64 0, .int .i64 0, .int .i64 0, .int .i64 0, .int .i64 0, v15, v16, v17, v18, v19] 108)) OW ?_
 clear OW; intro q3 _ Wq3 OW; simp only [↓pc, ↓pn, vE, Hint.val, Act.put, eL]
 gi_upto_region 3 with fail
 refine rg (fun q4 => [.m (al 12)]) (fun q4 L => L ++ [ob ((q4 0).blk 0) (rB 72 (List.replicate 72 0)).toArray 40]) OW ?_
 clear OW; intro q4 _ Wq4 OW; simp only [↓pc, ↓pn, vE, Hint.val, Act.put, eL]
 gi_upto_region 4 with fail
 refine rg (fun q5 => [.v (.bool (rwent_1 co)),
  .v (.bool (!(rwent_1 co)))]) (fun _ L => L) OW ?_
 clear OW; intro q5 _ Wq5 OW; simp only [↓pc, ↓pn, vE, Hint.val, Act.put, eL]
 cases hB6 : (!(rwent_1 co))
 case true =>
  gi_upto_region 5 with fail
  refine rg (fun q7 => [.m (ls 11 ([.int .i64 r, .int .i64 s, .int .i64 n, .int .i64 m, .int .i64 c, .int .i64 mode, v6, v7, ((q2 3).val 0)])),
   .v (.int .i64 (rwent_0 co i)),
   .c [0, 1, 2] [] (Con.at (rd' := [.c bq0, .c bq1, .p (SqE eFa ((q2 3).val 0) (rwent_2 co))]) (rlook r s n m c mode v6 v7 ((q2 3).val 0) cl la (rwent_2 co) (rwent_0 co i) pn1 pn2 (by first | omega) ha hcl hla) (atC hq0 (atC hq1 (atS (fun _ h => h))))),
   .m (ss 12)]) (fun q7 L => L.set 12 (ob ((q4 0).blk 0) (rB 72 (ov11 la mode ((rwent_0 co i) / 1048576) ((rwent_0 co i) / 65536 % 16) ((rwent_0 co i) / 64 % 1024) ((rwent_0 co i) % 64) (getC cl (rwent_0 co i)) la.length)).toArray 40)) OW ?_
  clear OW; intro q7 _ Wq7 OW; simp only [↓pc, ↓pn, vE, Hint.val, Act.put, eL]
  gi_upto_region 6 with fail
  refine rg (fun q8 => [.v (.pointer (some ⟨(q2 8).blk 0, 5, none⟩)),
   .m (ld 11 (.int .i64 mode)),
   .m (ls 12 (rB 72 (ov11 la mode ((rwent_0 co i) / 1048576) ((rwent_0 co i) / 65536 % 16) ((rwent_0 co i) / 64 % 1024) ((rwent_0 co i) % 64) (getC cl (rwent_0 co i)) la.length))),
   .v (.pointer (some ⟨(q1 0).blk 0, 9, none⟩)),
   .m (ls 8 ([.int .i64 0, .int .i64 0, .int .i64 0, .int .i64 0, .int .i64 0, .int .i64 0, v15, v16, v17])),
   .v (.int .i64 (rwent_0 co i)),
   .c [3] [] (Con.at (rd' := [.c bq3]) (rget 0 0 0 0 0 0 v15 v16 v17 gl (rwent_0 co i) (by omega)) (atC hq3 (fun _ h => h))),
   .c [] [] (show Con _ 29 #[.int .i64 mode, .agg (rB 72 (ov11 la mode ((rwent_0 co i) / 1048576) ((rwent_0 co i) / 65536 % 16) ((rwent_0 co i) / 64 % 1024) ((rwent_0 co i) % 64) (getC cl (rwent_0 co i)) la.length)).toArray, .agg (rB 72 (getC gl (rwent_0 co i))).toArray] _ _ _ fun _ => .int .i64 ((expo mode (ov11 la mode ((rwent_0 co i) / 1048576) ((rwent_0 co i) / 65536 % 16) ((rwent_0 co i) / 64 % 1024) ((rwent_0 co i) % 64) (getC cl (rwent_0 co i)) la.length) (getC gl (rwent_0 co i)) : Nat) : Int) from conB (enters_of Try.func29 (by kernel_rfl) rfl) fun w' => (by rw [rB_raw (n := 72) (xs := ov11 la mode ((rwent_0 co i) / 1048576) ((rwent_0 co i) / 65536 % 16) ((rwent_0 co i) / 64 % 1024) ((rwent_0 co i) % 64) (getC cl (rwent_0 co i)) la.length) (show (ov11 la mode ((rwent_0 co i) / 1048576) ((rwent_0 co i) / 65536 % 16) ((rwent_0 co i) / 64 % 1024) ((rwent_0 co i) % 64) (getC cl (rwent_0 co i)) la.length).length = 72 by first | rfl | (simp only [List.length_set, List.length_append, List.length_replicate, List.length_cons, List.length_nil, List.length_map, List.length_range, List.length_take, List.length_drop, HGC, HGG, HOV]; done) | (simp only [List.length_set, List.length_append, List.length_replicate, List.length_cons, List.length_nil, List.length_map, List.length_range, List.length_take, List.length_drop, HGC, HGG, HOV]; omega)), rB_raw (n := 72) (xs := getC gl (rwent_0 co i)) (show (getC gl (rwent_0 co i)).length = 72 by first | rfl | (simp only [List.length_set, List.length_append, List.length_replicate, List.length_cons, List.length_nil, List.length_map, List.length_range, List.length_take, List.length_drop, HGC, HGG, HOV]; done) | (simp only [List.length_set, List.length_append, List.length_replicate, List.length_cons, List.length_nil, List.length_map, List.length_range, List.length_take, List.length_drop, HGC, HGG, HOV]; omega))]; exact refExp_any mode (ov11 la mode ((rwent_0 co i) / 1048576) ((rwent_0 co i) / 65536 % 16) ((rwent_0 co i) / 64 % 1024) ((rwent_0 co i) % 64) (getC cl (rwent_0 co i)) la.length) (getC gl (rwent_0 co i)) (by first | rfl | (simp only [List.length_set, List.length_append, List.length_replicate, List.length_cons, List.length_nil, List.length_map, List.length_range, List.length_take, List.length_drop, HGC, HGG, HOV]; done) | (simp only [List.length_set, List.length_append, List.length_replicate, List.length_cons, List.length_nil, List.length_map, List.length_range, List.length_take, List.length_drop, HGC, HGG, HOV]; omega)) (by first | rfl | (simp only [List.length_set, List.length_append, List.length_replicate, List.length_cons, List.length_nil, List.length_map, List.length_range, List.length_take, List.length_drop, HGC, HGG, HOV]; done) | (simp only [List.length_set, List.length_append, List.length_replicate, List.length_cons, List.length_nil, List.length_map, List.length_range, List.length_take, List.length_drop, HGC, HGG, HOV]; omega)) _)),
   .v (.int .i64 ((expo mode (ov11 la mode ((rwent_0 co i) / 1048576) ((rwent_0 co i) / 65536 % 16) ((rwent_0 co i) / 64 % 1024) ((rwent_0 co i) % 64) (getC cl (rwent_0 co i)) la.length) (getC gl (rwent_0 co i)) : Nat) : Int))]) (fun _ L => L) OW ?_
  clear OW; intro q8 _ Wq8 OW; simp only [↓pc, ↓pn, vE, Hint.val, Act.put, eL]
  gi_upto_region 7 with fail
  refine rg (fun q9 => [.m (ls 8 ([.int .i64 r, .int .i64 s, .int .i64 n, .int .i64 m, .int .i64 c, .int .i64 mode, v6, v7, ((q2 3).val 0), .int .i64 0, .int .i64 0, .int .i64 0, .int .i64 0, .int .i64 0, .int .i64 0, v15, v16, v17, v18, v19])),
   .v (.int .i64 i),
   .v (.int .i64 (rwent_0 co i)),
   .v (.bool (rwent_1 co)),
   .v (.int .i64 ((expo mode (ov11 la mode ((rwent_0 co i) / 1048576) ((rwent_0 co i) / 65536 % 16) ((rwent_0 co i) / 64 % 1024) ((rwent_0 co i) % 64) (getC cl (rwent_0 co i)) la.length) (getC gl (rwent_0 co i)) : Nat) : Int)),
   .v (.bool (rwent_1 co)),
   .v (.bool (!(rwent_1 co))),
   .v (.bool (!(rwent_1 co))),
   .m (ls 8 ([.int .i64 r, .int .i64 s, .int .i64 n, .int .i64 m, .int .i64 c, .int .i64 mode, v6, v7, ((q2 3).val 0), .int .i64 0, .int .i64 0, .int .i64 0, .int .i64 0, .int .i64 0, .int .i64 0, v15, v16, v17, v18, v19])),
   .v (.int .i64 (rwent_0 co i)),
   .c [0, 1, 2, 3, 4, 5, 6, 7] [] (Con.at (rd' := [.c bq0, .c bq1, .p (SqE eFa ((q2 3).val 0) (rwent_2 co)), .c bq3, .c bq4, .c bq5, .c bq6, .p (SqE eAc v19 l)]) (qmarked r s n m c mode v6 v7 ((q2 3).val 0) v15 v16 v17 v18 v19 cl la (rwent_2 co) gl ga go mk l (rwent_0 co i) (by omega)) (atC hq0 (atC hq1 (atS (atC hq3 (atC hq4 (atC hq5 (atC hq6 (atS (fun _ h => h)))))))))),
   .k (.bool ((!(rwent_1 co)) && (mkd mk (rwent_0 co i)))),
   .v (.agg #[.bool false, .int .i64 i, .int .i64 (rwent_0 co i), .bool (rwent_1 co), .int .i64 ((expo mode (ov11 la mode ((rwent_0 co i) / 1048576) ((rwent_0 co i) / 65536 % 16) ((rwent_0 co i) / 64 % 1024) ((rwent_0 co i) % 64) (getC cl (rwent_0 co i)) la.length) (getC gl (rwent_0 co i)) : Nat) : Int), .bool ((!(rwent_1 co)) && (mkd mk (rwent_0 co i)))]),
   .c [0, 1, 2, 3, 4, 5, 6, 7] [7] (Con.at (rd' := [.c bq0, .c bq1, .p (SqE eFa ((q2 3).val 0) (rwent_2 co)), .c bq3, .c bq4, .c bq5, .c bq6, .p (SqE eAc v19 l)]) (qadd r s n m c mode v6 v7 ((q2 3).val 0) v15 v16 v17 v18 v19 cl la (rwent_2 co) gl ga go mk l (⟨false, i, (rwent_0 co i), (rwent_1 co), ((expo mode (ov11 la mode ((rwent_0 co i) / 1048576) ((rwent_0 co i) / 65536 % 16) ((rwent_0 co i) / 64 % 1024) ((rwent_0 co i) % 64) (getC cl (rwent_0 co i)) la.length) (getC gl (rwent_0 co i)) : Nat) : Int), (!(rwent_1 co)) && (mkd mk (rwent_0 co i))⟩ : Ac) (by omega)) (atC hq0 (atC hq1 (atS (atC hq3 (atC hq4 (atC hq5 (atC hq6 (atS (fun _ h => h)))))))))),
   .m (ls 12 (rB 72 (ov11 la mode ((rwent_0 co i) / 1048576) ((rwent_0 co i) / 65536 % 16) ((rwent_0 co i) / 64 % 1024) ((rwent_0 co i) % 64) (getC cl (rwent_0 co i)) la.length))),
   .m (sv 9 ((q1 1).blk 0) 0 108 ([.int .i64 r, .int .i64 s, .int .i64 n, .int .i64 m, .int .i64 c, .int .i64 mode, v6, v7, ((q2 3).val 0), .int .i64 0, .int .i64 0, .int .i64 0, .int .i64 0, .int .i64 0, .int .i64 0, v15, v16, v17, v18, ((q9 13).val 0)]) #[.int .i64 0, .int .i64 0, .int .i64 0, .int .i64 0, .int .i64 0, .int .i64 0, .slice none 0 0, .slice none 0 0, .slice none 0 0, .int .i64 0, .int .i64 0, .int .i64 0, .int .i64 0, .int .i64 0, .int .i64 0, .slice none 0 0, .slice none 0 0, .slice none 0 0, .slice none 0 0, .slice none 0 0] #[.int .i64 r, .int .i64 s, .int .i64 n, .int .i64 m, .int .i64 c, .int .i64 mode, v6, v7, ((q2 3).val 0), .int .i64 0, .int .i64 0, .int .i64 0, .int .i64 0, .int .i64 0, .int .i64 0, v15, v16, v17, v18, ((q9 13).val 0)] [(2, .p (SqE eFa ((q2 3).val 0) (rwent_2 co))), (7, .p (SqE eAc ((q9 13).val 0) (l ++ [(⟨false, i, (rwent_0 co i), (rwent_1 co), ((expo mode (ov11 la mode ((rwent_0 co i) / 1048576) ((rwent_0 co i) / 65536 % 16) ((rwent_0 co i) / 64 % 1024) ((rwent_0 co i) % 64) (getC cl (rwent_0 co i)) la.length) (getC gl (rwent_0 co i)) : Nat) : Int), (!(rwent_1 co)) && (mkd mk (rwent_0 co i))⟩ : Ac)])))] (by kernel_rfl) (Nat.le_of_ble_eq_true rfl) (fun c5 hc5 => (oc rfl (oc rfl (oc rfl (oc rfl (oc rfl (oc rfl (oc (SrE.one hq0.1) (oc (SrE.one hq1.1) (oc (SqE.one (hc5 _ (.head _))) (oc rfl (oc rfl (oc rfl (oc rfl (oc rfl (oc rfl (oc (SrE.one hq3.1) (oc (SrE.one hq4.1) (oc (SrE.one hq5.1) (oc (SrE.one hq6.1) (oc (SqE.one (hc5 _ (.tail _ (.head _)))) on0)))))))))))))))))))))),
   .m (ss 10)]) (fun q9 L => ((L.set 7 (.p (SqE eAc ((q9 13).val 0) (l ++ [(⟨false, i, (rwent_0 co i), (rwent_1 co), ((expo mode (ov11 la mode ((rwent_0 co i) / 1048576) ((rwent_0 co i) / 65536 % 16) ((rwent_0 co i) / 64 % 1024) ((rwent_0 co i) % 64) (getC cl (rwent_0 co i)) la.length) (getC gl (rwent_0 co i)) : Nat) : Int), (!(rwent_1 co)) && (mkd mk (rwent_0 co i))⟩ : Ac)])))).set 9 (ob ((q1 1).blk 0) #[.int .i64 r, .int .i64 s, .int .i64 n, .int .i64 m, .int .i64 c, .int .i64 mode, v6, v7, ((q2 3).val 0), .int .i64 0, .int .i64 0, .int .i64 0, .int .i64 0, .int .i64 0, .int .i64 0, v15, v16, v17, v18, ((q9 13).val 0)] 108)).set 10 (ob ((q1 2).blk 0) (rB 72 (ov11 la mode ((rwent_0 co i) / 1048576) ((rwent_0 co i) / 65536 % 16) ((rwent_0 co i) / 64 % 1024) ((rwent_0 co i) % 64) (getC cl (rwent_0 co i)) la.length)).toArray 40)) OW ?_
  clear OW; intro q9 _ Wq9 OW; simp only [↓pc, ↓pn, vE, Hint.val, Act.put, eL]
  gi_wp2
  exact leafE HS HH OW [.s ([.int .i64 r, .int .i64 s, .int .i64 n, .int .i64 m, .int .i64 c, .int .i64 mode, v6, v7, ((q2 3).val 0), .int .i64 0, .int .i64 0, .int .i64 0, .int .i64 0, .int .i64 0, .int .i64 0, v15, v16, v17, v18, ((q9 13).val 0)]) 9, .s (rB 72 (ov11 la mode ((rwent_0 co i) / 1048576) ((rwent_0 co i) / 65536 % 16) ((rwent_0 co i) / 64 % 1024) ((rwent_0 co i) % 64) (getC cl (rwent_0 co i)) la.length)) 10] (.l [] [] [((q2 3).val 0), ((q9 13).val 0), (q2 3).val 0, (q9 13).val 0]) [2, 7] [(0, 0), (1, 1), (3, 3), (4, 4), (5, 5), (6, 6)] (by (try simp only [qread_0]); (repeat (first | rw [hB6] | rw [cond_true] | rw [cond_false])); first | rfl | kernel_rfl) (by kernel_rfl) (by simp only [rdT]; (try simp only [qread_0]); (repeat (first | rw [hB6] | rw [cond_true] | rw [cond_false])); kernel_rfl)
 gi_upto_region 6 with fail
 refine rg (fun q10 => [.v (.pointer (some ⟨(q2 8).blk 0, 5, none⟩)),
  .m (ld 11 (.int .i64 mode)),
  .m (ls 12 (rB 72 (List.replicate 72 0))),
  .v (.pointer (some ⟨(q1 0).blk 0, 9, none⟩)),
  .m (ls 8 ([.int .i64 0, .int .i64 0, .int .i64 0, .int .i64 0, .int .i64 0, .int .i64 0, v15, v16, v17])),
  .v (.int .i64 (rwent_0 co i)),
  .c [3] [] (Con.at (rd' := [.c bq3]) (rget 0 0 0 0 0 0 v15 v16 v17 gl (rwent_0 co i) (by omega)) (atC hq3 (fun _ h => h))),
  .c [] [] (show Con _ 29 #[.int .i64 mode, .agg (rB 72 (List.replicate 72 0)).toArray, .agg (rB 72 (getC gl (rwent_0 co i))).toArray] _ _ _ fun _ => .int .i64 ((expo mode (List.replicate 72 0) (getC gl (rwent_0 co i)) : Nat) : Int) from conB (enters_of Try.func29 (by kernel_rfl) rfl) fun w' => (by rw [rB_raw (n := 72) (xs := List.replicate 72 0) List.length_replicate, rB_raw (n := 72) (xs := getC gl (rwent_0 co i)) (show (getC gl (rwent_0 co i)).length = 72 by first | rfl | (simp only [List.length_set, List.length_append, List.length_replicate, List.length_cons, List.length_nil, List.length_map, List.length_range, List.length_take, List.length_drop, HGC, HGG, HOV]; done) | (simp only [List.length_set, List.length_append, List.length_replicate, List.length_cons, List.length_nil, List.length_map, List.length_range, List.length_take, List.length_drop, HGC, HGG, HOV]; omega))]; exact refExp_any mode (List.replicate 72 0) (getC gl (rwent_0 co i)) List.length_replicate (by first | rfl | (simp only [List.length_set, List.length_append, List.length_replicate, List.length_cons, List.length_nil, List.length_map, List.length_range, List.length_take, List.length_drop, HGC, HGG, HOV]; done) | (simp only [List.length_set, List.length_append, List.length_replicate, List.length_cons, List.length_nil, List.length_map, List.length_range, List.length_take, List.length_drop, HGC, HGG, HOV]; omega)) _)),
  .v (.int .i64 ((expo mode (List.replicate 72 0) (getC gl (rwent_0 co i)) : Nat) : Int))]) (fun _ L => L) OW ?_
 clear OW; intro q10 _ Wq10 OW; simp only [↓pc, ↓pn, vE, Hint.val, Act.put, eL]
 gi_upto_region 7 with fail
 refine rg (fun q11 => [.m (ls 8 ([.int .i64 r, .int .i64 s, .int .i64 n, .int .i64 m, .int .i64 c, .int .i64 mode, v6, v7, ((q2 3).val 0), .int .i64 0, .int .i64 0, .int .i64 0, .int .i64 0, .int .i64 0, .int .i64 0, v15, v16, v17, v18, v19])),
  .v (.int .i64 i),
  .v (.int .i64 (rwent_0 co i)),
  .v (.bool (rwent_1 co)),
  .v (.int .i64 ((expo mode (List.replicate 72 0) (getC gl (rwent_0 co i)) : Nat) : Int)),
  .v (.bool (rwent_1 co)),
  .v (.bool (!(rwent_1 co))),
  .v (.bool (!(rwent_1 co))),
  .m (ls 8 ([.int .i64 r, .int .i64 s, .int .i64 n, .int .i64 m, .int .i64 c, .int .i64 mode, v6, v7, ((q2 3).val 0), .int .i64 0, .int .i64 0, .int .i64 0, .int .i64 0, .int .i64 0, .int .i64 0, v15, v16, v17, v18, v19])),
  .v (.int .i64 (rwent_0 co i)),
  .c [0, 1, 2, 3, 4, 5, 6, 7] [] (Con.at (rd' := [.c bq0, .c bq1, .p (SqE eFa ((q2 3).val 0) (rwent_2 co)), .c bq3, .c bq4, .c bq5, .c bq6, .p (SqE eAc v19 l)]) (qmarked r s n m c mode v6 v7 ((q2 3).val 0) v15 v16 v17 v18 v19 cl la (rwent_2 co) gl ga go mk l (rwent_0 co i) (by omega)) (atC hq0 (atC hq1 (atS (atC hq3 (atC hq4 (atC hq5 (atC hq6 (atS (fun _ h => h)))))))))),
  .k (.bool ((!(rwent_1 co)) && (mkd mk (rwent_0 co i)))),
  .v (.agg #[.bool false, .int .i64 i, .int .i64 (rwent_0 co i), .bool (rwent_1 co), .int .i64 ((expo mode (List.replicate 72 0) (getC gl (rwent_0 co i)) : Nat) : Int), .bool ((!(rwent_1 co)) && (mkd mk (rwent_0 co i)))]),
  .c [0, 1, 2, 3, 4, 5, 6, 7] [7] (Con.at (rd' := [.c bq0, .c bq1, .p (SqE eFa ((q2 3).val 0) (rwent_2 co)), .c bq3, .c bq4, .c bq5, .c bq6, .p (SqE eAc v19 l)]) (qadd r s n m c mode v6 v7 ((q2 3).val 0) v15 v16 v17 v18 v19 cl la (rwent_2 co) gl ga go mk l (⟨false, i, (rwent_0 co i), (rwent_1 co), ((expo mode (List.replicate 72 0) (getC gl (rwent_0 co i)) : Nat) : Int), (!(rwent_1 co)) && (mkd mk (rwent_0 co i))⟩ : Ac) (by omega)) (atC hq0 (atC hq1 (atS (atC hq3 (atC hq4 (atC hq5 (atC hq6 (atS (fun _ h => h)))))))))),
  .m (ls 12 (rB 72 (List.replicate 72 0))),
  .m (sv 9 ((q1 1).blk 0) 0 108 ([.int .i64 r, .int .i64 s, .int .i64 n, .int .i64 m, .int .i64 c, .int .i64 mode, v6, v7, ((q2 3).val 0), .int .i64 0, .int .i64 0, .int .i64 0, .int .i64 0, .int .i64 0, .int .i64 0, v15, v16, v17, v18, ((q11 13).val 0)]) #[.int .i64 0, .int .i64 0, .int .i64 0, .int .i64 0, .int .i64 0, .int .i64 0, .slice none 0 0, .slice none 0 0, .slice none 0 0, .int .i64 0, .int .i64 0, .int .i64 0, .int .i64 0, .int .i64 0, .int .i64 0, .slice none 0 0, .slice none 0 0, .slice none 0 0, .slice none 0 0, .slice none 0 0] #[.int .i64 r, .int .i64 s, .int .i64 n, .int .i64 m, .int .i64 c, .int .i64 mode, v6, v7, ((q2 3).val 0), .int .i64 0, .int .i64 0, .int .i64 0, .int .i64 0, .int .i64 0, .int .i64 0, v15, v16, v17, v18, ((q11 13).val 0)] [(2, .p (SqE eFa ((q2 3).val 0) (rwent_2 co))), (7, .p (SqE eAc ((q11 13).val 0) (l ++ [(⟨false, i, (rwent_0 co i), (rwent_1 co), ((expo mode (List.replicate 72 0) (getC gl (rwent_0 co i)) : Nat) : Int), (!(rwent_1 co)) && (mkd mk (rwent_0 co i))⟩ : Ac)])))] (by kernel_rfl) (Nat.le_of_ble_eq_true rfl) (fun c5 hc5 => (oc rfl (oc rfl (oc rfl (oc rfl (oc rfl (oc rfl (oc (SrE.one hq0.1) (oc (SrE.one hq1.1) (oc (SqE.one (hc5 _ (.head _))) (oc rfl (oc rfl (oc rfl (oc rfl (oc rfl (oc rfl (oc (SrE.one hq3.1) (oc (SrE.one hq4.1) (oc (SrE.one hq5.1) (oc (SrE.one hq6.1) (oc (SqE.one (hc5 _ (.tail _ (.head _)))) on0)))))))))))))))))))))),
  .m (ss 10)]) (fun q11 L => (L.set 7 (.p (SqE eAc ((q11 13).val 0) (l ++ [(⟨false, i, (rwent_0 co i), (rwent_1 co), ((expo mode (List.replicate 72 0) (getC gl (rwent_0 co i)) : Nat) : Int), (!(rwent_1 co)) && (mkd mk (rwent_0 co i))⟩ : Ac)])))).set 9 (ob ((q1 1).blk 0) #[.int .i64 r, .int .i64 s, .int .i64 n, .int .i64 m, .int .i64 c, .int .i64 mode, v6, v7, ((q2 3).val 0), .int .i64 0, .int .i64 0, .int .i64 0, .int .i64 0, .int .i64 0, .int .i64 0, v15, v16, v17, v18, ((q11 13).val 0)] 108)) OW ?_
 clear OW; intro q11 _ Wq11 OW; simp only [↓pc, ↓pn, vE, Hint.val, Act.put, eL]
 gi_wp2
 exact leafE HS HH OW [.s ([.int .i64 r, .int .i64 s, .int .i64 n, .int .i64 m, .int .i64 c, .int .i64 mode, v6, v7, ((q2 3).val 0), .int .i64 0, .int .i64 0, .int .i64 0, .int .i64 0, .int .i64 0, .int .i64 0, v15, v16, v17, v18, ((q11 13).val 0)]) 9, .s (rB 72 (List.replicate 72 0)) 10] (.l [] [] [((q2 3).val 0), ((q11 13).val 0), (q2 3).val 0, (q11 13).val 0]) [2, 7] [(0, 0), (1, 1), (3, 3), (4, 4), (5, 5), (6, 6)] (by (try simp only [qread_0]); (repeat (first | rw [hB6] | rw [cond_true] | rw [cond_false])); first | rfl | kernel_rfl) (by kernel_rfl) (by simp only [rdT]; (try simp only [qread_0]); (repeat (first | rw [hB6] | rw [cond_true] | rw [cond_false])); kernel_rfl)
theorem qread (r s n m c mode : Int) (v6 v7 v8 v15 v16 v17 v18 v19 : Value) (cl : List Ce) (la co : List Fa) (gl : List Ce) (ga go : List Fa) (mk : List Int) (l : List Ac) (i : Int) (hi : 0 ≤ i) (hj : i ≤ 9223372036854775807) (hb : ∀ f ∈ co, PlB f) (hc : cl.length ≤ 90000) (hg : gl.length ≤ 90000) (hk : mk.length ≤ 90000) (hl : l.length ≤ 90000) (ha : la.length ≤ 256) (hcl : ∀ e ∈ cl, e.r.length = 72) (hgl : ∀ e ∈ gl, e.r.length = 72) (hla : ∀ f ∈ la, FaOk f) : Con Try.prog 92 #[.agg #[.int .i64 r, .int .i64 s, .int .i64 n, .int .i64 m, .int .i64 c, .int .i64 mode, v6, v7, v8, .int .i64 0, .int .i64 0, .int .i64 0, .int .i64 0, .int .i64 0, .int .i64 0, v15, v16, v17, v18, v19], .int .i64 i] [.p (SqE eCe v6 cl), .p (SqE eFa v7 la), .p (SqE eFa v8 co), .p (SqE eCe v15 gl), .p (SqE eFa v16 ga), .p (SqE eFa v17 go), .p (SqE eI v18 mk), .p (SqE eAc v19 l)] [2, 7] (fun E => [.p (SqE eFa (E.val 0) (rwent_2 co)), .p (SqE eAc (E.val 1) (l ++ [⟨false, i, rwent_0 co i, rwent_1 co, ((expo mode (rdT cl la co mode i) (getC gl (rwent_0 co i)) : Nat) : Int), (!rwent_1 co) && mkd mk (rwent_0 co i)⟩]))]) (fun E => .tuple #[.agg #[.int .i64 r, .int .i64 s, .int .i64 n, .int .i64 m, .int .i64 c, .int .i64 mode, v6, v7, (E.val 0), .int .i64 0, .int .i64 0, .int .i64 0, .int .i64 0, .int .i64 0, .int .i64 0, v15, v16, v17, v18, (E.val 1)], .agg (rB 72 (qread_0 mode cl la co i)).toArray]) :=
 Con.ro 6 rfl (fun bq6 hq6 => Con.ro 5 rfl (fun bq5 hq5 => Con.ro 4 rfl (fun bq4 hq4 => Con.ro 3 rfl (fun bq3 hq3 => Con.ro 1 rfl (fun bq1 hq1 => Con.ro 0 rfl (fun bq0 hq0 => qread_c r s n m c mode v6 v7 v8 v15 v16 v17 v18 v19 cl la co gl ga go mk l i hi hj hb hc hg hk hl ha hcl hgl hla bq0 hq0 bq1 hq1 bq3 hq3 bq4 hq4 bq5 hq5 bq6 hq6) (enters_of Try.func92 (by kernel_rfl) rfl)) (enters_of Try.func92 (by kernel_rfl) rfl)) (enters_of Try.func92 (by kernel_rfl) rfl)) (enters_of Try.func92 (by kernel_rfl) rfl)) (enters_of Try.func92 (by kernel_rfl) rfl)) (enters_of Try.func92 (by kernel_rfl) rfl)
end Go.Proofs.Ytckhkagkpldoiaa.E
