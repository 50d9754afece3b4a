/- DramStrays, walked. -/
import Derived.Test.YtckhkagkpldoiaaDrH
import Derived.Test.YtckhkagkpldoiaaDrS
import Derived.Test.YtckhkagkpldoiaaEeE
import Derived.WalkKit
import Derived.Sort.CutIn
import Derived.IntWalk
namespace Go.Proofs.Ytckhkagkpldoiaa.E
open Go Go.RowKit Go.Shelf
attribute [local go_sem] Oper.semAt_some
set_option linter.unusedVariables false
set_option linter.unusedSimpArgs false

attribute [local irreducible] fapply ovF gat_0 gat_1 gat_2 gat_3 gat_4 gindex_0 gindex_1 dadd_0 dadd_1 fright flipI flasts flies fnarrow fcovers dInject_0 injD wrD rdD dWrite_0 dWrite_1 dWrite_2 dRead_0 dRead_1 dRead_2 dRead_3
def dtouch_0 (D : Dr) (i : Int) (b : Bool) : Int := (bif b then (dRead_1 D i) else (dWrite_0 D i))
def dtouch_1 (D : Dr) (i : Int) (b : Bool) : Bool := (bif b then (dRead_2 D i) else (dWrite_1 D i))
def dtouch_2 (D : Dr) (i : Int) (b : Bool) : Int := (bif b then (dRead_3 D i) else (dWrite_2 D i))
def dtouch_3 (g : Nat) (D : Dr) (i : Int) (b : Bool) : Objs → Prop := (bif b then PkE (DramS g (rdD D i)) else PkE (DramS g (wrD D i (List.replicate 72 0))))
set_option maxRecDepth 100000 in
set_option maxHeartbeats 1000000 in
theorem dtouch (g : Nat) (D : Dr) (i : Int) (b : Bool) (hD : DrOk D) : Con Try.prog 38 #[.pointer (some ⟨g, 0, none⟩), .int .i64 i, .bool b] [.p (PkE (DramS g D))] [0] (fun _ => [.p (PkE (DramS g (thD D i b)))]) (fun _ => .tuple #[.agg #[.int .i64 (dtouch_0 D i b), .bool (dtouch_1 D i b)], .int .i64 (dtouch_2 D i b)]) := by
 refine Con.of (enters_of Try.func38 (by kernel_rfl) rfl) fun w cs HS HH OW => ?_
 refine (callsIn_wide (n := 6)).1 ?_
 refine callsIn_of_wp_marks Try.func38 rfl trivial ?_ rfl
 simp only [Try.ntmps38, eF, Nat.reduceAdd, Nat.reduceSub]
 gi_upto_region 0 with fail
 refine rg (fun q1 => [.m (al 1),
  .v (.int .i64 0)]) (fun q1 L => L ++ [ob ((q1 0).blk 0) #[.int .i64 0, .bool false] 60]) OW ?_
 clear OW; intro q1 _ Wq1 OW; simp only [↓pc, ↓pn, vE, Hint.val, Act.put, eL]
 gi_upto_region 1 with fail
 refine rg (fun q2 => [.v (.bool b)]) (fun _ L => L) OW ?_
 clear OW; intro q2 _ Wq2 OW; simp only [↓pc, ↓pn, vE, Hint.val, Act.put, eL]
 cases hB3 : (b)
 case true =>
  gi_upto_region 2 with fail
  refine rg (fun q4 => [.v (.pointer (some ⟨g, 0, none⟩)),
   .v (.int .i64 i),
   .c [0] [0] (dRead g D i hD),
   .v (.tuple #[.agg (rB 72 (dRead_0 D i)).toArray, .agg #[.int .i64 (dRead_1 D i), .bool (dRead_2 D i)], .int .i64 (dRead_3 D i)]),
   .v (.agg (rB 72 (dRead_0 D i)).toArray),
   .v (.agg #[.int .i64 (dRead_1 D i), .bool (dRead_2 D i)]),
   .v (.int .i64 (dRead_3 D i)),
   .m (al 2),
   .m (al 3),
   .m (ss 2),
   .m (ss 3),
   .v (.int .i64 (dRead_3 D i))]) (fun q4 L => L.set 0 (.p (PkE (DramS g (rdD D i)))) ++ [ob ((q4 7).blk 0) (rB 72 (dRead_0 D i)).toArray 41, ob ((q4 8).blk 0) #[.int .i64 (dRead_1 D i), .bool (dRead_2 D i)] 60]) OW ?_
  clear OW; intro q4 _ Wq4 OW; simp only [↓pc, ↓pn, vE, Hint.val, Act.put, eL]
  gi_upto_region 3 with fail
  refine rg (fun q5 => [.m (ls 3 ([.int .i64 (dRead_1 D i), .bool (dRead_2 D i)])),
   .v (.int .i64 (dRead_3 D i)),
   .m (ss 1),
   .v (.int .i64 (dRead_3 D i))]) (fun q5 L => L.set 1 (ob ((q1 0).blk 0) #[.int .i64 (dRead_1 D i), .bool (dRead_2 D i)] 60)) OW ?_
  clear OW; intro q5 _ Wq5 OW; simp only [↓pc, ↓pn, vE, Hint.val, Act.put, eL]
  gi_wp2
  exact leafE HS HH OW [.s ([.int .i64 (dRead_1 D i), .bool (dRead_2 D i)]) 1, .t (.int .i64 (dRead_3 D i))] Env.zero [0] [] (by (try simp only [dtouch_0, dtouch_1, dtouch_2, dtouch_3]); (repeat (first | rw [hB3] | rw [cond_true] | rw [cond_false])); first | rfl | kernel_rfl) (by kernel_rfl) (by simp only [thD]; (try simp only [dtouch_0, dtouch_1, dtouch_2, dtouch_3]); (repeat (first | rw [hB3] | rw [cond_true] | rw [cond_false])); kernel_rfl)
 gi_upto_region 4 with fail
 refine rg (fun q6 => [.v (.pointer (some ⟨g, 0, none⟩)),
  .v (.int .i64 i),
  .v (.agg (rB 72 (List.replicate 72 0)).toArray),
  .c [0] [0] (dWrite g D i (List.replicate 72 0) (by first | rfl | (simp only [List.length_set, List.length_append, List.length_replicate, List.length_cons, List.length_nil, List.length_map, List.length_range, List.length_take, List.length_drop]; done) | (simp only [List.length_set, List.length_append, List.length_replicate, List.length_cons, List.length_nil, List.length_map, List.length_range, List.length_take, List.length_drop]; omega)) hD),
  .v (.agg #[.int .i64 (dWrite_0 D i), .bool (dWrite_1 D i)]),
  .v (.int .i64 (dWrite_2 D i)),
  .m (ss 1),
  .v (.int .i64 (dWrite_2 D i))]) (fun q6 L => (L.set 0 (.p (PkE (DramS g (wrD D i (List.replicate 72 0)))))).set 1 (ob ((q1 0).blk 0) #[.int .i64 (dWrite_0 D i), .bool (dWrite_1 D i)] 60)) OW ?_
 clear OW; intro q6 _ Wq6 OW; simp only [↓pc, ↓pn, vE, Hint.val, Act.put, eL]
 gi_wp2
 exact leafE HS HH OW [.s ([.int .i64 (dWrite_0 D i), .bool (dWrite_1 D i)]) 1, .t (.int .i64 (dWrite_2 D i))] Env.zero [0] [] (by (try simp only [dtouch_0, dtouch_1, dtouch_2, dtouch_3]); (repeat (first | rw [hB3] | rw [cond_true] | rw [cond_false])); first | rfl | kernel_rfl) (by kernel_rfl) (by simp only [thD]; (try simp only [dtouch_0, dtouch_1, dtouch_2, dtouch_3]); (repeat (first | rw [hB3] | rw [cond_true] | rw [cond_false])); kernel_rfl)
/-- What an access answers. -/
theorem touch_at {D : Dr} {i : Int} (b : Bool) (hi : gat_4 D.g0 D.g1 D.g2 D.g3 D.g4 i = 0) (h : dwent_1 D = true ∨ gat_4 D.g0 D.g1 D.g2 D.g3 D.g4 (dwent_0 D i) = 0) : dtouch_0 D i b = dwent_0 D i ∧ dtouch_1 D i b = dwent_1 D ∧ dtouch_2 D i b = 0 := by
  unfold dtouch_0 dtouch_1 dtouch_2 dRead_1 dRead_2 dRead_3 dWrite_0 dWrite_1 dWrite_2 dLook_1
  rw [hi]
  cases b
  · exact ⟨rfl, rfl, rfl⟩
  · refine ⟨rfl, rfl, ?_⟩
    rcases h with h | h
    · rw [h]; rfl
    · rw [dw_come]
      show (bif (0 : Int) != 0 then (0 : Int) else bif dwent_1 D then 0 else bif gat_4 D.g0 D.g1 D.g2 D.g3 D.g4 (dwent_0 D i) != 0 then gat_4 D.g0 D.g1 D.g2 D.g3 D.g4 (dwent_0 D i) else 0) = 0
      rw [h]
      cases dwent_1 D <;> rfl
theorem strays_at {D0 D : Dr} {w : List Fa} {j : Nat} (h : SI D0 D (w.drop j)) (hr : ∀ f ∈ w, frF D0 f = true) (i : Int) (hi : gat_4 D0.g0 D0.g1 D0.g2 D0.g3 D0.g4 i = 0) (b : Bool) :
    (decide ((j : Int) < ((w.length : Nat) : Int)) = false → dtouch_0 D i b = i ∧ dtouch_1 D i b = false ∧ dtouch_2 D i b = 0) ∧
    (decide ((j : Int) < ((w.length : Nat) : Int)) = true → ((w.getD j zFa).x0 == 7) = true → dtouch_0 D i b = i ∧ dtouch_1 D i b = true ∧ dtouch_2 D i b = 0) ∧
    (decide ((j : Int) < ((w.length : Nat) : Int)) = true → ((w.getD j zFa).x0 == 7) = false → dtouch_0 D i b = gindex_0 D0.g0 D0.g1 D0.g2 D0.g3 D0.g4 (w.getD j zFa).x1 (w.getD j zFa).x2 (w.getD j zFa).x3 (w.getD j zFa).x4 ∧ dtouch_1 D i b = false ∧ dtouch_2 D i b = 0) := by
  obtain ⟨h1, h2, h3⟩ := went_at h hr i hi
  have hg : gat_4 D.g0 D.g1 D.g2 D.g3 D.g4 i = 0 := by rw [h.g0, h.g1, h.g2, h.g3, h.g4]; exact hi
  refine ⟨fun hj => ?_, fun hj h7 => ?_, fun hj h7 => ?_⟩
  · obtain ⟨e1, e2⟩ := h1 hj
    obtain ⟨f0, f1, f2⟩ := touch_at b hg (.inr (by rw [e2]; exact hg))
    exact ⟨f0.trans e2, f1.trans e1, f2⟩
  · obtain ⟨e1, e2⟩ := h2 hj h7
    obtain ⟨f0, f1, f2⟩ := touch_at b hg (.inl e1)
    exact ⟨f0.trans e2, f1.trans e1, f2⟩
  · obtain ⟨e1, e2, e3⟩ := h3 hj h7
    obtain ⟨f0, f1, f2⟩ := touch_at b hg (.inr (by rw [e2, h.g0, h.g1, h.g2, h.g3, h.g4]; exact e3))
    exact ⟨f0.trans e2, f1.trans e1, f2⟩
theorem strays_g {r s n m c mode i : Int} {D : Dr} {w : List Fa} (h : SI (D0 r s n m c mode) D w) (hg : gat_4 D.g0 D.g1 D.g2 D.g3 D.g4 i = 0) : gat_4 r s n m c i = 0 := by
  rw [h.g0, h.g1, h.g2, h.g3, h.g4] at hg
  exact hg
theorem strays_at0 {r s n m c mode : Int} {D : Dr} {w : List Fa} {rs : List Bool} {i : Int} (h : SI (D0 r s n m c mode) D w) (hr : ∀ f ∈ w, frF (D0 r s n m c mode) f = true) (hi : gat_4 r s n m c i = 0) (j : Nat) (b : Bool) :
    (decide ((j : Int) < ((w.length : Nat) : Int)) = false → dtouch_0 (thS D i rs j) i b = i ∧ dtouch_1 (thS D i rs j) i b = false ∧ dtouch_2 (thS D i rs j) i b = 0) ∧
    (decide ((j : Int) < ((w.length : Nat) : Int)) = true → ((w.getD j zFa).x0 == 7) = true → dtouch_0 (thS D i rs j) i b = i ∧ dtouch_1 (thS D i rs j) i b = true ∧ dtouch_2 (thS D i rs j) i b = 0) ∧
    (decide ((j : Int) < ((w.length : Nat) : Int)) = true → ((w.getD j zFa).x0 == 7) = false → dtouch_0 (thS D i rs j) i b = gindex_0 r s n m c (w.getD j zFa).x1 (w.getD j zFa).x2 (w.getD j zFa).x3 (w.getD j zFa).x4 ∧ dtouch_1 (thS D i rs j) i b = false ∧ dtouch_2 (thS D i rs j) i b = 0) :=
  strays_at (h.tcs hi rs j) hr i hi b
attribute [local irreducible] D0 thD siD siW thS dtouch_0 dtouch_1 dtouch_2
def dstrays_0 (r : Int) (s : Int) (n : Int) (m : Int) (c : Int) (mode : Int) (fs : List Fa) (i : Int) (rs : List Bool) : Bool := (bif (decide (30 < (fs.length : Int))) || (decide (60 < (rs.length : Int))) then (decide (30 < (fs.length : Int))) || (decide (60 < (rs.length : Int))) else (bif (dLook_1 (siD (D0 r s n m c mode) fs fs.length) i) != 0 then (dLook_1 (siD (D0 r s n m c mode) fs fs.length) i) == 12 else ((((thS (siD (D0 r s n m c mode) fs fs.length) i rs rs.length).coming).length : Nat) : Int) == (max ((((siW (D0 r s n m c mode) fs fs.length).length : Nat) : Int) - (rs.length : Int)) 0)))
set_option maxRecDepth 100000 in
set_option maxHeartbeats 1000000 in
theorem dstrays (r s n m c mode : Int) (v : Value) (fs : List Fa) (i : Int) (v2 : Value) (rs : List Bool) (hfs : ∀ f ∈ fs, FaOk f) (bA : Objs) (h : SrE eFa v fs bA) (h2 : SrE eT v2 rs bA) (hg : gright r s n m c = true) (hm : rightB mode = true) : Con Try.prog 10 #[.agg #[.int .i64 r, .int .i64 s, .int .i64 n, .int .i64 m, .int .i64 c], .int .i64 mode, v, .int .i64 i, v2] [.c bA] [] (fun _ => []) (fun _ => .bool (dstrays_0 r s n m c mode fs i rs)) := by
 refine Con.of (enters_of Try.func10 (by kernel_rfl) rfl) fun w cs HS HH OW => ?_
 have H0 := D0_ok r s n m c mode
 have HSt := fun k => siD_ok H0 hfs k
 have HT := fun j => thS_ok (HSt fs.length) i rs j
 have HW := fun k => siW_len (D0 r s n m c mode) fs k
 refine (callsIn_wide (n := 6)).1 ?_
 refine callsIn_of_wp_marks Try.func10 rfl trivial ?_ rfl
 simp only [Try.ntmps10, eF, Nat.reduceAdd, Nat.reduceSub]
 gi_upto_region 0 with fail
 refine rg (fun q1 => [.m (bx 1),
  .v (.bool false)]) (fun q1 L => L ++ [ob ((q1 0).blk 0) #[.int .i64 r, .int .i64 s, .int .i64 n, .int .i64 m, .int .i64 c] 27]) OW ?_
 clear OW; intro q1 _ Wq1 OW; simp only [↓pc, ↓pn, vE, Hint.val, Act.put, eL]
 gi_upto_region 1 with fail
 refine rg (fun q2 => [.c [] [] (danchor),
  .v (.bool false)]) (fun _ L => L) OW ?_
 clear OW; intro q2 _ Wq2 OW; simp only [↓pc, ↓pn, vE, Hint.val, Act.put, eL]
 gi_upto_region 3 with fail
 refine rg (fun q3 => [.m (ls 1 ([.int .i64 r, .int .i64 s, .int .i64 n, .int .i64 m, .int .i64 c])),
  .v (.int .i64 mode),
  .c [] [2] (dNew r s n m c mode hg hm),
  .v (.tuple #[.pointer (some ⟨((q3 2).blk 0), 0, none⟩), .int .i64 0]),
  .v (.pointer (some ⟨((q3 2).blk 0), 0, none⟩)),
  .v (.int .i64 0),
  .v (.pointer (some ⟨((q3 2).blk 0), 0, none⟩)),
  .v (.int .i64 0)]) (fun q3 L => L ++ [.p (PkE (DramS (((q3 2).blk 0)) (D0 r s n m c mode)))]) OW ?_
 clear OW; intro q3 _ Wq3 OW; simp only [↓pc, ↓pn, vE, Hint.val, Act.put, eL]
 gi_upto_region 4 with fail
 refine rg (fun q4 => [.v (.int .i64 0),
  .v (.bool false),
  .v (.bool false),
  .v (.pointer (some ⟨((q3 2).blk 0), 0, none⟩)),
  .v (.bool false),
  .k (.bool false),
  .v (.bool false),
  .v (v),
  .m (lenR 0 (.c bA) (cP h)),
  .v (.bool (decide (30 < (fs.length : Int)))),
  .k (.bool (decide (30 < (fs.length : Int)))),
  .v (.bool (decide (30 < (fs.length : Int)))),
  .v (v2),
  .m (lenR 0 (.c bA) (cP h2)),
  .v (.bool (decide (60 < (rs.length : Int)))),
  .k (.bool ((decide (30 < (fs.length : Int))) || (decide (60 < (rs.length : Int)))))]) (fun _ L => L) OW ?_
 clear OW; intro q4 _ Wq4 OW; simp only [↓pc, ↓pn, vE, Hint.val, Act.put, eL]
 cases hB5 : ((decide (30 < (fs.length : Int))) || (decide (60 < (rs.length : Int))))
 case true =>
  gi_upto_region 5 with fail
  refine rg (fun q6 => [.v (.pointer (some ⟨((q3 2).blk 0), 0, none⟩)),
   .v (.bool false),
   .v (.bool false),
   .v (v),
   .m (lenR 0 (.c bA) (cP h)),
   .v (.bool (decide (30 < (fs.length : Int)))),
   .k (.bool (decide (30 < (fs.length : Int)))),
   .v (.bool (decide (30 < (fs.length : Int)))),
   .v (v2),
   .m (lenR 0 (.c bA) (cP h2)),
   .v (.bool (decide (60 < (rs.length : Int)))),
   .k (.bool ((decide (30 < (fs.length : Int))) || (decide (60 < (rs.length : Int))))),
   .v (.bool ((decide (30 < (fs.length : Int))) || (decide (60 < (rs.length : Int)))))]) (fun _ L => L) OW ?_
  clear OW; intro q6 _ Wq6 OW; simp only [↓pc, ↓pn, vE, Hint.val, Act.put, eL]
  gi_wp2
  exact leafE HS HH OW [.t (.bool ((decide (30 < (fs.length : Int))) || (decide (60 < (rs.length : Int)))))] Env.zero [] [(0, 0)] (by (try simp only [dstrays_0]); (repeat (first | rw [hB5] | rw [cond_true] | rw [cond_false])); first | rfl | kernel_rfl) (by kernel_rfl) (by (try simp only [dstrays_0]); (repeat (first | rw [hB5] | rw [cond_true] | rw [cond_false])); kernel_rfl)
 gi_upto_region 6 with fail
 refine rg (fun q7 => [.v (.slice none 0 0)]) (fun _ L => L) OW ?_
 clear OW; intro q7 _ Wq7 OW; simp only [↓pc, ↓pn, vE, Hint.val, Act.put, eL]
 gi_upto_region 7 with fail
 obtain ⟨hl1, hl2⟩ := Bool.or_eq_false_iff.1 hB5
 have hl1 := of_decide_eq_false hl1
 have hl2 := of_decide_eq_false hl2
 refine rg (fun q8 => [.v (v),
  .m (lenR 0 (.c bA) (cP h)),
  .v (.int .i64 0)]) (fun _ L => L) OW ?_
 clear OW; intro q8 _ Wq8 OW; simp only [↓pc, ↓pn, vE, Hint.val, Act.put, eL]
 gi_wp2
 replace OW := Lib.hid (OW.out.nilS eFa [.int .i64 0, .int .i64 0, .int .i64 0, .int .i64 0, .int .i64 0, .int .i64 0, .int .i64 0, .int .i64 0] 25)
 gi_loopw [61, 13] (fun z61 z13 wr => ∃ k : Nat, ∃ vS13 : Value, k ≤ fs.length ∧ z61 = .int .i64 (k : Int) ∧ vS13 = z13 ∧ OwnE (ids cs.flatten) w [.c bA, ob ((q1 0).blk 0) #[.int .i64 r, .int .i64 s, .int .i64 n, .int .i64 m, .int .i64 c] 27, .p (PkE (DramS (((q3 2).blk 0)) (siD (D0 r s n m c mode) fs k))), slFa vS13 (siW (D0 r s n m c mode) fs k)] wr) (fun z61 z13 _ => fs.length - (intOf (z61)).toNat)
 case atStart => exact ⟨0, .slice none 0 0, by omega, rfl, rfl, (by rw [siD, siW]; exact OwnE.cast OW.out (by kernel_rfl))⟩
 case round =>
  obtain ⟨k, vS13, hk10, rfl, rfl, hO⟩ := hrel
  clear OW
  have OW := Lib.hid hO
  clear hO
  gi_upto_region 8 with fail
  refine rg (fun q11 => [.v (.bool (decide ((k : Int) < (fs.length : Int))))]) (fun _ L => L) OW ?_
  clear OW; intro q11 _ Wq11 OW; simp only [↓pc, ↓pn, vE, Hint.val, Act.put, eL]
  cases hB12 : (decide ((k : Int) < (fs.length : Int)))
  case true =>
   have dhB12 := of_decide_eq_true hB12
   gi_upto_region 9 with fail
   have HFO := FaOk.at (k := k) hfs (Int.ofNat_lt.1 (of_decide_eq_true hB12))
   have HWK := HW k
   refine rg (fun q13 => [.m (idxR 0 (.c bA) k 8 (cP h) (by omega)),
    .m (lsR (l := [.int .i64 ((fs.getD k zFa).x0), .int .i64 ((fs.getD k zFa).x1), .int .i64 ((fs.getD k zFa).x2), .int .i64 ((fs.getD k zFa).x3), .int .i64 ((fs.getD k zFa).x4), .int .i64 ((fs.getD k zFa).x5), .int .i64 ((fs.getD k zFa).x6), .int .i64 ((fs.getD k zFa).x7)]) (d := zFa) 0 (.c bA) k 8 0 (cP h) (fun _ => rfl) (by omega) (Nat.le_of_ble_eq_true rfl) (by kernel_rfl)),
    .m (al 4),
    .m (ss 4)]) (fun q13 L => L ++ [ob ((q13 2).blk 0) #[.int .i64 ((fs.getD k zFa).x0), .int .i64 ((fs.getD k zFa).x1), .int .i64 ((fs.getD k zFa).x2), .int .i64 ((fs.getD k zFa).x3), .int .i64 ((fs.getD k zFa).x4), .int .i64 ((fs.getD k zFa).x5), .int .i64 ((fs.getD k zFa).x6), .int .i64 ((fs.getD k zFa).x7)] 25]) OW ?_
   clear OW; intro q13 _ Wq13 OW; simp only [↓pc, ↓pn, vE, Hint.val, Act.put, eL]
   gi_upto_region 10 with fail
   cases hB14 : (decide (6 ≤ ((fs.getD k zFa).x0)))
   case true =>
    have dhB14 := of_decide_eq_true hB14
    gi_upto_region 10 with fail
    refine rg (fun q15 => [.v (.pointer (some ⟨(q13 2).blk 0, 0, none⟩)),
     .m (ld 4 (.int .i64 ((fs.getD k zFa).x0))),
     .t (tk (show Value.bool (decide (6 ≤ ((fs.getD k zFa).x0))) = .bool true from congrArg Value.bool hB14)),
     .v (.bool true),
     .v (.pointer (some ⟨((q3 2).blk 0), 0, none⟩)),
     .m (ls 4 ([.int .i64 ((fs.getD k zFa).x0), .int .i64 ((fs.getD k zFa).x1), .int .i64 ((fs.getD k zFa).x2), .int .i64 ((fs.getD k zFa).x3), .int .i64 ((fs.getD k zFa).x4), .int .i64 ((fs.getD k zFa).x5), .int .i64 ((fs.getD k zFa).x6), .int .i64 ((fs.getD k zFa).x7)])),
     .c [2] [2] (dInject ((q3 2).blk 0) (siD (D0 r s n m c mode) fs k) (fs.getD k zFa) (HSt k) HFO),
     .v (.bool ((dInject_0 (siD (D0 r s n m c mode) fs k) (fs.getD k zFa)) == 0)),
     .k (.bool ((dInject_0 (siD (D0 r s n m c mode) fs k) (fs.getD k zFa)) == 0))]) (fun q15 L => L.set 2 (.p (PkE (DramS ((q3 2).blk 0) (injD (siD (D0 r s n m c mode) fs k) (fs.getD k zFa)))))) OW ?_
    clear OW; intro q15 _ Wq15 OW; simp only [↓pc, ↓pn, vE, Hint.val, Act.put, eL]
    cases hB16 : ((dInject_0 (siD (D0 r s n m c mode) fs k) (fs.getD k zFa)) == 0)
    case true =>
     have dhB16 := Lib.hid (eq_of_beq hB16)
     gi_upto_region 11 with fail
     refine rg (fun q17 => [.v (vS13),
      .m (ls 4 ([.int .i64 ((fs.getD k zFa).x0), .int .i64 ((fs.getD k zFa).x1), .int .i64 ((fs.getD k zFa).x2), .int .i64 ((fs.getD k zFa).x3), .int .i64 ((fs.getD k zFa).x4), .int .i64 ((fs.getD k zFa).x5), .int .i64 ((fs.getD k zFa).x6), .int .i64 ((fs.getD k zFa).x7)])),
      .m (bs 5 1),
      .m (apB 3 5 slTFa (vS13) (xs := siW (D0 r s n m c mode) fs k) (ys := [(⟨((fs.getD k zFa).x0), ((fs.getD k zFa).x1), ((fs.getD k zFa).x2), ((fs.getD k zFa).x3), ((fs.getD k zFa).x4), ((fs.getD k zFa).x5), ((fs.getD k zFa).x6), ((fs.getD k zFa).x7)⟩ : Fa)]) h1Fa (fun _ => rfl) (by simp only [List.length_set, List.length_append, List.length_replicate, List.length_cons, List.length_nil, List.length_map, List.length_range, List.length_take, List.length_drop]; omega)),
      .v ((q17 3).val 0)]) (fun q17 L => L.set 3 (slFa ((q17 3).val 0) ((siW (D0 r s n m c mode) fs k) ++ ([(⟨((fs.getD k zFa).x0), ((fs.getD k zFa).x1), ((fs.getD k zFa).x2), ((fs.getD k zFa).x3), ((fs.getD k zFa).x4), ((fs.getD k zFa).x5), ((fs.getD k zFa).x6), ((fs.getD k zFa).x7)⟩ : Fa)]))) ++ [ob ((q17 2).blk 0) #[.int .i64 ((fs.getD k zFa).x0), .int .i64 ((fs.getD k zFa).x1), .int .i64 ((fs.getD k zFa).x2), .int .i64 ((fs.getD k zFa).x3), .int .i64 ((fs.getD k zFa).x4), .int .i64 ((fs.getD k zFa).x5), .int .i64 ((fs.getD k zFa).x6), .int .i64 ((fs.getD k zFa).x7)] 25]) OW ?_
     clear OW; intro q17 _ Wq17 OW; simp only [↓pc, ↓pn, vE, Hint.val, Act.put, eL]
     gi_upto_region 12 with fail
     refine rg (fun q18 => [.t (tb (a := .int .i64 (k : Int)) (b := .int .i64 1) fun _ _ _ _ => bin_add_nat (a := k) (b := 1) (by omega)),
      .v (.int .i64 ((k + 1 : Nat) : Int))]) (fun _ L => L) OW ?_
     clear OW; intro q18 _ Wq18 OW; simp only [↓pc, ↓pn, vE, Hint.val, Act.put, eL]
     gi_wp2
     go_roundw
     case rel => exact ⟨k + 1, (q17 3).val 0, by omega, by go_num, rfl, (by rw [siD, siW]; (repeat (first | rw [hB5] | rw [hB12] | rw [hB14] | rw [hB16] | rw [cond_true] | rw [cond_false])); exact OwnE.pick OW.out [0, 1, 2, 3] _ (by kernel_rfl))⟩
     case measure => (simp [intOf] <;> omega)
    have dhB16 := ne_of_beq_false hB16
    gi_upto_region 12 with fail
    refine rg (fun q19 => [.t (tb (a := .int .i64 (k : Int)) (b := .int .i64 1) fun _ _ _ _ => bin_add_nat (a := k) (b := 1) (by omega)),
     .v (.int .i64 ((k + 1 : Nat) : Int))]) (fun _ L => L) OW ?_
    clear OW; intro q19 _ Wq19 OW; simp only [↓pc, ↓pn, vE, Hint.val, Act.put, eL]
    gi_wp2
    go_roundw
    case rel => exact ⟨k + 1, vS13, by omega, by go_num, rfl, (by rw [siD, siW]; (repeat (first | rw [hB5] | rw [hB12] | rw [hB14] | rw [hB16] | rw [cond_true] | rw [cond_false])); exact OwnE.pick OW.out [0, 1, 2, 3] _ (by kernel_rfl))⟩
    case measure => (simp [intOf] <;> omega)
   have dhB14 := of_decide_eq_false hB14
   gi_upto_region 10 with fail
   refine rg (fun q20 => [.v (.pointer (some ⟨(q13 2).blk 0, 0, none⟩)),
    .m (ld 4 (.int .i64 ((fs.getD k zFa).x0))),
    .t (tk (show Value.bool (decide (6 ≤ ((fs.getD k zFa).x0))) = .bool false from congrArg Value.bool hB14)),
    .v (.bool false),
    .d (.bool false),
    .d (.bool false),
    .d (.bool false),
    .d (.bool false),
    .k (.bool false)]) (fun _ L => L) OW ?_
   clear OW; intro q20 _ Wq20 OW; simp only [↓pc, ↓pn, vE, Hint.val, Act.put, eL]
   gi_upto_region 12 with fail
   refine rg (fun q21 => [.t (tb (a := .int .i64 (k : Int)) (b := .int .i64 1) fun _ _ _ _ => bin_add_nat (a := k) (b := 1) (by omega)),
    .v (.int .i64 ((k + 1 : Nat) : Int))]) (fun _ L => L) OW ?_
   clear OW; intro q21 _ Wq21 OW; simp only [↓pc, ↓pn, vE, Hint.val, Act.put, eL]
   gi_wp2
   go_roundw
   case rel => exact ⟨k + 1, vS13, by omega, by go_num, rfl, (by rw [siD, siW]; (repeat (first | rw [hB5] | rw [hB12] | rw [hB14] | rw [cond_true] | rw [cond_false])); exact OwnE.pick OW.out [0, 1, 2, 3] _ (by kernel_rfl))⟩
   case measure => (simp [intOf] <;> omega)
  have dhB12 := of_decide_eq_false hB12
  obtain rfl : fs.length = k := by omega
  gi_upto_region 13 with fail
  refine rg (fun q22 => [.v (.pointer (some ⟨((q3 2).blk 0), 0, none⟩)),
   .v (.int .i64 i),
   .c [2] [] (dLook ((q3 2).blk 0) (siD (D0 r s n m c mode) fs fs.length) i (HSt _)),
   .v (.tuple #[.agg (rB 72 (dLook_0 (siD (D0 r s n m c mode) fs fs.length) i)).toArray, .int .i64 (dLook_1 (siD (D0 r s n m c mode) fs fs.length) i)]),
   .v (.agg (rB 72 (dLook_0 (siD (D0 r s n m c mode) fs fs.length) i)).toArray),
   .v (.int .i64 (dLook_1 (siD (D0 r s n m c mode) fs fs.length) i)),
   .m (al 4),
   .m (ss 4),
   .v (.int .i64 (dLook_1 (siD (D0 r s n m c mode) fs fs.length) i))]) (fun q22 L => L ++ [ob ((q22 6).blk 0) (rB 72 (dLook_0 (siD (D0 r s n m c mode) fs fs.length) i)).toArray 41]) OW ?_
  clear OW; intro q22 _ Wq22 OW; simp only [↓pc, ↓pn, vE, Hint.val, Act.put, eL]
  gi_upto_region 14 with fail
  refine rg (fun q23 => [.v (.int .i64 (dLook_1 (siD (D0 r s n m c mode) fs fs.length) i)),
   .v (.bool ((dLook_1 (siD (D0 r s n m c mode) fs fs.length) i) != 0))]) (fun _ L => L) OW ?_
  clear OW; intro q23 _ Wq23 OW; simp only [↓pc, ↓pn, vE, Hint.val, Act.put, eL]
  cases hB24 : ((dLook_1 (siD (D0 r s n m c mode) fs fs.length) i) != 0)
  case true =>
   have dhB24 := bne_iff_ne.1 hB24
   gi_upto_region 15 with fail
   refine rg (fun q25 => [.v (.int .i64 (dLook_1 (siD (D0 r s n m c mode) fs fs.length) i)),
    .v (.bool ((dLook_1 (siD (D0 r s n m c mode) fs fs.length) i) == 12)),
    .v (.bool ((dLook_1 (siD (D0 r s n m c mode) fs fs.length) i) == 12))]) (fun _ L => L) OW ?_
   clear OW; intro q25 _ Wq25 OW; simp only [↓pc, ↓pn, vE, Hint.val, Act.put, eL]
   gi_wp2
   exact leafE HS HH OW [.t (.bool ((dLook_1 (siD (D0 r s n m c mode) fs fs.length) i) == 12))] Env.zero [] [(0, 0)] (by (try simp only [dstrays_0]); (repeat (first | rw [hB5] | rw [hB12] | rw [hB24] | rw [cond_true] | rw [cond_false])); first | rfl | kernel_rfl) (by kernel_rfl) (by (try simp only [dstrays_0]); (repeat (first | rw [hB5] | rw [hB12] | rw [hB24] | rw [cond_true] | rw [cond_false])); kernel_rfl)
  have dhB24 := Lib.hid (eq_of_bne_false hB24)
  gi_upto_region 16 with fail
  have HG0 := look_err hB24
  have HSS := (st_si (D := D0 r s n m c mode) (D0_c r s n m c mode) fs fs.length)
  have HG := strays_g HSS.1 HG0
  refine rg (fun q26 => [.v (v2),
   .m (lenR 0 (.c bA) (cP h2)),
   .v (.int .i64 0)]) (fun _ L => L) OW ?_
  clear OW; intro q26 _ Wq26 OW; simp only [↓pc, ↓pn, vE, Hint.val, Act.put, eL]
  gi_wp2
  gi_loopw [91] (fun z91 wr => ∃ j : Nat, j ≤ rs.length ∧ z91 = .int .i64 (j : Int) ∧ OwnE (ids cs.flatten) w [.c bA, ob ((q1 0).blk 0) #[.int .i64 r, .int .i64 s, .int .i64 n, .int .i64 m, .int .i64 c] 27, .p (PkE (DramS (((q3 2).blk 0)) (thS (siD (D0 r s n m c mode) fs fs.length) i rs j))), slFa vS13 (siW (D0 r s n m c mode) fs fs.length), ob ((q22 6).blk 0) (rB 72 (dLook_0 (siD (D0 r s n m c mode) fs fs.length) i)).toArray 41] wr) (fun z91 _ => rs.length - (intOf (z91)).toNat)
  case atStart => exact ⟨0, by omega, rfl, (by rw [thS]; exact OwnE.cast OW.out (by kernel_rfl))⟩
  case round =>
   obtain ⟨j, hk28, rfl, hO⟩ := hrel
   clear OW
   have OW := Lib.hid hO
   clear hO
   gi_upto_region 17 with fail
   refine rg (fun q29 => [.v (.bool (decide ((j : Int) < (rs.length : Int))))]) (fun _ L => L) OW ?_
   clear OW; intro q29 _ Wq29 OW; simp only [↓pc, ↓pn, vE, Hint.val, Act.put, eL]
   cases hB30 : (decide ((j : Int) < (rs.length : Int)))
   case true =>
    have dhB30 := of_decide_eq_true hB30
    gi_upto_region 18 with fail
    refine rg (fun q31 => [.v (.int .i64 (j : Int)),
     .m (idxR 0 (.c bA) j 1 (cP h2) (by omega)),
     .m (ldR (u := .bool (rs.getD j false)) (d := false) 0 (.c bA) j 1 0 (cP h2) (fun _ => rfl) (by omega) (Nat.le_of_ble_eq_true rfl) (by kernel_rfl)),
     .v (.int .i64 (j : Int)),
     .v (.bool (rs.getD j false))]) (fun _ L => L) OW ?_
    clear OW; intro q31 _ Wq31 OW; simp only [↓pc, ↓pn, vE, Hint.val, Act.put, eL]
    gi_upto_region 19 with fail
    refine rg (fun q32 => [.v (.int .i64 i),
     .v (.agg #[.int .i64 i, .bool false]),
     .m (al 5),
     .m (ss 5)]) (fun q32 L => L ++ [ob ((q32 2).blk 0) #[.int .i64 i, .bool false] 60]) OW ?_
    clear OW; intro q32 _ Wq32 OW; simp only [↓pc, ↓pn, vE, Hint.val, Act.put, eL]
    gi_upto_region 20 with fail
    cases hB33 : (decide ((j : Int) < (((siW (D0 r s n m c mode) fs fs.length).length : Nat) : Int)))
    case true =>
     have dhB33 := of_decide_eq_true hB33
     gi_upto_region 20 with fail
     refine rg (fun q34 => [.v (.int .i64 (j : Int)),
      .v (vS13),
      .m (lenS 3 (slFa vS13 (siW (D0 r s n m c mode) fs fs.length)) (fun _ h => h)),
      .t (tk (show Value.bool (decide ((j : Int) < (((siW (D0 r s n m c mode) fs fs.length).length : Nat) : Int))) = .bool true from congrArg Value.bool hB33)),
      .v (.bool true),
      .v (vS13),
      .v (.int .i64 (j : Int)),
      .m (idxS 3 (slFa vS13 (siW (D0 r s n m c mode) fs fs.length)) j 8 (fun _ h => h) (by omega)),
      .m (fldS 3 (slFa vS13 (siW (D0 r s n m c mode) fs fs.length)) (j * 8) 0 (fun _ h => h) (by omega)),
      .m (ldS (u := .int .i64 (((siW (D0 r s n m c mode) fs fs.length).getD j zFa).x0)) (d := zFa) 3 (slFa vS13 (siW (D0 r s n m c mode) fs fs.length)) j 8 0 (fun _ h => h) (fun _ => rfl) (by omega) (Nat.le_of_ble_eq_true rfl) (by kernel_rfl)),
      .v (.bool ((((siW (D0 r s n m c mode) fs fs.length).getD j zFa).x0) == 7)),
      .k (.bool ((((siW (D0 r s n m c mode) fs fs.length).getD j zFa).x0) == 7))]) (fun _ L => L) OW ?_
     clear OW; intro q34 _ Wq34 OW; simp only [↓pc, ↓pn, vE, Hint.val, Act.put, eL]
     cases hB35 : ((((siW (D0 r s n m c mode) fs fs.length).getD j zFa).x0) == 7)
     case true =>
      have dhB35 := Lib.hid (eq_of_beq hB35)
      gi_upto_region 21 with fail
      refine rg (fun q36 => [.v (.pointer (some ⟨(q32 2).blk 0, 1, none⟩)),
       .m (st 5)]) (fun q36 L => L.set 5 (ob ((q32 2).blk 0) #[.int .i64 i, .bool true] 60)) OW ?_
      clear OW; intro q36 _ Wq36 OW; simp only [↓pc, ↓pn, vE, Hint.val, Act.put, eL]
      gi_upto_region 24 with fail
      refine rg (fun q37 => [.v (.pointer (some ⟨((q3 2).blk 0), 0, none⟩)),
       .v (.int .i64 i),
       .v (.bool (rs.getD j false)),
       .c [2] [2] (dtouch ((q3 2).blk 0) (thS (siD (D0 r s n m c mode) fs fs.length) i rs j) i (rs.getD j false) (HT _)),
       .v (.tuple #[.agg #[.int .i64 (dtouch_0 (thS (siD (D0 r s n m c mode) fs fs.length) i rs j) i (rs.getD j false)), .bool (dtouch_1 (thS (siD (D0 r s n m c mode) fs fs.length) i rs j) i (rs.getD j false))], .int .i64 (dtouch_2 (thS (siD (D0 r s n m c mode) fs fs.length) i rs j) i (rs.getD j false))]),
       .v (.agg #[.int .i64 (dtouch_0 (thS (siD (D0 r s n m c mode) fs fs.length) i rs j) i (rs.getD j false)), .bool (dtouch_1 (thS (siD (D0 r s n m c mode) fs fs.length) i rs j) i (rs.getD j false))]),
       .v (.int .i64 (dtouch_2 (thS (siD (D0 r s n m c mode) fs fs.length) i rs j) i (rs.getD j false))),
       .m (al 6),
       .m (ss 6),
       .v (.int .i64 (dtouch_2 (thS (siD (D0 r s n m c mode) fs fs.length) i rs j) i (rs.getD j false)))]) (fun q37 L => L.set 2 (.p (PkE (DramS ((q3 2).blk 0) (thD (thS (siD (D0 r s n m c mode) fs fs.length) i rs j) i (rs.getD j false))))) ++ [ob ((q37 7).blk 0) #[.int .i64 (dtouch_0 (thS (siD (D0 r s n m c mode) fs fs.length) i rs j) i (rs.getD j false)), .bool (dtouch_1 (thS (siD (D0 r s n m c mode) fs fs.length) i rs j) i (rs.getD j false))] 60]) OW ?_
      clear OW; intro q37 _ Wq37 OW; simp only [↓pc, ↓pn, vE, Hint.val, Act.put, eL]
      gi_upto_region 25 with fail
      have HTT := strays_at0 (rs := rs) HSS.1 (fun f hf => (HSS.2 f hf).1) HG j (rs.getD j false)
      refine rg (fun q38 => [.m (ls 6 ([.int .i64 (dtouch_0 (thS (siD (D0 r s n m c mode) fs fs.length) i rs j) i (rs.getD j false)), .bool (dtouch_1 (thS (siD (D0 r s n m c mode) fs fs.length) i rs j) i (rs.getD j false))])),
       .m (ls 5 ([.int .i64 i, .bool true])),
       .t (tbT 60 fun _ _ _ => bin_neT (xs := [.int .i64 (dtouch_0 (thS (siD (D0 r s n m c mode) fs fs.length) i rs j) i (rs.getD j false)), .bool (dtouch_1 (thS (siD (D0 r s n m c mode) fs fs.length) i rs j) i (rs.getD j false))]) (ys := [.int .i64 i, .bool true]) (by kernel_rfl) (show _ = ((((dtouch_0 (thS (siD (D0 r s n m c mode) fs fs.length) i rs j) i (rs.getD j false)) == i) && (dtouch_1 (thS (siD (D0 r s n m c mode) fs fs.length) i rs j) i (rs.getD j false))) : Bool) from Eq.trans (b := ((dtouch_0 (thS (siD (D0 r s n m c mode) fs fs.length) i rs j) i (rs.getD j false)) == i && ((dtouch_1 (thS (siD (D0 r s n m c mode) fs fs.length) i rs j) i (rs.getD j false)) == true && true))) (by rfl) (by simp only [Bool.and_true, beq_true, beq_false]))),
       .v (.bool (!(((dtouch_0 (thS (siD (D0 r s n m c mode) fs fs.length) i rs j) i (rs.getD j false)) == i) && (dtouch_1 (thS (siD (D0 r s n m c mode) fs fs.length) i rs j) i (rs.getD j false))))),
       .v (.int .i64 (dtouch_2 (thS (siD (D0 r s n m c mode) fs fs.length) i rs j) i (rs.getD j false))),
       .v (.bool ((dtouch_2 (thS (siD (D0 r s n m c mode) fs fs.length) i rs j) i (rs.getD j false)) != 0)),
       .k (.bool ((!(((dtouch_0 (thS (siD (D0 r s n m c mode) fs fs.length) i rs j) i (rs.getD j false)) == i) && (dtouch_1 (thS (siD (D0 r s n m c mode) fs fs.length) i rs j) i (rs.getD j false)))) || ((dtouch_2 (thS (siD (D0 r s n m c mode) fs fs.length) i rs j) i (rs.getD j false)) != 0)))]) (fun _ L => L) OW ?_
      clear OW; intro q38 _ Wq38 OW; simp only [↓pc, ↓pn, vE, Hint.val, Act.put, eL]
      cases hB39 : ((!(((dtouch_0 (thS (siD (D0 r s n m c mode) fs fs.length) i rs j) i (rs.getD j false)) == i) && (dtouch_1 (thS (siD (D0 r s n m c mode) fs fs.length) i rs j) i (rs.getD j false)))) || ((dtouch_2 (thS (siD (D0 r s n m c mode) fs fs.length) i rs j) i (rs.getD j false)) != 0))
      case true => exact absurd (hB39.symm.trans (show _ = false from (by first | (obtain ⟨e1, e2, e3⟩ := HTT.1 (by assumption); rw [e1, e2, e3]; simp; done) | (obtain ⟨e1, e2, e3⟩ := HTT.2.1 (by assumption) (by assumption); rw [e1, e2, e3]; simp; done) | (obtain ⟨e1, e2, e3⟩ := HTT.2.2 (by assumption) (by assumption); rw [e1, e2, e3]; simp; done)))) (by decide)
      case false =>
       gi_upto_region 27 with fail
       refine rg (fun q40 => [.t (tb (a := .int .i64 (j : Int)) (b := .int .i64 1) fun _ _ _ _ => bin_add_nat (a := j) (b := 1) (by omega)),
        .v (.int .i64 ((j + 1 : Nat) : Int))]) (fun _ L => L) OW ?_
       clear OW; intro q40 _ Wq40 OW; simp only [↓pc, ↓pn, vE, Hint.val, Act.put, eL]
       gi_wp2
       go_roundw
       case rel => exact ⟨j + 1, by omega, by go_num, (by rw [thS]; exact OwnE.pick OW.out [0, 1, 2, 3, 4] _ (by kernel_rfl))⟩
       case measure => (simp [intOf] <;> omega)
     have dhB35 := ne_of_beq_false hB35
     gi_upto_region 22 with fail
     refine rg (fun q41 => [.v (.int .i64 (j : Int)),
      .v (vS13),
      .m (lenS 3 (slFa vS13 (siW (D0 r s n m c mode) fs fs.length)) (fun _ h => h)),
      .t (tk (show Value.bool (decide ((j : Int) < (((siW (D0 r s n m c mode) fs fs.length).length : Nat) : Int))) = .bool true from congrArg Value.bool hB33))]) (fun _ L => L) OW ?_
     clear OW; intro q41 _ Wq41 OW; simp only [↓pc, ↓pn, vE, Hint.val, Act.put, eL]
     gi_upto_region 23 with fail
     refine rg (fun q42 => [.m (ls 1 ([.int .i64 r, .int .i64 s, .int .i64 n, .int .i64 m, .int .i64 c])),
      .v (vS13),
      .v (.int .i64 (j : Int)),
      .m (idxS 3 (slFa vS13 (siW (D0 r s n m c mode) fs fs.length)) j 8 (fun _ h => h) (by omega)),
      .m (fldS 3 (slFa vS13 (siW (D0 r s n m c mode) fs fs.length)) (j * 8) 1 (fun _ h => h) (by omega)),
      .m (lsS (l := [.int .i64 (((siW (D0 r s n m c mode) fs fs.length).getD j zFa).x1), .int .i64 (((siW (D0 r s n m c mode) fs fs.length).getD j zFa).x2), .int .i64 (((siW (D0 r s n m c mode) fs fs.length).getD j zFa).x3), .int .i64 (((siW (D0 r s n m c mode) fs fs.length).getD j zFa).x4)]) (d := zFa) 3 (slFa vS13 (siW (D0 r s n m c mode) fs fs.length)) j 8 1 (fun _ h => h) (fun _ => rfl) (by omega) (Nat.le_of_ble_eq_true rfl) (by kernel_rfl)),
      .c [] [] (gindex r s n m c (((siW (D0 r s n m c mode) fs fs.length).getD j zFa).x1) (((siW (D0 r s n m c mode) fs fs.length).getD j zFa).x2) (((siW (D0 r s n m c mode) fs fs.length).getD j zFa).x3) (((siW (D0 r s n m c mode) fs fs.length).getD j zFa).x4)),
      .v (.tuple #[.int .i64 (gindex_0 r s n m c (((siW (D0 r s n m c mode) fs fs.length).getD j zFa).x1) (((siW (D0 r s n m c mode) fs fs.length).getD j zFa).x2) (((siW (D0 r s n m c mode) fs fs.length).getD j zFa).x3) (((siW (D0 r s n m c mode) fs fs.length).getD j zFa).x4)), .int .i64 (gindex_1 r s n m c (((siW (D0 r s n m c mode) fs fs.length).getD j zFa).x1) (((siW (D0 r s n m c mode) fs fs.length).getD j zFa).x2) (((siW (D0 r s n m c mode) fs fs.length).getD j zFa).x3) (((siW (D0 r s n m c mode) fs fs.length).getD j zFa).x4))]),
      .v (.int .i64 (gindex_0 r s n m c (((siW (D0 r s n m c mode) fs fs.length).getD j zFa).x1) (((siW (D0 r s n m c mode) fs fs.length).getD j zFa).x2) (((siW (D0 r s n m c mode) fs fs.length).getD j zFa).x3) (((siW (D0 r s n m c mode) fs fs.length).getD j zFa).x4))),
      .v (.int .i64 (gindex_1 r s n m c (((siW (D0 r s n m c mode) fs fs.length).getD j zFa).x1) (((siW (D0 r s n m c mode) fs fs.length).getD j zFa).x2) (((siW (D0 r s n m c mode) fs fs.length).getD j zFa).x3) (((siW (D0 r s n m c mode) fs fs.length).getD j zFa).x4))),
      .v (.pointer (some ⟨(q32 2).blk 0, 0, none⟩)),
      .m (st 5)]) (fun q42 L => L.set 5 (ob ((q32 2).blk 0) #[.int .i64 (gindex_0 r s n m c (((siW (D0 r s n m c mode) fs fs.length).getD j zFa).x1) (((siW (D0 r s n m c mode) fs fs.length).getD j zFa).x2) (((siW (D0 r s n m c mode) fs fs.length).getD j zFa).x3) (((siW (D0 r s n m c mode) fs fs.length).getD j zFa).x4)), .bool false] 60)) OW ?_
     clear OW; intro q42 _ Wq42 OW; simp only [↓pc, ↓pn, vE, Hint.val, Act.put, eL]
     gi_upto_region 24 with fail
     refine rg (fun q43 => [.v (.pointer (some ⟨((q3 2).blk 0), 0, none⟩)),
      .v (.int .i64 i),
      .v (.bool (rs.getD j false)),
      .c [2] [2] (dtouch ((q3 2).blk 0) (thS (siD (D0 r s n m c mode) fs fs.length) i rs j) i (rs.getD j false) (HT _)),
      .v (.tuple #[.agg #[.int .i64 (dtouch_0 (thS (siD (D0 r s n m c mode) fs fs.length) i rs j) i (rs.getD j false)), .bool (dtouch_1 (thS (siD (D0 r s n m c mode) fs fs.length) i rs j) i (rs.getD j false))], .int .i64 (dtouch_2 (thS (siD (D0 r s n m c mode) fs fs.length) i rs j) i (rs.getD j false))]),
      .v (.agg #[.int .i64 (dtouch_0 (thS (siD (D0 r s n m c mode) fs fs.length) i rs j) i (rs.getD j false)), .bool (dtouch_1 (thS (siD (D0 r s n m c mode) fs fs.length) i rs j) i (rs.getD j false))]),
      .v (.int .i64 (dtouch_2 (thS (siD (D0 r s n m c mode) fs fs.length) i rs j) i (rs.getD j false))),
      .m (al 6),
      .m (ss 6),
      .v (.int .i64 (dtouch_2 (thS (siD (D0 r s n m c mode) fs fs.length) i rs j) i (rs.getD j false)))]) (fun q43 L => L.set 2 (.p (PkE (DramS ((q3 2).blk 0) (thD (thS (siD (D0 r s n m c mode) fs fs.length) i rs j) i (rs.getD j false))))) ++ [ob ((q43 7).blk 0) #[.int .i64 (dtouch_0 (thS (siD (D0 r s n m c mode) fs fs.length) i rs j) i (rs.getD j false)), .bool (dtouch_1 (thS (siD (D0 r s n m c mode) fs fs.length) i rs j) i (rs.getD j false))] 60]) OW ?_
     clear OW; intro q43 _ Wq43 OW; simp only [↓pc, ↓pn, vE, Hint.val, Act.put, eL]
     gi_upto_region 25 with fail
     have HTT := strays_at0 (rs := rs) HSS.1 (fun f hf => (HSS.2 f hf).1) HG j (rs.getD j false)
     refine rg (fun q44 => [.m (ls 6 ([.int .i64 (dtouch_0 (thS (siD (D0 r s n m c mode) fs fs.length) i rs j) i (rs.getD j false)), .bool (dtouch_1 (thS (siD (D0 r s n m c mode) fs fs.length) i rs j) i (rs.getD j false))])),
      .m (ls 5 ([.int .i64 (gindex_0 r s n m c (((siW (D0 r s n m c mode) fs fs.length).getD j zFa).x1) (((siW (D0 r s n m c mode) fs fs.length).getD j zFa).x2) (((siW (D0 r s n m c mode) fs fs.length).getD j zFa).x3) (((siW (D0 r s n m c mode) fs fs.length).getD j zFa).x4)), .bool false])),
      .t (tbT 60 fun _ _ _ => bin_neT (xs := [.int .i64 (dtouch_0 (thS (siD (D0 r s n m c mode) fs fs.length) i rs j) i (rs.getD j false)), .bool (dtouch_1 (thS (siD (D0 r s n m c mode) fs fs.length) i rs j) i (rs.getD j false))]) (ys := [.int .i64 (gindex_0 r s n m c (((siW (D0 r s n m c mode) fs fs.length).getD j zFa).x1) (((siW (D0 r s n m c mode) fs fs.length).getD j zFa).x2) (((siW (D0 r s n m c mode) fs fs.length).getD j zFa).x3) (((siW (D0 r s n m c mode) fs fs.length).getD j zFa).x4)), .bool false]) (by kernel_rfl) (show _ = ((((dtouch_0 (thS (siD (D0 r s n m c mode) fs fs.length) i rs j) i (rs.getD j false)) == (gindex_0 r s n m c (((siW (D0 r s n m c mode) fs fs.length).getD j zFa).x1) (((siW (D0 r s n m c mode) fs fs.length).getD j zFa).x2) (((siW (D0 r s n m c mode) fs fs.length).getD j zFa).x3) (((siW (D0 r s n m c mode) fs fs.length).getD j zFa).x4))) && (!(dtouch_1 (thS (siD (D0 r s n m c mode) fs fs.length) i rs j) i (rs.getD j false)))) : Bool) from Eq.trans (b := ((dtouch_0 (thS (siD (D0 r s n m c mode) fs fs.length) i rs j) i (rs.getD j false)) == (gindex_0 r s n m c (((siW (D0 r s n m c mode) fs fs.length).getD j zFa).x1) (((siW (D0 r s n m c mode) fs fs.length).getD j zFa).x2) (((siW (D0 r s n m c mode) fs fs.length).getD j zFa).x3) (((siW (D0 r s n m c mode) fs fs.length).getD j zFa).x4)) && ((dtouch_1 (thS (siD (D0 r s n m c mode) fs fs.length) i rs j) i (rs.getD j false)) == false && true))) (by rfl) (by simp only [Bool.and_true, beq_true, beq_false]))),
      .v (.bool (!(((dtouch_0 (thS (siD (D0 r s n m c mode) fs fs.length) i rs j) i (rs.getD j false)) == (gindex_0 r s n m c (((siW (D0 r s n m c mode) fs fs.length).getD j zFa).x1) (((siW (D0 r s n m c mode) fs fs.length).getD j zFa).x2) (((siW (D0 r s n m c mode) fs fs.length).getD j zFa).x3) (((siW (D0 r s n m c mode) fs fs.length).getD j zFa).x4))) && (!(dtouch_1 (thS (siD (D0 r s n m c mode) fs fs.length) i rs j) i (rs.getD j false)))))),
      .v (.int .i64 (dtouch_2 (thS (siD (D0 r s n m c mode) fs fs.length) i rs j) i (rs.getD j false))),
      .v (.bool ((dtouch_2 (thS (siD (D0 r s n m c mode) fs fs.length) i rs j) i (rs.getD j false)) != 0)),
      .k (.bool ((!(((dtouch_0 (thS (siD (D0 r s n m c mode) fs fs.length) i rs j) i (rs.getD j false)) == (gindex_0 r s n m c (((siW (D0 r s n m c mode) fs fs.length).getD j zFa).x1) (((siW (D0 r s n m c mode) fs fs.length).getD j zFa).x2) (((siW (D0 r s n m c mode) fs fs.length).getD j zFa).x3) (((siW (D0 r s n m c mode) fs fs.length).getD j zFa).x4))) && (!(dtouch_1 (thS (siD (D0 r s n m c mode) fs fs.length) i rs j) i (rs.getD j false))))) || ((dtouch_2 (thS (siD (D0 r s n m c mode) fs fs.length) i rs j) i (rs.getD j false)) != 0)))]) (fun _ L => L) OW ?_
     clear OW; intro q44 _ Wq44 OW; simp only [↓pc, ↓pn, vE, Hint.val, Act.put, eL]
     cases hB45 : ((!(((dtouch_0 (thS (siD (D0 r s n m c mode) fs fs.length) i rs j) i (rs.getD j false)) == (gindex_0 r s n m c (((siW (D0 r s n m c mode) fs fs.length).getD j zFa).x1) (((siW (D0 r s n m c mode) fs fs.length).getD j zFa).x2) (((siW (D0 r s n m c mode) fs fs.length).getD j zFa).x3) (((siW (D0 r s n m c mode) fs fs.length).getD j zFa).x4))) && (!(dtouch_1 (thS (siD (D0 r s n m c mode) fs fs.length) i rs j) i (rs.getD j false))))) || ((dtouch_2 (thS (siD (D0 r s n m c mode) fs fs.length) i rs j) i (rs.getD j false)) != 0))
     case true => exact absurd (hB45.symm.trans (show _ = false from (by first | (obtain ⟨e1, e2, e3⟩ := HTT.1 (by assumption); rw [e1, e2, e3]; simp; done) | (obtain ⟨e1, e2, e3⟩ := HTT.2.1 (by assumption) (by assumption); rw [e1, e2, e3]; simp; done) | (obtain ⟨e1, e2, e3⟩ := HTT.2.2 (by assumption) (by assumption); rw [e1, e2, e3]; simp; done)))) (by decide)
     case false =>
      gi_upto_region 27 with fail
      refine rg (fun q46 => [.t (tb (a := .int .i64 (j : Int)) (b := .int .i64 1) fun _ _ _ _ => bin_add_nat (a := j) (b := 1) (by omega)),
       .v (.int .i64 ((j + 1 : Nat) : Int))]) (fun _ L => L) OW ?_
      clear OW; intro q46 _ Wq46 OW; simp only [↓pc, ↓pn, vE, Hint.val, Act.put, eL]
      gi_wp2
      go_roundw
      case rel => exact ⟨j + 1, by omega, by go_num, (by rw [thS]; exact OwnE.pick OW.out [0, 1, 2, 3, 4] _ (by kernel_rfl))⟩
      case measure => (simp [intOf] <;> omega)
    have dhB33 := of_decide_eq_false hB33
    gi_upto_region 20 with fail
    refine rg (fun q47 => [.v (.int .i64 (j : Int)),
     .v (vS13),
     .m (lenS 3 (slFa vS13 (siW (D0 r s n m c mode) fs fs.length)) (fun _ h => h)),
     .t (tk (show Value.bool (decide ((j : Int) < (((siW (D0 r s n m c mode) fs fs.length).length : Nat) : Int))) = .bool false from congrArg Value.bool hB33)),
     .v (.bool false),
     .d (.bool false),
     .d (.bool false),
     .d (.bool false),
     .d (.bool false),
     .d (.bool false),
     .d (.bool false),
     .k (.bool false)]) (fun _ L => L) OW ?_
    clear OW; intro q47 _ Wq47 OW; simp only [↓pc, ↓pn, vE, Hint.val, Act.put, eL]
    gi_upto_region 22 with fail
    refine rg (fun q48 => [.v (.int .i64 (j : Int)),
     .v (vS13),
     .m (lenS 3 (slFa vS13 (siW (D0 r s n m c mode) fs fs.length)) (fun _ h => h)),
     .t (tk (show Value.bool (decide ((j : Int) < (((siW (D0 r s n m c mode) fs fs.length).length : Nat) : Int))) = .bool false from congrArg Value.bool hB33))]) (fun _ L => L) OW ?_
    clear OW; intro q48 _ Wq48 OW; simp only [↓pc, ↓pn, vE, Hint.val, Act.put, eL]
    gi_upto_region 24 with fail
    refine rg (fun q49 => [.v (.pointer (some ⟨((q3 2).blk 0), 0, none⟩)),
     .v (.int .i64 i),
     .v (.bool (rs.getD j false)),
     .c [2] [2] (dtouch ((q3 2).blk 0) (thS (siD (D0 r s n m c mode) fs fs.length) i rs j) i (rs.getD j false) (HT _)),
     .v (.tuple #[.agg #[.int .i64 (dtouch_0 (thS (siD (D0 r s n m c mode) fs fs.length) i rs j) i (rs.getD j false)), .bool (dtouch_1 (thS (siD (D0 r s n m c mode) fs fs.length) i rs j) i (rs.getD j false))], .int .i64 (dtouch_2 (thS (siD (D0 r s n m c mode) fs fs.length) i rs j) i (rs.getD j false))]),
     .v (.agg #[.int .i64 (dtouch_0 (thS (siD (D0 r s n m c mode) fs fs.length) i rs j) i (rs.getD j false)), .bool (dtouch_1 (thS (siD (D0 r s n m c mode) fs fs.length) i rs j) i (rs.getD j false))]),
     .v (.int .i64 (dtouch_2 (thS (siD (D0 r s n m c mode) fs fs.length) i rs j) i (rs.getD j false))),
     .m (al 6),
     .m (ss 6),
     .v (.int .i64 (dtouch_2 (thS (siD (D0 r s n m c mode) fs fs.length) i rs j) i (rs.getD j false)))]) (fun q49 L => L.set 2 (.p (PkE (DramS ((q3 2).blk 0) (thD (thS (siD (D0 r s n m c mode) fs fs.length) i rs j) i (rs.getD j false))))) ++ [ob ((q49 7).blk 0) #[.int .i64 (dtouch_0 (thS (siD (D0 r s n m c mode) fs fs.length) i rs j) i (rs.getD j false)), .bool (dtouch_1 (thS (siD (D0 r s n m c mode) fs fs.length) i rs j) i (rs.getD j false))] 60]) OW ?_
    clear OW; intro q49 _ Wq49 OW; simp only [↓pc, ↓pn, vE, Hint.val, Act.put, eL]
    gi_upto_region 25 with fail
    have HTT := strays_at0 (rs := rs) HSS.1 (fun f hf => (HSS.2 f hf).1) HG j (rs.getD j false)
    refine rg (fun q50 => [.m (ls 6 ([.int .i64 (dtouch_0 (thS (siD (D0 r s n m c mode) fs fs.length) i rs j) i (rs.getD j false)), .bool (dtouch_1 (thS (siD (D0 r s n m c mode) fs fs.length) i rs j) i (rs.getD j false))])),
     .m (ls 5 ([.int .i64 i, .bool false])),
     .t (tbT 60 fun _ _ _ => bin_neT (xs := [.int .i64 (dtouch_0 (thS (siD (D0 r s n m c mode) fs fs.length) i rs j) i (rs.getD j false)), .bool (dtouch_1 (thS (siD (D0 r s n m c mode) fs fs.length) i rs j) i (rs.getD j false))]) (ys := [.int .i64 i, .bool false]) (by kernel_rfl) (show _ = ((((dtouch_0 (thS (siD (D0 r s n m c mode) fs fs.length) i rs j) i (rs.getD j false)) == i) && (!(dtouch_1 (thS (siD (D0 r s n m c mode) fs fs.length) i rs j) i (rs.getD j false)))) : Bool) from Eq.trans (b := ((dtouch_0 (thS (siD (D0 r s n m c mode) fs fs.length) i rs j) i (rs.getD j false)) == i && ((dtouch_1 (thS (siD (D0 r s n m c mode) fs fs.length) i rs j) i (rs.getD j false)) == false && true))) (by rfl) (by simp only [Bool.and_true, beq_true, beq_false]))),
     .v (.bool (!(((dtouch_0 (thS (siD (D0 r s n m c mode) fs fs.length) i rs j) i (rs.getD j false)) == i) && (!(dtouch_1 (thS (siD (D0 r s n m c mode) fs fs.length) i rs j) i (rs.getD j false)))))),
     .v (.int .i64 (dtouch_2 (thS (siD (D0 r s n m c mode) fs fs.length) i rs j) i (rs.getD j false))),
     .v (.bool ((dtouch_2 (thS (siD (D0 r s n m c mode) fs fs.length) i rs j) i (rs.getD j false)) != 0)),
     .k (.bool ((!(((dtouch_0 (thS (siD (D0 r s n m c mode) fs fs.length) i rs j) i (rs.getD j false)) == i) && (!(dtouch_1 (thS (siD (D0 r s n m c mode) fs fs.length) i rs j) i (rs.getD j false))))) || ((dtouch_2 (thS (siD (D0 r s n m c mode) fs fs.length) i rs j) i (rs.getD j false)) != 0)))]) (fun _ L => L) OW ?_
    clear OW; intro q50 _ Wq50 OW; simp only [↓pc, ↓pn, vE, Hint.val, Act.put, eL]
    cases hB51 : ((!(((dtouch_0 (thS (siD (D0 r s n m c mode) fs fs.length) i rs j) i (rs.getD j false)) == i) && (!(dtouch_1 (thS (siD (D0 r s n m c mode) fs fs.length) i rs j) i (rs.getD j false))))) || ((dtouch_2 (thS (siD (D0 r s n m c mode) fs fs.length) i rs j) i (rs.getD j false)) != 0))
    case true => exact absurd (hB51.symm.trans (show _ = false from (by first | (obtain ⟨e1, e2, e3⟩ := HTT.1 (by assumption); rw [e1, e2, e3]; simp; done) | (obtain ⟨e1, e2, e3⟩ := HTT.2.1 (by assumption) (by assumption); rw [e1, e2, e3]; simp; done) | (obtain ⟨e1, e2, e3⟩ := HTT.2.2 (by assumption) (by assumption); rw [e1, e2, e3]; simp; done)))) (by decide)
    case false =>
     gi_upto_region 27 with fail
     refine rg (fun q52 => [.t (tb (a := .int .i64 (j : Int)) (b := .int .i64 1) fun _ _ _ _ => bin_add_nat (a := j) (b := 1) (by omega)),
      .v (.int .i64 ((j + 1 : Nat) : Int))]) (fun _ L => L) OW ?_
     clear OW; intro q52 _ Wq52 OW; simp only [↓pc, ↓pn, vE, Hint.val, Act.put, eL]
     gi_wp2
     go_roundw
     case rel => exact ⟨j + 1, by omega, by go_num, (by rw [thS]; exact OwnE.pick OW.out [0, 1, 2, 3, 4] _ (by kernel_rfl))⟩
     case measure => (simp [intOf] <;> omega)
   have dhB30 := of_decide_eq_false hB30
   obtain rfl : rs.length = j := by omega
   gi_upto_region 28 with fail
   have HWF := HW fs.length
   refine rg (fun q53 => [.v (.pointer (some ⟨((q3 2).blk 0), 0, none⟩)),
    .c [2] [5] (dComing ((q3 2).blk 0) (thS (siD (D0 r s n m c mode) fs fs.length) i rs rs.length) (Nat.le_trans (HT _).l2 (by decide))),
    .m (lenS 5 (slFa ((q53 1).val 0) ((thS (siD (D0 r s n m c mode) fs fs.length) i rs rs.length).coming)) (fun _ h => h)),
    .v (vS13),
    .m (lenS 3 (slFa vS13 (siW (D0 r s n m c mode) fs fs.length)) (fun _ h => h)),
    .v (v2),
    .m (lenR 0 (.c bA) (cP h2)),
    .t (tb (a := .int .i64 (((siW (D0 r s n m c mode) fs fs.length).length : Nat) : Int)) (b := .int .i64 (rs.length : Int)) fun _ _ _ _ => bin_sub_in (a := (((siW (D0 r s n m c mode) fs fs.length).length : Nat) : Int)) (b := (rs.length : Int)) (by omega) (by omega)),
    .t (tv (Builtin.max_ #[3, 3] 3 #[.int .i64 ((((siW (D0 r s n m c mode) fs fs.length).length : Nat) : Int) - (rs.length : Int)), .int .i64 0]) (fun _ => run_maxI _ _ _ _)),
    .v (.bool (((((thS (siD (D0 r s n m c mode) fs fs.length) i rs rs.length).coming).length : Nat) : Int) == (max ((((siW (D0 r s n m c mode) fs fs.length).length : Nat) : Int) - (rs.length : Int)) 0))),
    .v (.bool (((((thS (siD (D0 r s n m c mode) fs fs.length) i rs rs.length).coming).length : Nat) : Int) == (max ((((siW (D0 r s n m c mode) fs fs.length).length : Nat) : Int) - (rs.length : Int)) 0)))]) (fun q53 L => L ++ [slFa ((q53 1).val 0) ((thS (siD (D0 r s n m c mode) fs fs.length) i rs rs.length).coming)]) OW ?_
   clear OW; intro q53 _ Wq53 OW; simp only [↓pc, ↓pn, vE, Hint.val, Act.put, eL]
   gi_wp2
   exact leafE HS HH OW [.t (.bool (((((thS (siD (D0 r s n m c mode) fs fs.length) i rs rs.length).coming).length : Nat) : Int) == (max ((((siW (D0 r s n m c mode) fs fs.length).length : Nat) : Int) - (rs.length : Int)) 0)))] Env.zero [] [(0, 0)] (by (try simp only [dstrays_0]); (repeat (first | rw [hB5] | rw [hB12] | rw [hB24] | rw [hB30] | rw [cond_true] | rw [cond_false])); first | rfl | kernel_rfl) (by kernel_rfl) (by (try simp only [dstrays_0]); (repeat (first | rw [hB5] | rw [hB12] | rw [hB24] | rw [hB30] | rw [cond_true] | rw [cond_false])); kernel_rfl)
set_option maxRecDepth 100000 in
set_option maxHeartbeats 1000000 in
theorem dstraysG (r s n m c mode : Int) (v : Value) (fs : List Fa) (i : Int) (v2 : Value) (rs : List Bool) (bA : Objs) (h : SrE eFa v fs bA) (h2 : SrE eT v2 rs bA) (hg : gright r s n m c = false) : Con Try.prog 10 #[.agg #[.int .i64 r, .int .i64 s, .int .i64 n, .int .i64 m, .int .i64 c], .int .i64 mode, v, .int .i64 i, v2] [.c bA] [] (fun _ => []) (fun _ => .bool true) := by
 refine Con.of (enters_of Try.func10 (by kernel_rfl) rfl) fun w cs HS HH OW => ?_
 refine (callsIn_wide (n := 6)).1 ?_
 refine callsIn_of_wp_marks Try.func10 rfl trivial ?_ rfl
 simp only [Try.ntmps10, eF, Nat.reduceAdd, Nat.reduceSub]
 gi_upto_region 0 with fail
 refine rg (fun q1 => [.m (bx 1),
  .v (.bool false)]) (fun q1 L => L ++ [ob ((q1 0).blk 0) #[.int .i64 r, .int .i64 s, .int .i64 n, .int .i64 m, .int .i64 c] 27]) OW ?_
 clear OW; intro q1 _ Wq1 OW; simp only [↓pc, ↓pn, vE, Hint.val, Act.put, eL]
 gi_upto_region 1 with fail
 refine rg (fun q2 => [.c [] [] (danchor),
  .v (.bool false)]) (fun _ L => L) OW ?_
 clear OW; intro q2 _ Wq2 OW; simp only [↓pc, ↓pn, vE, Hint.val, Act.put, eL]
 gi_upto_region 3 with fail
 refine rg (fun q3 => [.m (ls 1 ([.int .i64 r, .int .i64 s, .int .i64 n, .int .i64 m, .int .i64 c])),
  .v (.int .i64 mode),
  .c [] [] (dNewG r s n m c mode hg),
  .v (.tuple #[.pointer none, .int .i64 20]),
  .v (.pointer none),
  .v (.int .i64 20),
  .v (.pointer none),
  .v (.int .i64 20)]) (fun _ L => L) OW ?_
 clear OW; intro q3 _ Wq3 OW; simp only [↓pc, ↓pn, vE, Hint.val, Act.put, eL]
 gi_upto_region 4 with fail
 refine rg (fun q4 => [.v (.int .i64 20),
  .v (.bool true),
  .v (.bool true),
  .d (.bool false),
  .d (.bool false),
  .k (.bool true),
  .v (.bool true),
  .d (.bool false),
  .d (.bool false),
  .d (.bool false),
  .k (.bool true),
  .v (.bool true),
  .d (.bool false),
  .d (.bool false),
  .d (.bool false),
  .k (.bool true)]) (fun _ L => L) OW ?_
 clear OW; intro q4 _ Wq4 OW; simp only [↓pc, ↓pn, vE, Hint.val, Act.put, eL]
 gi_upto_region 5 with fail
 refine rg (fun q5 => [.v (.pointer none),
  .v (.bool true),
  .v (.bool true),
  .d (.bool false),
  .d (.bool false),
  .d (.bool false),
  .k (.bool true),
  .v (.bool true),
  .d (.bool false),
  .d (.bool false),
  .d (.bool false),
  .k (.bool true),
  .v (.bool true)]) (fun _ L => L) OW ?_
 clear OW; intro q5 _ Wq5 OW; simp only [↓pc, ↓pn, vE, Hint.val, Act.put, eL]
 gi_wp2
 exact leafE HS HH OW [.t (.bool true)] Env.zero [] [(0, 0)] rfl
set_option maxRecDepth 100000 in
set_option maxHeartbeats 1000000 in
theorem dstraysM (r s n m c mode : Int) (v : Value) (fs : List Fa) (i : Int) (v2 : Value) (rs : List Bool) (bA : Objs) (h : SrE eFa v fs bA) (h2 : SrE eT v2 rs bA) (hg : gright r s n m c = true) (hm : rightB mode = false) : Con Try.prog 10 #[.agg #[.int .i64 r, .int .i64 s, .int .i64 n, .int .i64 m, .int .i64 c], .int .i64 mode, v, .int .i64 i, v2] [.c bA] [] (fun _ => []) (fun _ => .bool true) := by
 refine Con.of (enters_of Try.func10 (by kernel_rfl) rfl) fun w cs HS HH OW => ?_
 refine (callsIn_wide (n := 6)).1 ?_
 refine callsIn_of_wp_marks Try.func10 rfl trivial ?_ rfl
 simp only [Try.ntmps10, eF, Nat.reduceAdd, Nat.reduceSub]
 gi_upto_region 0 with fail
 refine rg (fun q1 => [.m (bx 1),
  .v (.bool false)]) (fun q1 L => L ++ [ob ((q1 0).blk 0) #[.int .i64 r, .int .i64 s, .int .i64 n, .int .i64 m, .int .i64 c] 27]) OW ?_
 clear OW; intro q1 _ Wq1 OW; simp only [↓pc, ↓pn, vE, Hint.val, Act.put, eL]
 gi_upto_region 1 with fail
 refine rg (fun q2 => [.c [] [] (danchor),
  .v (.bool false)]) (fun _ L => L) OW ?_
 clear OW; intro q2 _ Wq2 OW; simp only [↓pc, ↓pn, vE, Hint.val, Act.put, eL]
 gi_upto_region 3 with fail
 refine rg (fun q3 => [.m (ls 1 ([.int .i64 r, .int .i64 s, .int .i64 n, .int .i64 m, .int .i64 c])),
  .v (.int .i64 mode),
  .c [] [] (dNewM r s n m c mode hg hm),
  .v (.tuple #[.pointer none, .int .i64 21]),
  .v (.pointer none),
  .v (.int .i64 21),
  .v (.pointer none),
  .v (.int .i64 21)]) (fun _ L => L) OW ?_
 clear OW; intro q3 _ Wq3 OW; simp only [↓pc, ↓pn, vE, Hint.val, Act.put, eL]
 gi_upto_region 4 with fail
 refine rg (fun q4 => [.v (.int .i64 21),
  .v (.bool true),
  .v (.bool true),
  .d (.bool false),
  .d (.bool false),
  .k (.bool true),
  .v (.bool true),
  .d (.bool false),
  .d (.bool false),
  .d (.bool false),
  .k (.bool true),
  .v (.bool true),
  .d (.bool false),
  .d (.bool false),
  .d (.bool false),
  .k (.bool true)]) (fun _ L => L) OW ?_
 clear OW; intro q4 _ Wq4 OW; simp only [↓pc, ↓pn, vE, Hint.val, Act.put, eL]
 gi_upto_region 5 with fail
 refine rg (fun q5 => [.v (.pointer none),
  .v (.bool true),
  .v (.bool true),
  .d (.bool false),
  .d (.bool false),
  .d (.bool false),
  .k (.bool true),
  .v (.bool true),
  .d (.bool false),
  .d (.bool false),
  .d (.bool false),
  .k (.bool true),
  .v (.bool true)]) (fun _ L => L) OW ?_
 clear OW; intro q5 _ Wq5 OW; simp only [↓pc, ↓pn, vE, Hint.val, Act.put, eL]
 gi_wp2
 exact leafE HS HH OW [.t (.bool true)] Env.zero [] [(0, 0)] rfl
end Go.Proofs.Ytckhkagkpldoiaa.E
