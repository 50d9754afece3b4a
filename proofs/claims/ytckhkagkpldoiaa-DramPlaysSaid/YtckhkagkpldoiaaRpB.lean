/- The document's chips: put, more, turned; where an access goes; what would be read. -/
import Derived.Test.YtckhkagkpldoiaaRpA
import Derived.WalkKit
import Derived.Sort.CutIn
import Derived.IntWalk
namespace Go.Proofs.Ytckhkagkpldoiaa.E
open Go Go.RowKit Go.Shelf
attribute [local go_sem] Oper.semAt_some
set_option linter.unusedVariables false
set_option linter.unusedSimpArgs false

def putL (cl : List Ce) (i : Int) (r : List UInt8) : Nat → List Ce
  | 0 => [⟨i, r⟩]
  | k + 1 => bif (cl.getD k zCe).i != i then putL cl i r k ++ [cl.getD k zCe] else putL cl i r k
def putC (cl : List Ce) (i : Int) (r : List UInt8) : List Ce := putL cl i r cl.length
theorem putL_len (cl : List Ce) (i : Int) (r : List UInt8) : ∀ k, (putL cl i r k).length ≤ k + 1
  | 0 => Nat.le_refl _
  | k + 1 => by
    have := putL_len cl i r k
    unfold putL
    cases (cl.getD k zCe).i != i
    · show (putL cl i r k).length ≤ _; omega
    · show (putL cl i r k ++ [_]).length ≤ _; simp; omega
theorem lit_sl {α : Type} {en : α → List Value} {z : List Value} {T : TypeId} {g n : Nat} {csv : Array Value} {xs : List α} (hn : xs.length = n) (hc : csv = rowZ (slF en xs) z 0) : ∀ bs, (ob g csv T).sat bs → SlE en z T (.slice (some ⟨g, 0, none⟩) n n) xs bs := fun bs hb => by
  subst hn
  exact .inr ⟨g, 0, rfl, by rw [show bs = [(g, .cells csv T (0, 0))] from hb, hc]⟩
attribute [local irreducible] putL
set_option maxRecDepth 100000 in
set_option maxHeartbeats 1000000 in
theorem rput_c (g0 g1 g2 g3 g4 mode : Int) (v6 v7 v8 : Value) (cl : List Ce) (la co : List Fa) (i : Int) (r : List UInt8) (lr : r.length = 72) (hc : cl.length ≤ 100000) (bq1 : Objs) (hq1 : SqE eFa v7 la bq1) (bq2 : Objs) (hq2 : SqE eFa v8 co bq2) : Con Try.prog 81 #[.agg #[.int .i64 g0, .int .i64 g1, .int .i64 g2, .int .i64 g3, .int .i64 g4, .int .i64 mode, v6, v7, v8], .int .i64 i, .agg (rB 72 r).toArray] [.p (SqE eCe v6 cl), .c bq1, .c bq2] [0] (fun E => [.p (SqE eCe (E.val 0) (putC cl i r))]) (fun E => .agg #[.int .i64 g0, .int .i64 g1, .int .i64 g2, .int .i64 g3, .int .i64 g4, .int .i64 mode, (E.val 0), v7, v8]) := by
 refine Con.of (enters_of Try.func81 (by kernel_rfl) rfl) fun w cs HS HH OW => ?_
 refine (callsIn_wide (n := 6)).1 ?_
 refine callsIn_of_wp_marks Try.func81 rfl trivial ?_ rfl
 simp only [Try.ntmps81, eF, Nat.reduceAdd, Nat.reduceSub]
 gi_upto_region 0 with fail
 refine rg (fun q1 => [.m (bx 3),
  .m (bx 4),
  .m (al 5)]) (fun q1 L => L ++ [ob ((q1 0).blk 0) #[.int .i64 g0, .int .i64 g1, .int .i64 g2, .int .i64 g3, .int .i64 g4, .int .i64 mode, v6, v7, v8] 82, ob ((q1 1).blk 0) (rB 72 r).toArray 40, ob ((q1 2).blk 0) #[.int .i64 0, .int .i64 0, .int .i64 0, .int .i64 0, .int .i64 0, .int .i64 0, .slice none 0 0, .slice none 0 0, .slice none 0 0] 82]) OW ?_
 clear OW; intro q1 _ Wq1 OW; simp only [↓pc, ↓pn, vE, Hint.val, Act.put, eL]
 gi_upto_region 1 with fail
 refine rg (fun q2 => [.v (.int .i64 i),
  .m (ls 4 (rB 72 r)),
  .v (.agg (([.int .i64 i] : List Value) ++ rB 72 r).toArray),
  .m (bs 6 1),
  .v (.slice (some ⟨(q2 3).blk 0, 0, none⟩) 1 1)]) (fun q2 L => L ++ [ob ((q2 3).blk 0) (([.int .i64 i] : List Value) ++ rB 72 r).toArray 159]) OW ?_
 clear OW; intro q2 _ Wq2 OW; simp only [↓pc, ↓pn, vE, Hint.val, Act.put, eL]
 gi_upto_region 2 with fail
 refine rg (fun q3 => [.v (.int .i64 0)]) (fun _ L => L) OW ?_
 clear OW; intro q3 _ Wq3 OW; simp only [↓pc, ↓pn, vE, Hint.val, Act.put, eL]
 gi_wp2
 replace OW := Lib.hid (OwnE.cast (L' := [.p (SqE eCe v6 cl), .c bq1, .c bq2, ob ((q1 0).blk 0) #[.int .i64 g0, .int .i64 g1, .int .i64 g2, .int .i64 g3, .int .i64 g4, .int .i64 mode, v6, v7, v8] 82, ob ((q1 1).blk 0) (rB 72 r).toArray 40, ob ((q1 2).blk 0) #[.int .i64 0, .int .i64 0, .int .i64 0, .int .i64 0, .int .i64 0, .int .i64 0, .slice none 0 0, .slice none 0 0, .slice none 0 0] 82, slCe (.slice (some ⟨(q2 3).blk 0, 0, none⟩) 1 1) ([(⟨i, r⟩ : Ce)])]) (OW.out.weak 6 (y := slCe (.slice (some ⟨(q2 3).blk 0, 0, none⟩) 1 1) ([(⟨i, r⟩ : Ce)])) rfl (lit_sl rfl (by kernel_rfl))) (by kernel_rfl))
 gi_loopw [8, 7] (fun z8 z7 wr => ∃ k : Nat, ∃ vS7 : Value, k ≤ cl.length ∧ z8 = .int .i64 (k : Int) ∧ vS7 = z7 ∧ OwnE (ids cs.flatten) w [.p (SqE eCe v6 cl), .c bq1, .c bq2, ob ((q1 0).blk 0) #[.int .i64 g0, .int .i64 g1, .int .i64 g2, .int .i64 g3, .int .i64 g4, .int .i64 mode, v6, v7, v8] 82, ob ((q1 1).blk 0) (rB 72 r).toArray 40, ob ((q1 2).blk 0) #[.int .i64 0, .int .i64 0, .int .i64 0, .int .i64 0, .int .i64 0, .int .i64 0, .slice none 0 0, .slice none 0 0, .slice none 0 0] 82, slCe vS7 (putL cl i r k)] wr) (fun z8 z7 _ => cl.length - (intOf (z8)).toNat)
 case atStart => exact ⟨0, .slice (some ⟨(q2 3).blk 0, 0, none⟩) 1 1, by omega, rfl, rfl, (by rw [putL]; exact OwnE.cast OW.out (by kernel_rfl))⟩
 case round =>
  obtain ⟨k, vS7, hk5, rfl, rfl, hO⟩ := hrel
  clear OW
  have OW := Lib.hid hO
  clear hO
  gi_upto_region 3 with fail
  refine rg (fun q6 => [.v (.int .i64 (k : Int)),
   .v (.pointer (some ⟨(q1 0).blk 0, 6, none⟩)),
   .m (ld 3 (v6)),
   .m (lenR 0 (.p (SqE eCe v6 cl)) (fun _ h => h.1)),
   .v (.bool (decide ((k : Int) < (cl.length : Int))))]) (fun _ L => L) OW ?_
  clear OW; intro q6 _ Wq6 OW; simp only [↓pc, ↓pn, vE, Hint.val, Act.put, eL]
  cases hB7 : (decide ((k : Int) < (cl.length : Int)))
  case true =>
   have dhB7 := of_decide_eq_true hB7
   gi_upto_region 5 with fail
   refine rg (fun q8 => [.v (.pointer (some ⟨(q1 0).blk 0, 6, none⟩)),
    .m (ld 3 (v6)),
    .v (.int .i64 (k : Int)),
    .m (idxR 0 (.p (SqE eCe v6 cl)) k 73 (fun _ h => h.1) (by omega)),
    .m (fldR 0 (.p (SqE eCe v6 cl)) (k * 73) 0 (fun _ h => h.1) (by omega)),
    .m (ldR (u := .int .i64 ((cl.getD k zCe).i)) (d := zCe) 0 (.p (SqE eCe v6 cl)) k 73 0 (fun _ h => h.1) (fun _ => rfl) (by omega) (Nat.le_of_ble_eq_true rfl) (by kernel_rfl)),
    .v (.int .i64 i),
    .v (.bool (((cl.getD k zCe).i) != i))]) (fun _ L => L) OW ?_
   clear OW; intro q8 _ Wq8 OW; simp only [↓pc, ↓pn, vE, Hint.val, Act.put, eL]
   cases hB9 : (((cl.getD k zCe).i) != i)
   case true =>
    have dhB9 := bne_iff_ne.1 hB9
    gi_upto_region 6 with fail
    refine rg (fun q10 => [.v (vS7),
     .v (.pointer (some ⟨(q1 0).blk 0, 6, none⟩)),
     .m (ld 3 (v6)),
     .v (.int .i64 (k : Int)),
     .m (idxR 0 (.p (SqE eCe v6 cl)) k 73 (fun _ h => h.1) (by omega)),
     .m (lsR (l := ([.int .i64 ((cl.getD k zCe).i)] : List Value) ++ rB 72 ((cl.getD k zCe).r)) (d := zCe) 0 (.p (SqE eCe v6 cl)) k 73 0 (fun _ h => h.1) (fun _ => rfl) (by omega) (Nat.le_of_ble_eq_true rfl) (by kernel_rfl)),
     .m (bs 7 1),
     .m (apB 6 7 slTCe (vS7) (xs := putL cl i r k) (ys := [(⟨((cl.getD k zCe).i), (cl.getD k zCe).r⟩ : Ce)]) h1Ce (fun _ => rfl) (by (have := putL_len cl i r k; simp only [List.length_cons, List.length_nil]; omega))),
     .v ((q10 7).val 0)]) (fun q10 L => L.set 6 (slCe ((q10 7).val 0) ((putL cl i r k) ++ ([(⟨((cl.getD k zCe).i), (cl.getD k zCe).r⟩ : Ce)]))) ++ [ob ((q10 6).blk 0) (([.int .i64 ((cl.getD k zCe).i)] : List Value) ++ rB 72 ((cl.getD k zCe).r)).toArray 159]) OW ?_
    clear OW; intro q10 _ Wq10 OW; simp only [↓pc, ↓pn, vE, Hint.val, Act.put, eL]
    gi_upto_region 4 with fail
    refine rg (fun q11 => [.v (.int .i64 (k : Int)),
     .t (tb (a := .int .i64 (k : Int)) (b := .int .i64 1) fun _ _ _ _ => bin_add_nat (a := k) (b := 1) (by omega)),
     .v (.int .i64 ((k + 1 : Nat) : Int))]) (fun _ L => L) OW ?_
    clear OW; intro q11 _ Wq11 OW; simp only [↓pc, ↓pn, vE, Hint.val, Act.put, eL]
    gi_wp2
    go_roundw
    case rel => exact ⟨k + 1, (q10 7).val 0, by omega, by go_num, rfl, (by rw [putL]; (repeat (first | rw [hB7] | rw [hB9] | rw [cond_true] | rw [cond_false])); exact OwnE.pick OW.out [0, 1, 2, 3, 4, 5, 6] _ (by kernel_rfl))⟩
    case measure => (simp [intOf] <;> omega)
   have dhB9 := Lib.hid (eq_of_bne_false hB9)
   gi_upto_region 4 with fail
   refine rg (fun q12 => [.v (.int .i64 (k : Int)),
    .t (tb (a := .int .i64 (k : Int)) (b := .int .i64 1) fun _ _ _ _ => bin_add_nat (a := k) (b := 1) (by omega)),
    .v (.int .i64 ((k + 1 : Nat) : Int))]) (fun _ L => L) OW ?_
   clear OW; intro q12 _ Wq12 OW; simp only [↓pc, ↓pn, vE, Hint.val, Act.put, eL]
   gi_wp2
   go_roundw
   case rel => exact ⟨k + 1, vS7, by omega, by go_num, rfl, (by rw [putL]; (repeat (first | rw [hB7] | rw [hB9] | rw [cond_true] | rw [cond_false])); exact OwnE.pick OW.out [0, 1, 2, 3, 4, 5, 6] _ (by kernel_rfl))⟩
   case measure => (simp [intOf] <;> omega)
  have dhB7 := of_decide_eq_false hB7
  obtain rfl : cl.length = k := by omega
  gi_upto_region 7 with fail
  refine rg (fun q13 => [.v (vS7),
   .v (.pointer (some ⟨(q1 0).blk 0, 6, none⟩)),
   .m (stV 3 6 (slCe vS7 (putL cl i r cl.length)) vS7 fun bs h => SlE.one ((fun _ h => h) bs h))]) (fun q13 L => L.set 3 (ob ((q1 0).blk 0) #[.int .i64 g0, .int .i64 g1, .int .i64 g2, .int .i64 g3, .int .i64 g4, .int .i64 mode, vS7, v7, v8] 82)) OW ?_
  clear OW; intro q13 _ Wq13 OW; simp only [↓pc, ↓pn, vE, Hint.val, Act.put, eL]
  gi_upto_region 8 with fail
  refine rg (fun q14 => [.m (ls 3 ([.int .i64 g0, .int .i64 g1, .int .i64 g2, .int .i64 g3, .int .i64 g4, .int .i64 mode, vS7, v7, v8])),
   .m (sv 5 ((q1 2).blk 0) 0 82 ([.int .i64 g0, .int .i64 g1, .int .i64 g2, .int .i64 g3, .int .i64 g4, .int .i64 mode, vS7, v7, v8]) #[.int .i64 0, .int .i64 0, .int .i64 0, .int .i64 0, .int .i64 0, .int .i64 0, .slice none 0 0, .slice none 0 0, .slice none 0 0] #[.int .i64 g0, .int .i64 g1, .int .i64 g2, .int .i64 g3, .int .i64 g4, .int .i64 mode, vS7, v7, v8] [(6, slCe vS7 (putL cl i r cl.length))] (by kernel_rfl) (Nat.le_of_ble_eq_true rfl) (fun c5 hc5 => (oc rfl (oc rfl (oc rfl (oc rfl (oc rfl (oc rfl (oc (SlE.one (hc5 _ (.head _))) (oc (SrE.one hq1.1) (oc (SrE.one hq2.1) on0)))))))))))]) (fun q14 L => L.set 5 (ob ((q1 2).blk 0) #[.int .i64 g0, .int .i64 g1, .int .i64 g2, .int .i64 g3, .int .i64 g4, .int .i64 mode, vS7, v7, v8] 82)) OW ?_
  clear OW; intro q14 _ Wq14 OW; simp only [↓pc, ↓pn, vE, Hint.val, Act.put, eL]
  replace OW := Lib.hid (OwnE.cast (L' := [.p (SqE eCe v6 cl), .c bq1, .c bq2, ob ((q1 0).blk 0) #[.int .i64 g0, .int .i64 g1, .int .i64 g2, .int .i64 g3, .int .i64 g4, .int .i64 mode, vS7, v7, v8] 82, ob ((q1 1).blk 0) (rB 72 r).toArray 40, ob ((q1 2).blk 0) #[.int .i64 g0, .int .i64 g1, .int .i64 g2, .int .i64 g3, .int .i64 g4, .int .i64 mode, vS7, v7, v8] 82, .p (SqE eCe vS7 (putL cl i r cl.length))]) (OW.out.weak 6 (y := .p (SqE eCe vS7 (putL cl i r cl.length))) rfl (fun _ h => SlE.sq h)) (by kernel_rfl))
  gi_wp2
  exact leafE HS HH OW [.s ([.int .i64 g0, .int .i64 g1, .int .i64 g2, .int .i64 g3, .int .i64 g4, .int .i64 mode, vS7, v7, v8]) 5] (.l [] [] [vS7]) [6] [(1, 1), (2, 2)] rfl (by kernel_rfl) (by simp only [putC]; (repeat (first | rw [hB7] | rw [cond_true] | rw [cond_false])); kernel_rfl)
theorem rput (g0 g1 g2 g3 g4 mode : Int) (v6 v7 v8 : Value) (cl : List Ce) (la co : List Fa) (i : Int) (r : List UInt8) (lr : r.length = 72) (hc : cl.length ≤ 100000) : Con Try.prog 81 #[.agg #[.int .i64 g0, .int .i64 g1, .int .i64 g2, .int .i64 g3, .int .i64 g4, .int .i64 mode, v6, v7, v8], .int .i64 i, .agg (rB 72 r).toArray] [.p (SqE eCe v6 cl), .p (SqE eFa v7 la), .p (SqE eFa v8 co)] [0] (fun E => [.p (SqE eCe (E.val 0) (putC cl i r))]) (fun E => .agg #[.int .i64 g0, .int .i64 g1, .int .i64 g2, .int .i64 g3, .int .i64 g4, .int .i64 mode, (E.val 0), v7, v8]) :=
 Con.ro 2 rfl (fun bq2 hq2 => Con.ro 1 rfl (fun bq1 hq1 => rput_c g0 g1 g2 g3 g4 mode v6 v7 v8 cl la co i r lr hc bq1 hq1 bq2 hq2) (enters_of Try.func81 (by kernel_rfl) rfl)) (enters_of Try.func81 (by kernel_rfl) rfl)
attribute [local irreducible] putC
set_option maxRecDepth 100000 in
set_option maxHeartbeats 1000000 in
theorem rmore_c (v : Value) (l : List Fa) (f : Fa) (hl : l.length ≤ 100000) (bq0 : Objs) (hq0 : SqE eFa v l bq0) : Con Try.prog 99 #[v, .agg #[.int .i64 f.x0, .int .i64 f.x1, .int .i64 f.x2, .int .i64 f.x3, .int .i64 f.x4, .int .i64 f.x5, .int .i64 f.x6, .int .i64 f.x7]] [.c bq0] [] (fun E => [slFr (E.val 0) (l ++ [f])]) (fun E => (E.val 0)) := by
 refine Con.of (enters_of Try.func99 (by kernel_rfl) rfl) fun w cs HS HH OW => ?_
 refine (callsIn_wide (n := 6)).1 ?_
 refine callsIn_of_wp_marks Try.func99 rfl trivial ?_ rfl
 simp only [Try.ntmps99, eF, Nat.reduceAdd, Nat.reduceSub]
 gi_upto_region 0 with fail
 refine rg (fun q1 => [.m (bx 1),
  .v (.slice none 0 0)]) (fun q1 L => L ++ [ob ((q1 0).blk 0) #[.int .i64 f.x0, .int .i64 f.x1, .int .i64 f.x2, .int .i64 f.x3, .int .i64 f.x4, .int .i64 f.x5, .int .i64 f.x6, .int .i64 f.x7] 31]) OW ?_
 clear OW; intro q1 _ Wq1 OW; simp only [↓pc, ↓pn, vE, Hint.val, Act.put, eL]
 gi_upto_region 1 with fail
 refine rg (fun q2 => [.v (.slice none 0 0)]) (fun _ L => L) OW ?_
 clear OW; intro q2 _ Wq2 OW; simp only [↓pc, ↓pn, vE, Hint.val, Act.put, eL]
 gi_upto_region 2 with fail
 replace OW := Lib.hid (OW.out.nilS eFa [.int .i64 0, .int .i64 0, .int .i64 0, .int .i64 0, .int .i64 0, .int .i64 0, .int .i64 0, .int .i64 0] 31)
 refine rg (fun q4 => [.v (.slice none 0 0),
  .v (v),
  .m (apS 2 0 slTFr (.slice none 0 0) (v) (xs := []) (ys := l) (.c bq0) (cP hq0.1) h1Fr (fun _ => rfl) (by (simp only [List.length_append, List.length_cons, List.length_nil]; omega))),
  .v ((q4 2).val 0)]) (fun q4 L => L.set 2 (slFr ((q4 2).val 0) (([]) ++ l))) OW ?_
 clear OW; intro q4 _ Wq4 OW; simp only [↓pc, ↓pn, vE, Hint.val, Act.put, eL]
 gi_upto_region 3 with fail
 refine rg (fun q5 => [.v ((q4 2).val 0),
  .m (ls 1 ([.int .i64 f.x0, .int .i64 f.x1, .int .i64 f.x2, .int .i64 f.x3, .int .i64 f.x4, .int .i64 f.x5, .int .i64 f.x6, .int .i64 f.x7])),
  .m (bs 3 1),
  .m (apB 2 3 slTFr ((q4 2).val 0) (xs := ([]) ++ l) (ys := [f]) h1Fr (fun _ => rfl) (by (simp only [List.length_append, List.length_cons, List.length_nil]; omega))),
  .v ((q5 3).val 0)]) (fun q5 L => L.set 2 (slFr ((q5 3).val 0) ((([]) ++ l) ++ ([f]))) ++ [ob ((q5 2).blk 0) #[.int .i64 f.x0, .int .i64 f.x1, .int .i64 f.x2, .int .i64 f.x3, .int .i64 f.x4, .int .i64 f.x5, .int .i64 f.x6, .int .i64 f.x7] 31]) OW ?_
 clear OW; intro q5 _ Wq5 OW; simp only [↓pc, ↓pn, vE, Hint.val, Act.put, eL]
 gi_wp2
 exact leafE HS HH OW [.t ((q5 3).val 0)] (.l [] [] [(q5 3).val 0]) [2] [(0, 0)] rfl (by kernel_rfl) (by (repeat (first | rw [cond_true] | rw [cond_false])); kernel_rfl)
theorem rmore (v : Value) (l : List Fa) (f : Fa) (hl : l.length ≤ 100000) : Con Try.prog 99 #[v, .agg #[.int .i64 f.x0, .int .i64 f.x1, .int .i64 f.x2, .int .i64 f.x3, .int .i64 f.x4, .int .i64 f.x5, .int .i64 f.x6, .int .i64 f.x7]] [.p (SqE eFa v l)] [] (fun E => [slFr (E.val 0) (l ++ [f])]) (fun E => (E.val 0)) :=
 Con.ro 0 rfl (fun bq0 hq0 => rmore_c v l f hl bq0 hq0) (enters_of Try.func99 (by kernel_rfl) rfl)
end Go.Proofs.Ytckhkagkpldoiaa.E
