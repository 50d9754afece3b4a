/- The document's chips: faults put in; where an access goes; what would be read. -/
import Derived.Test.YtckhkagkpldoiaaRpB
import Derived.WalkKit
import Derived.Sort.CutIn
import Derived.IntWalk
namespace Go.Proofs.Ytckhkagkpldoiaa.E
open Go Go.RowKit Go.Shelf
attribute [local go_sem] Oper.semAt_some
set_option linter.unusedVariables false
set_option linter.unusedSimpArgs false

/-- A place within the bounds of all geometries. -/
def PlB (f : Fa) : Prop := (0 ≤ f.x1 ∧ f.x1 ≤ 1000000) ∧ (0 ≤ f.x2 ∧ f.x2 ≤ 1000000) ∧ (0 ≤ f.x3 ∧ f.x3 ≤ 1000000) ∧ (0 ≤ f.x4 ∧ f.x4 ≤ 1000000)
theorem fr_bd {k p0 p1 p2 p3 c b v r s n m l mode : Int} (h : (!fright11 k p0 p1 p2 p3 c b v r s n m l mode) = false) : (0 ≤ p0 ∧ p0 ≤ 1000000) ∧ (0 ≤ p1 ∧ p1 ≤ 1000000) ∧ (0 ≤ p2 ∧ p2 ≤ 1000000) ∧ (0 ≤ p3 ∧ p3 ≤ 1000000) := by
  have hh : rholds r s n m l p0 p1 p2 p3 = true := by
    cases hr : rholds r s n m l p0 p1 p2 p3
    · exfalso
      unfold fright11 at h
      rw [hr] at h
      simp at h
    · rfl
  rw [← gholds_eq] at hh
  obtain ⟨⟨a0, b0⟩, ⟨a1, b1⟩, ⟨a2, b2⟩, a3, b3⟩ := gholds_bd hh
  exact ⟨⟨a0, by omega⟩, ⟨a1, by omega⟩, ⟨a2, by omega⟩, a3, by omega⟩
attribute [local irreducible] getC putC fright11 fapply11 forceI rholds
def rinj_0 (g0 : Int) (g1 : Int) (g2 : Int) (g3 : Int) (g4 : Int) (mode : Int) (la : List Fa) (co : List Fa) (f : Fa) : Int := (bif !(fright11 f.x0 f.x1 f.x2 f.x3 f.x4 f.x5 f.x6 f.x7 g0 g1 g2 g3 g4 mode) then 10 else (bif f.x0 == 1 then 0 else (bif decide (f.x0 ≤ 5) then (bif decide (256 ≤ (la.length : Int)) then 14 else 0) else (bif decide (256 ≤ (co.length : Int)) then 14 else 0))))
def rinj_1 (g0 : Int) (g1 : Int) (g2 : Int) (g3 : Int) (g4 : Int) (mode : Int) (cl : List Ce) (f : Fa) : List Ce := (bif !(fright11 f.x0 f.x1 f.x2 f.x3 f.x4 f.x5 f.x6 f.x7 g0 g1 g2 g3 g4 mode) then cl else (bif f.x0 == 1 then (bif decide (forceI (getC cl ((((1048576 * f.x1) + (65536 * f.x2)) + (64 * f.x3)) + f.x4)) f.x6 1 = getC cl ((((1048576 * f.x1) + (65536 * f.x2)) + (64 * f.x3)) + f.x4)) then putC cl ((((1048576 * f.x1) + (65536 * f.x2)) + (64 * f.x3)) + f.x4) (forceI (getC cl ((((1048576 * f.x1) + (65536 * f.x2)) + (64 * f.x3)) + f.x4)) f.x6 0) else putC cl ((((1048576 * f.x1) + (65536 * f.x2)) + (64 * f.x3)) + f.x4) (forceI (getC cl ((((1048576 * f.x1) + (65536 * f.x2)) + (64 * f.x3)) + f.x4)) f.x6 1)) else cl))
def rinj_2 (g0 : Int) (g1 : Int) (g2 : Int) (g3 : Int) (g4 : Int) (mode : Int) (la : List Fa) (f : Fa) : List Fa := (bif !(fright11 f.x0 f.x1 f.x2 f.x3 f.x4 f.x5 f.x6 f.x7 g0 g1 g2 g3 g4 mode) then la else (bif f.x0 == 1 then la else (bif decide (f.x0 ≤ 5) then (bif decide (256 ≤ (la.length : Int)) then la else la ++ [f]) else la)))
def rinj_3 (g0 : Int) (g1 : Int) (g2 : Int) (g3 : Int) (g4 : Int) (mode : Int) (co : List Fa) (f : Fa) : List Fa := (bif !(fright11 f.x0 f.x1 f.x2 f.x3 f.x4 f.x5 f.x6 f.x7 g0 g1 g2 g3 g4 mode) then co else (bif f.x0 == 1 then co else (bif decide (f.x0 ≤ 5) then co else (bif decide (256 ≤ (co.length : Int)) then co else co ++ [f]))))
set_option maxRecDepth 100000 in
set_option maxHeartbeats 1000000 in
theorem rinj (g0 g1 g2 g3 g4 mode : Int) (v6 v7 v8 : Value) (cl : List Ce) (la co : List Fa) (f : Fa) (hc : cl.length ≤ 100000) (h7 : la.length ≤ 256) (h8 : co.length ≤ 256) (hcl : ∀ c ∈ cl, c.r.length = 72) (hf : FaOk f) : Con Try.prog 79 #[.agg #[.int .i64 g0, .int .i64 g1, .int .i64 g2, .int .i64 g3, .int .i64 g4, .int .i64 mode, v6, v7, v8], .agg #[.int .i64 f.x0, .int .i64 f.x1, .int .i64 f.x2, .int .i64 f.x3, .int .i64 f.x4, .int .i64 f.x5, .int .i64 f.x6, .int .i64 f.x7]] [.p (SqE eCe v6 cl), .p (SqE eFa v7 la), .p (SqE eFa v8 co)] [0, 1, 2] (fun E => [.p (SqE eCe (E.val 0) (rinj_1 g0 g1 g2 g3 g4 mode cl f)), .p (SqE eFa (E.val 1) (rinj_2 g0 g1 g2 g3 g4 mode la f)), .p (SqE eFa (E.val 2) (rinj_3 g0 g1 g2 g3 g4 mode co f))]) (fun E => .tuple #[.agg #[.int .i64 g0, .int .i64 g1, .int .i64 g2, .int .i64 g3, .int .i64 g4, .int .i64 mode, (E.val 0), (E.val 1), (E.val 2)], .int .i64 (rinj_0 g0 g1 g2 g3 g4 mode la co f)]) := by
 refine Con.of (enters_of Try.func79 (by kernel_rfl) rfl) fun w cs HS HH OW => ?_
 obtain ⟨hf1, hf2⟩ := hf
 have HGL := fun i => getC_len hcl i
 refine (callsIn_wide (n := 6)).1 ?_
 refine callsIn_of_wp_marks Try.func79 rfl trivial ?_ rfl
 simp only [Try.ntmps79, eF, Nat.reduceAdd, Nat.reduceSub]
 gi_upto_region 0 with fail
 refine rg (fun q1 => [.m (bx 3),
  .m (bx 4),
  .m (al 5),
  .v (.int .i64 0)]) (fun q1 L => L ++ [ob ((q1 0).blk 0) #[.int .i64 g0, .int .i64 g1, .int .i64 g2, .int .i64 g3, .int .i64 g4, .int .i64 mode, v6, v7, v8] 82, ob ((q1 1).blk 0) #[.int .i64 f.x0, .int .i64 f.x1, .int .i64 f.x2, .int .i64 f.x3, .int .i64 f.x4, .int .i64 f.x5, .int .i64 f.x6, .int .i64 f.x7] 31, ob ((q1 2).blk 0) #[.int .i64 0, .int .i64 0, .int .i64 0, .int .i64 0, .int .i64 0, .int .i64 0, .slice none 0 0, .slice none 0 0, .slice none 0 0] 82]) OW ?_
 clear OW; intro q1 _ Wq1 OW; simp only [↓pc, ↓pn, vE, Hint.val, Act.put, eL]
 gi_upto_region 1 with fail
 refine rg (fun q2 => [.m (ls 4 ([.int .i64 f.x0, .int .i64 f.x1, .int .i64 f.x2, .int .i64 f.x3, .int .i64 f.x4, .int .i64 f.x5, .int .i64 f.x6, .int .i64 f.x7])),
  .v (.pointer (some ⟨(q1 0).blk 0, 0, none⟩)),
  .m (ls 3 ([.int .i64 g0, .int .i64 g1, .int .i64 g2, .int .i64 g3, .int .i64 g4])),
  .v (.pointer (some ⟨(q1 0).blk 0, 5, none⟩)),
  .m (ld 3 (.int .i64 mode)),
  .c [] [] (conB (enters_of Try.func18 (by kernel_rfl) rfl) fun w' => (fright11_any f.x0 f.x1 f.x2 f.x3 f.x4 f.x5 f.x6 f.x7 g0 g1 g2 g3 g4 mode _)),
  .v (.bool (!(fright11 f.x0 f.x1 f.x2 f.x3 f.x4 f.x5 f.x6 f.x7 g0 g1 g2 g3 g4 mode)))]) (fun _ L => L) OW ?_
 clear OW; intro q2 _ Wq2 OW; simp only [↓pc, ↓pn, vE, Hint.val, Act.put, eL]
 cases hB3 : (!(fright11 f.x0 f.x1 f.x2 f.x3 f.x4 f.x5 f.x6 f.x7 g0 g1 g2 g3 g4 mode))
 case true =>
  gi_upto_region 2 with fail
  refine rg (fun q4 => [.m (ls 3 ([.int .i64 g0, .int .i64 g1, .int .i64 g2, .int .i64 g3, .int .i64 g4, .int .i64 mode, v6, v7, v8])),
   .m (sv 5 ((q1 2).blk 0) 0 82 ([.int .i64 g0, .int .i64 g1, .int .i64 g2, .int .i64 g3, .int .i64 g4, .int .i64 mode, v6, v7, v8]) #[.int .i64 0, .int .i64 0, .int .i64 0, .int .i64 0, .int .i64 0, .int .i64 0, .slice none 0 0, .slice none 0 0, .slice none 0 0] #[.int .i64 g0, .int .i64 g1, .int .i64 g2, .int .i64 g3, .int .i64 g4, .int .i64 mode, v6, v7, v8] [(0, .p (SqE eCe v6 cl)), (1, .p (SqE eFa v7 la)), (2, .p (SqE eFa v8 co))] (by kernel_rfl) (Nat.le_of_ble_eq_true rfl) (fun c5 hc5 => (oc rfl (oc rfl (oc rfl (oc rfl (oc rfl (oc rfl (oc (SqE.one (hc5 _ (.head _))) (oc (SqE.one (hc5 _ (.tail _ (.head _)))) (oc (SqE.one (hc5 _ (.tail _ (.tail _ (.head _))))) on0))))))))))),
   .v (.int .i64 10)]) (fun q4 L => L.set 5 (ob ((q1 2).blk 0) #[.int .i64 g0, .int .i64 g1, .int .i64 g2, .int .i64 g3, .int .i64 g4, .int .i64 mode, v6, v7, v8] 82)) OW ?_
  clear OW; intro q4 _ Wq4 OW; simp only [↓pc, ↓pn, vE, Hint.val, Act.put, eL]
  gi_wp2
  exact leafE HS HH OW [.s ([.int .i64 g0, .int .i64 g1, .int .i64 g2, .int .i64 g3, .int .i64 g4, .int .i64 mode, v6, v7, v8]) 5, .t (.int .i64 10)] (.l [] [] [v6, v7, v8]) [0, 1, 2] [] (by (try simp only [rinj_0, rinj_1, rinj_2, rinj_3]); (repeat (first | rw [hB3] | rw [cond_true] | rw [cond_false])); first | rfl | kernel_rfl) (by kernel_rfl) (by (try simp only [rinj_0, rinj_1, rinj_2, rinj_3]); (repeat (first | rw [hB3] | rw [cond_true] | rw [cond_false])); kernel_rfl)
 gi_upto_region 3 with fail
 obtain ⟨⟨pa1, pa2⟩, ⟨pa3, pa4⟩, ⟨pa5, pa6⟩, pa7, pa8⟩ := fr_bd hB3
 refine rg (fun q5 => [.v (.pointer (some ⟨(q1 1).blk 0, 0, none⟩)),
  .m (ld 4 (.int .i64 f.x0)),
  .v (.bool (f.x0 == 1))]) (fun _ L => L) OW ?_
 clear OW; intro q5 _ Wq5 OW; simp only [↓pc, ↓pn, vE, Hint.val, Act.put, eL]
 cases hB6 : (f.x0 == 1)
 case true =>
  have dhB6 := Lib.hid (eq_of_beq hB6)
  gi_upto_region 4 with fail
  refine rg (fun q7 => [.v (.pointer (some ⟨(q1 1).blk 0, 1, none⟩)),
   .m (ls 4 ([.int .i64 f.x1, .int .i64 f.x2, .int .i64 f.x3, .int .i64 f.x4])),
   .c [] [] (rIdx f.x1 f.x2 f.x3 f.x4 (by omega) (by omega) (by omega) (by omega) (by omega) (by omega) (by omega) (by omega)),
   .v (.int .i64 ((((1048576 * f.x1) + (65536 * f.x2)) + (64 * f.x3)) + f.x4))]) (fun _ L => L) OW ?_
  clear OW; intro q7 _ Wq7 OW; simp only [↓pc, ↓pn, vE, Hint.val, Act.put, eL]
  gi_upto_region 5 with fail
  refine rg (fun q8 => [.m (ls 3 ([.int .i64 g0, .int .i64 g1, .int .i64 g2, .int .i64 g3, .int .i64 g4, .int .i64 mode, v6, v7, v8])),
   .v (.int .i64 ((((1048576 * f.x1) + (65536 * f.x2)) + (64 * f.x3)) + f.x4)),
   .c [0] [] (rget g0 g1 g2 g3 g4 mode v6 v7 v8 cl ((((1048576 * f.x1) + (65536 * f.x2)) + (64 * f.x3)) + f.x4) (by omega)),
   .m (al 6),
   .m (ss 6)]) (fun q8 L => L ++ [ob ((q8 3).blk 0) (rB 72 (getC cl ((((1048576 * f.x1) + (65536 * f.x2)) + (64 * f.x3)) + f.x4))).toArray 40]) OW ?_
  clear OW; intro q8 _ Wq8 OW; simp only [↓pc, ↓pn, vE, Hint.val, Act.put, eL]
  gi_upto_region 6 with fail
  refine rg (fun q9 => [.m (ls 6 (rB 72 (getC cl ((((1048576 * f.x1) + (65536 * f.x2)) + (64 * f.x3)) + f.x4)))),
   .v (.pointer (some ⟨(q1 1).blk 0, 6, none⟩)),
   .m (ld 4 (.int .i64 f.x6)),
   .c [] [] (show Con _ 37 #[.agg (rB 72 (getC cl ((((1048576 * f.x1) + (65536 * f.x2)) + (64 * f.x3)) + f.x4))).toArray, .int .i64 f.x6, .int .i64 1] _ _ _ fun _ => .agg (rB 72 (forceI (getC cl ((((1048576 * f.x1) + (65536 * f.x2)) + (64 * f.x3)) + f.x4)) f.x6 1)).toArray from conB (enters_of Try.func37 (by kernel_rfl) rfl) fun w' => (by rw [rB_raw (n := 72) (xs := getC cl ((((1048576 * f.x1) + (65536 * f.x2)) + (64 * f.x3)) + f.x4)) (show (getC cl ((((1048576 * f.x1) + (65536 * f.x2)) + (64 * f.x3)) + f.x4)).length = 72 by first | rfl | (simp only [List.length_set, List.length_append, List.length_replicate, List.length_cons, List.length_nil, List.length_map, List.length_range, List.length_take, List.length_drop, HGL, forceI_len]; done) | (simp only [List.length_set, List.length_append, List.length_replicate, List.length_cons, List.length_nil, List.length_map, List.length_range, List.length_take, List.length_drop, HGL, forceI_len]; omega)), rB_raw (n := 72) (xs := forceI (getC cl ((((1048576 * f.x1) + (65536 * f.x2)) + (64 * f.x3)) + f.x4)) f.x6 1) (show (forceI (getC cl ((((1048576 * f.x1) + (65536 * f.x2)) + (64 * f.x3)) + f.x4)) f.x6 1).length = 72 by first | rfl | (simp only [List.length_set, List.length_append, List.length_replicate, List.length_cons, List.length_nil, List.length_map, List.length_range, List.length_take, List.length_drop, HGL, forceI_len]; done) | (simp only [List.length_set, List.length_append, List.length_replicate, List.length_cons, List.length_nil, List.length_map, List.length_range, List.length_take, List.length_drop, HGL, forceI_len]; omega))]; exact refForce_any (getC cl ((((1048576 * f.x1) + (65536 * f.x2)) + (64 * f.x3)) + f.x4)) (by first | rfl | (simp only [List.length_set, List.length_append, List.length_replicate, List.length_cons, List.length_nil, List.length_map, List.length_range, List.length_take, List.length_drop, HGL, forceI_len]; done) | (simp only [List.length_set, List.length_append, List.length_replicate, List.length_cons, List.length_nil, List.length_map, List.length_range, List.length_take, List.length_drop, HGL, forceI_len]; omega)) f.x6 1 (by omega) (by omega) _)),
   .m (al 7),
   .m (ss 7)]) (fun q9 L => L ++ [ob ((q9 4).blk 0) (rB 72 (forceI (getC cl ((((1048576 * f.x1) + (65536 * f.x2)) + (64 * f.x3)) + f.x4)) f.x6 1)).toArray 40]) OW ?_
  clear OW; intro q9 _ Wq9 OW; simp only [↓pc, ↓pn, vE, Hint.val, Act.put, eL]
  gi_upto_region 7 with fail
  refine rg (fun q10 => [.m (ls 7 (rB 72 (forceI (getC cl ((((1048576 * f.x1) + (65536 * f.x2)) + (64 * f.x3)) + f.x4)) f.x6 1))),
   .m (ls 6 (rB 72 (getC cl ((((1048576 * f.x1) + (65536 * f.x2)) + (64 * f.x3)) + f.x4)))),
   .t (tbT 40 fun _ _ _ => bin_eqT (xs := rB 72 (forceI (getC cl ((((1048576 * f.x1) + (65536 * f.x2)) + (64 * f.x3)) + f.x4)) f.x6 1)) (ys := rB 72 (getC cl ((((1048576 * f.x1) + (65536 * f.x2)) + (64 * f.x3)) + f.x4))) (by kernel_rfl) (eqc_rB (show (forceI (getC cl ((((1048576 * f.x1) + (65536 * f.x2)) + (64 * f.x3)) + f.x4)) f.x6 1).length = 72 by first | rfl | (simp only [List.length_set, List.length_append, List.length_replicate, List.length_cons, List.length_nil, List.length_map, List.length_range, List.length_take, List.length_drop, HGL, forceI_len]; done) | (simp only [List.length_set, List.length_append, List.length_replicate, List.length_cons, List.length_nil, List.length_map, List.length_range, List.length_take, List.length_drop, HGL, forceI_len]; omega)) (show (getC cl ((((1048576 * f.x1) + (65536 * f.x2)) + (64 * f.x3)) + f.x4)).length = 72 by first | rfl | (simp only [List.length_set, List.length_append, List.length_replicate, List.length_cons, List.length_nil, List.length_map, List.length_range, List.length_take, List.length_drop, HGL, forceI_len]; done) | (simp only [List.length_set, List.length_append, List.length_replicate, List.length_cons, List.length_nil, List.length_map, List.length_range, List.length_take, List.length_drop, HGL, forceI_len]; omega))))]) (fun _ L => L) OW ?_
  clear OW; intro q10 _ Wq10 OW; simp only [↓pc, ↓pn, vE, Hint.val, Act.put, eL]
  cases hB11 : (decide (forceI (getC cl ((((1048576 * f.x1) + (65536 * f.x2)) + (64 * f.x3)) + f.x4)) f.x6 1 = getC cl ((((1048576 * f.x1) + (65536 * f.x2)) + (64 * f.x3)) + f.x4)))
  case true =>
   have dhB11 := of_decide_eq_true hB11
   gi_upto_region 8 with fail
   refine rg (fun q12 => [.m (ls 6 (rB 72 (getC cl ((((1048576 * f.x1) + (65536 * f.x2)) + (64 * f.x3)) + f.x4)))),
    .v (.pointer (some ⟨(q1 1).blk 0, 6, none⟩)),
    .m (ld 4 (.int .i64 f.x6)),
    .c [] [] (show Con _ 37 #[.agg (rB 72 (getC cl ((((1048576 * f.x1) + (65536 * f.x2)) + (64 * f.x3)) + f.x4))).toArray, .int .i64 f.x6, .int .i64 0] _ _ _ fun _ => .agg (rB 72 (forceI (getC cl ((((1048576 * f.x1) + (65536 * f.x2)) + (64 * f.x3)) + f.x4)) f.x6 0)).toArray from conB (enters_of Try.func37 (by kernel_rfl) rfl) fun w' => (by rw [rB_raw (n := 72) (xs := getC cl ((((1048576 * f.x1) + (65536 * f.x2)) + (64 * f.x3)) + f.x4)) (show (getC cl ((((1048576 * f.x1) + (65536 * f.x2)) + (64 * f.x3)) + f.x4)).length = 72 by first | rfl | (simp only [List.length_set, List.length_append, List.length_replicate, List.length_cons, List.length_nil, List.length_map, List.length_range, List.length_take, List.length_drop, HGL, forceI_len]; done) | (simp only [List.length_set, List.length_append, List.length_replicate, List.length_cons, List.length_nil, List.length_map, List.length_range, List.length_take, List.length_drop, HGL, forceI_len]; omega)), rB_raw (n := 72) (xs := forceI (getC cl ((((1048576 * f.x1) + (65536 * f.x2)) + (64 * f.x3)) + f.x4)) f.x6 0) (show (forceI (getC cl ((((1048576 * f.x1) + (65536 * f.x2)) + (64 * f.x3)) + f.x4)) f.x6 0).length = 72 by first | rfl | (simp only [List.length_set, List.length_append, List.length_replicate, List.length_cons, List.length_nil, List.length_map, List.length_range, List.length_take, List.length_drop, HGL, forceI_len]; done) | (simp only [List.length_set, List.length_append, List.length_replicate, List.length_cons, List.length_nil, List.length_map, List.length_range, List.length_take, List.length_drop, HGL, forceI_len]; omega))]; exact refForce_any (getC cl ((((1048576 * f.x1) + (65536 * f.x2)) + (64 * f.x3)) + f.x4)) (by first | rfl | (simp only [List.length_set, List.length_append, List.length_replicate, List.length_cons, List.length_nil, List.length_map, List.length_range, List.length_take, List.length_drop, HGL, forceI_len]; done) | (simp only [List.length_set, List.length_append, List.length_replicate, List.length_cons, List.length_nil, List.length_map, List.length_range, List.length_take, List.length_drop, HGL, forceI_len]; omega)) f.x6 0 (by omega) (by omega) _)),
    .m (ss 7)]) (fun q12 L => L.set 7 (ob ((q9 4).blk 0) (rB 72 (forceI (getC cl ((((1048576 * f.x1) + (65536 * f.x2)) + (64 * f.x3)) + f.x4)) f.x6 0)).toArray 40)) OW ?_
   clear OW; intro q12 _ Wq12 OW; simp only [↓pc, ↓pn, vE, Hint.val, Act.put, eL]
   gi_upto_region 9 with fail
   refine rg (fun q13 => [.m (ls 3 ([.int .i64 g0, .int .i64 g1, .int .i64 g2, .int .i64 g3, .int .i64 g4, .int .i64 mode, v6, v7, v8])),
    .v (.int .i64 ((((1048576 * f.x1) + (65536 * f.x2)) + (64 * f.x3)) + f.x4)),
    .m (ls 7 (rB 72 (forceI (getC cl ((((1048576 * f.x1) + (65536 * f.x2)) + (64 * f.x3)) + f.x4)) f.x6 0))),
    .c [0, 1, 2] [0] (rput g0 g1 g2 g3 g4 mode v6 v7 v8 cl la co ((((1048576 * f.x1) + (65536 * f.x2)) + (64 * f.x3)) + f.x4) (forceI (getC cl ((((1048576 * f.x1) + (65536 * f.x2)) + (64 * f.x3)) + f.x4)) f.x6 0) (by first | rfl | (simp only [List.length_set, List.length_append, List.length_replicate, List.length_cons, List.length_nil, List.length_map, List.length_range, List.length_take, List.length_drop, HGL, forceI_len]; done) | (simp only [List.length_set, List.length_append, List.length_replicate, List.length_cons, List.length_nil, List.length_map, List.length_range, List.length_take, List.length_drop, HGL, forceI_len]; omega)) (by omega)),
    .m (sv 5 ((q1 2).blk 0) 0 82 ([.int .i64 g0, .int .i64 g1, .int .i64 g2, .int .i64 g3, .int .i64 g4, .int .i64 mode, ((q13 3).val 0), v7, v8]) #[.int .i64 0, .int .i64 0, .int .i64 0, .int .i64 0, .int .i64 0, .int .i64 0, .slice none 0 0, .slice none 0 0, .slice none 0 0] #[.int .i64 g0, .int .i64 g1, .int .i64 g2, .int .i64 g3, .int .i64 g4, .int .i64 mode, ((q13 3).val 0), v7, v8] [(0, .p (SqE eCe ((q13 3).val 0) (putC cl ((((1048576 * f.x1) + (65536 * f.x2)) + (64 * f.x3)) + f.x4) (forceI (getC cl ((((1048576 * f.x1) + (65536 * f.x2)) + (64 * f.x3)) + f.x4)) f.x6 0)))), (1, .p (SqE eFa v7 la)), (2, .p (SqE eFa v8 co))] (by kernel_rfl) (Nat.le_of_ble_eq_true rfl) (fun c5 hc5 => (oc rfl (oc rfl (oc rfl (oc rfl (oc rfl (oc rfl (oc (SqE.one (hc5 _ (.head _))) (oc (SqE.one (hc5 _ (.tail _ (.head _)))) (oc (SqE.one (hc5 _ (.tail _ (.tail _ (.head _))))) on0))))))))))),
    .v (.int .i64 0)]) (fun q13 L => (L.set 0 (.p (SqE eCe ((q13 3).val 0) (putC cl ((((1048576 * f.x1) + (65536 * f.x2)) + (64 * f.x3)) + f.x4) (forceI (getC cl ((((1048576 * f.x1) + (65536 * f.x2)) + (64 * f.x3)) + f.x4)) f.x6 0))))).set 5 (ob ((q1 2).blk 0) #[.int .i64 g0, .int .i64 g1, .int .i64 g2, .int .i64 g3, .int .i64 g4, .int .i64 mode, ((q13 3).val 0), v7, v8] 82)) OW ?_
   clear OW; intro q13 _ Wq13 OW; simp only [↓pc, ↓pn, vE, Hint.val, Act.put, eL]
   gi_wp2
   exact leafE HS HH OW [.s ([.int .i64 g0, .int .i64 g1, .int .i64 g2, .int .i64 g3, .int .i64 g4, .int .i64 mode, ((q13 3).val 0), v7, v8]) 5, .t (.int .i64 0)] (.l [] [] [((q13 3).val 0), v7, v8, (q13 3).val 0]) [0, 1, 2] [] (by (try simp only [rinj_0, rinj_1, rinj_2, rinj_3]); (repeat (first | rw [hB3] | rw [hB6] | rw [hB11] | rw [cond_true] | rw [cond_false])); first | rfl | kernel_rfl) (by kernel_rfl) (by (try simp only [rinj_0, rinj_1, rinj_2, rinj_3]); (repeat (first | rw [hB3] | rw [hB6] | rw [hB11] | rw [cond_true] | rw [cond_false])); kernel_rfl)
  have dhB11 := of_decide_eq_false hB11
  gi_upto_region 9 with fail
  refine rg (fun q14 => [.m (ls 3 ([.int .i64 g0, .int .i64 g1, .int .i64 g2, .int .i64 g3, .int .i64 g4, .int .i64 mode, v6, v7, v8])),
   .v (.int .i64 ((((1048576 * f.x1) + (65536 * f.x2)) + (64 * f.x3)) + f.x4)),
   .m (ls 7 (rB 72 (forceI (getC cl ((((1048576 * f.x1) + (65536 * f.x2)) + (64 * f.x3)) + f.x4)) f.x6 1))),
   .c [0, 1, 2] [0] (rput g0 g1 g2 g3 g4 mode v6 v7 v8 cl la co ((((1048576 * f.x1) + (65536 * f.x2)) + (64 * f.x3)) + f.x4) (forceI (getC cl ((((1048576 * f.x1) + (65536 * f.x2)) + (64 * f.x3)) + f.x4)) f.x6 1) (by first | rfl | (simp only [List.length_set, List.length_append, List.length_replicate, List.length_cons, List.length_nil, List.length_map, List.length_range, List.length_take, List.length_drop, HGL, forceI_len]; done) | (simp only [List.length_set, List.length_append, List.length_replicate, List.length_cons, List.length_nil, List.length_map, List.length_range, List.length_take, List.length_drop, HGL, forceI_len]; omega)) (by omega)),
   .m (sv 5 ((q1 2).blk 0) 0 82 ([.int .i64 g0, .int .i64 g1, .int .i64 g2, .int .i64 g3, .int .i64 g4, .int .i64 mode, ((q14 3).val 0), v7, v8]) #[.int .i64 0, .int .i64 0, .int .i64 0, .int .i64 0, .int .i64 0, .int .i64 0, .slice none 0 0, .slice none 0 0, .slice none 0 0] #[.int .i64 g0, .int .i64 g1, .int .i64 g2, .int .i64 g3, .int .i64 g4, .int .i64 mode, ((q14 3).val 0), v7, v8] [(0, .p (SqE eCe ((q14 3).val 0) (putC cl ((((1048576 * f.x1) + (65536 * f.x2)) + (64 * f.x3)) + f.x4) (forceI (getC cl ((((1048576 * f.x1) + (65536 * f.x2)) + (64 * f.x3)) + f.x4)) f.x6 1)))), (1, .p (SqE eFa v7 la)), (2, .p (SqE eFa v8 co))] (by kernel_rfl) (Nat.le_of_ble_eq_true rfl) (fun c5 hc5 => (oc rfl (oc rfl (oc rfl (oc rfl (oc rfl (oc rfl (oc (SqE.one (hc5 _ (.head _))) (oc (SqE.one (hc5 _ (.tail _ (.head _)))) (oc (SqE.one (hc5 _ (.tail _ (.tail _ (.head _))))) on0))))))))))),
   .v (.int .i64 0)]) (fun q14 L => (L.set 0 (.p (SqE eCe ((q14 3).val 0) (putC cl ((((1048576 * f.x1) + (65536 * f.x2)) + (64 * f.x3)) + f.x4) (forceI (getC cl ((((1048576 * f.x1) + (65536 * f.x2)) + (64 * f.x3)) + f.x4)) f.x6 1))))).set 5 (ob ((q1 2).blk 0) #[.int .i64 g0, .int .i64 g1, .int .i64 g2, .int .i64 g3, .int .i64 g4, .int .i64 mode, ((q14 3).val 0), v7, v8] 82)) OW ?_
  clear OW; intro q14 _ Wq14 OW; simp only [↓pc, ↓pn, vE, Hint.val, Act.put, eL]
  gi_wp2
  exact leafE HS HH OW [.s ([.int .i64 g0, .int .i64 g1, .int .i64 g2, .int .i64 g3, .int .i64 g4, .int .i64 mode, ((q14 3).val 0), v7, v8]) 5, .t (.int .i64 0)] (.l [] [] [((q14 3).val 0), v7, v8, (q14 3).val 0]) [0, 1, 2] [] (by (try simp only [rinj_0, rinj_1, rinj_2, rinj_3]); (repeat (first | rw [hB3] | rw [hB6] | rw [hB11] | rw [cond_true] | rw [cond_false])); first | rfl | kernel_rfl) (by kernel_rfl) (by (try simp only [rinj_0, rinj_1, rinj_2, rinj_3]); (repeat (first | rw [hB3] | rw [hB6] | rw [hB11] | rw [cond_true] | rw [cond_false])); kernel_rfl)
 have dhB6 := ne_of_beq_false hB6
 gi_upto_region 10 with fail
 refine rg (fun q15 => [.v (.pointer (some ⟨(q1 1).blk 0, 0, none⟩)),
  .m (ld 4 (.int .i64 f.x0)),
  .v (.bool (decide (f.x0 ≤ 5)))]) (fun _ L => L) OW ?_
 clear OW; intro q15 _ Wq15 OW; simp only [↓pc, ↓pn, vE, Hint.val, Act.put, eL]
 cases hB16 : (decide (f.x0 ≤ 5))
 case true =>
  have dhB16 := of_decide_eq_true hB16
  gi_upto_region 11 with fail
  refine rg (fun q17 => [.v (.pointer (some ⟨(q1 0).blk 0, 7, none⟩)),
   .m (ld 3 (v7)),
   .m (lenR 1 (.p (SqE eFa v7 la)) (fun _ h => h.1)),
   .v (.bool (decide (256 ≤ (la.length : Int))))]) (fun _ L => L) OW ?_
  clear OW; intro q17 _ Wq17 OW; simp only [↓pc, ↓pn, vE, Hint.val, Act.put, eL]
  cases hB18 : (decide (256 ≤ (la.length : Int)))
  case true =>
   have dhB18 := of_decide_eq_true hB18
   gi_upto_region 12 with fail
   refine rg (fun q19 => [.m (ls 3 ([.int .i64 g0, .int .i64 g1, .int .i64 g2, .int .i64 g3, .int .i64 g4, .int .i64 mode, v6, v7, v8])),
    .m (sv 5 ((q1 2).blk 0) 0 82 ([.int .i64 g0, .int .i64 g1, .int .i64 g2, .int .i64 g3, .int .i64 g4, .int .i64 mode, v6, v7, v8]) #[.int .i64 0, .int .i64 0, .int .i64 0, .int .i64 0, .int .i64 0, .int .i64 0, .slice none 0 0, .slice none 0 0, .slice none 0 0] #[.int .i64 g0, .int .i64 g1, .int .i64 g2, .int .i64 g3, .int .i64 g4, .int .i64 mode, v6, v7, v8] [(0, .p (SqE eCe v6 cl)), (1, .p (SqE eFa v7 la)), (2, .p (SqE eFa v8 co))] (by kernel_rfl) (Nat.le_of_ble_eq_true rfl) (fun c5 hc5 => (oc rfl (oc rfl (oc rfl (oc rfl (oc rfl (oc rfl (oc (SqE.one (hc5 _ (.head _))) (oc (SqE.one (hc5 _ (.tail _ (.head _)))) (oc (SqE.one (hc5 _ (.tail _ (.tail _ (.head _))))) on0))))))))))),
    .v (.int .i64 14)]) (fun q19 L => L.set 5 (ob ((q1 2).blk 0) #[.int .i64 g0, .int .i64 g1, .int .i64 g2, .int .i64 g3, .int .i64 g4, .int .i64 mode, v6, v7, v8] 82)) OW ?_
   clear OW; intro q19 _ Wq19 OW; simp only [↓pc, ↓pn, vE, Hint.val, Act.put, eL]
   gi_wp2
   exact leafE HS HH OW [.s ([.int .i64 g0, .int .i64 g1, .int .i64 g2, .int .i64 g3, .int .i64 g4, .int .i64 mode, v6, v7, v8]) 5, .t (.int .i64 14)] (.l [] [] [v6, v7, v8]) [0, 1, 2] [] (by (try simp only [rinj_0, rinj_1, rinj_2, rinj_3]); (repeat (first | rw [hB3] | rw [hB6] | rw [hB16] | rw [hB18] | rw [cond_true] | rw [cond_false])); first | rfl | kernel_rfl) (by kernel_rfl) (by (try simp only [rinj_0, rinj_1, rinj_2, rinj_3]); (repeat (first | rw [hB3] | rw [hB6] | rw [hB16] | rw [hB18] | rw [cond_true] | rw [cond_false])); kernel_rfl)
  have dhB18 := of_decide_eq_false hB18
  gi_upto_region 13 with fail
  refine rg (fun q20 => [.v (.pointer (some ⟨(q1 0).blk 0, 7, none⟩)),
   .m (ld 3 (v7)),
   .m (ls 4 ([.int .i64 f.x0, .int .i64 f.x1, .int .i64 f.x2, .int .i64 f.x3, .int .i64 f.x4, .int .i64 f.x5, .int .i64 f.x6, .int .i64 f.x7])),
   .c [1] [6] (rmore v7 la f (by omega)),
   .v (.pointer (some ⟨(q1 0).blk 0, 7, none⟩)),
   .m (stV 3 6 (slFr ((q20 3).val 0) (la ++ [f])) ((q20 3).val 0) fun bs h => SlE.one ((fun _ h => h) bs h))]) (fun q20 L => L.set 3 (ob ((q1 0).blk 0) #[.int .i64 g0, .int .i64 g1, .int .i64 g2, .int .i64 g3, .int .i64 g4, .int .i64 mode, v6, ((q20 3).val 0), v8] 82) ++ [slFr ((q20 3).val 0) (la ++ [f])]) OW ?_
  clear OW; intro q20 _ Wq20 OW; simp only [↓pc, ↓pn, vE, Hint.val, Act.put, eL]
  gi_upto_region 14 with fail
  refine rg (fun q21 => [.m (ls 3 ([.int .i64 g0, .int .i64 g1, .int .i64 g2, .int .i64 g3, .int .i64 g4, .int .i64 mode, v6, ((q20 3).val 0), v8])),
   .m (sv 5 ((q1 2).blk 0) 0 82 ([.int .i64 g0, .int .i64 g1, .int .i64 g2, .int .i64 g3, .int .i64 g4, .int .i64 mode, v6, ((q20 3).val 0), v8]) #[.int .i64 0, .int .i64 0, .int .i64 0, .int .i64 0, .int .i64 0, .int .i64 0, .slice none 0 0, .slice none 0 0, .slice none 0 0] #[.int .i64 g0, .int .i64 g1, .int .i64 g2, .int .i64 g3, .int .i64 g4, .int .i64 mode, v6, ((q20 3).val 0), v8] [(0, .p (SqE eCe v6 cl)), (6, slFr ((q20 3).val 0) (la ++ [f])), (2, .p (SqE eFa v8 co))] (by kernel_rfl) (Nat.le_of_ble_eq_true rfl) (fun c5 hc5 => (oc rfl (oc rfl (oc rfl (oc rfl (oc rfl (oc rfl (oc (SqE.one (hc5 _ (.head _))) (oc (SlE.one (hc5 _ (.tail _ (.head _)))) (oc (SqE.one (hc5 _ (.tail _ (.tail _ (.head _))))) on0))))))))))),
   .v (.int .i64 0)]) (fun q21 L => L.set 5 (ob ((q1 2).blk 0) #[.int .i64 g0, .int .i64 g1, .int .i64 g2, .int .i64 g3, .int .i64 g4, .int .i64 mode, v6, ((q20 3).val 0), v8] 82)) OW ?_
  clear OW; intro q21 _ Wq21 OW; simp only [↓pc, ↓pn, vE, Hint.val, Act.put, eL]
  replace OW := Lib.hid (OwnE.cast (L' := [.p (SqE eCe v6 cl), .p (SqE eFa v7 la), .p (SqE eFa v8 co), ob ((q1 0).blk 0) #[.int .i64 g0, .int .i64 g1, .int .i64 g2, .int .i64 g3, .int .i64 g4, .int .i64 mode, v6, ((q20 3).val 0), v8] 82, ob ((q1 1).blk 0) #[.int .i64 f.x0, .int .i64 f.x1, .int .i64 f.x2, .int .i64 f.x3, .int .i64 f.x4, .int .i64 f.x5, .int .i64 f.x6, .int .i64 f.x7] 31, ob ((q1 2).blk 0) #[.int .i64 g0, .int .i64 g1, .int .i64 g2, .int .i64 g3, .int .i64 g4, .int .i64 mode, v6, ((q20 3).val 0), v8] 82, .p (SqE eFa ((q20 3).val 0) (la ++ [f]))]) (OW.out.weak 6 (y := .p (SqE eFa ((q20 3).val 0) (la ++ [f]))) rfl (fun _ h => SlE.sq h)) (by kernel_rfl))
  gi_wp2
  exact leafE HS HH OW [.s ([.int .i64 g0, .int .i64 g1, .int .i64 g2, .int .i64 g3, .int .i64 g4, .int .i64 mode, v6, ((q20 3).val 0), v8]) 5, .t (.int .i64 0)] (.l [] [] [v6, ((q20 3).val 0), v8, (q20 3).val 0]) [0, 6, 2] [] (by (try simp only [rinj_0, rinj_1, rinj_2, rinj_3]); (repeat (first | rw [hB3] | rw [hB6] | rw [hB16] | rw [hB18] | rw [cond_true] | rw [cond_false])); first | rfl | kernel_rfl) (by kernel_rfl) (by (try simp only [rinj_0, rinj_1, rinj_2, rinj_3]); (repeat (first | rw [hB3] | rw [hB6] | rw [hB16] | rw [hB18] | rw [cond_true] | rw [cond_false])); kernel_rfl)
 have dhB16 := of_decide_eq_false hB16
 gi_upto_region 15 with fail
 refine rg (fun q22 => [.v (.pointer (some ⟨(q1 0).blk 0, 8, none⟩)),
  .m (ld 3 (v8)),
  .m (lenR 2 (.p (SqE eFa v8 co)) (fun _ h => h.1)),
  .v (.bool (decide (256 ≤ (co.length : Int))))]) (fun _ L => L) OW ?_
 clear OW; intro q22 _ Wq22 OW; simp only [↓pc, ↓pn, vE, Hint.val, Act.put, eL]
 cases hB23 : (decide (256 ≤ (co.length : Int)))
 case true =>
  have dhB23 := of_decide_eq_true hB23
  gi_upto_region 16 with fail
  refine rg (fun q24 => [.m (ls 3 ([.int .i64 g0, .int .i64 g1, .int .i64 g2, .int .i64 g3, .int .i64 g4, .int .i64 mode, v6, v7, v8])),
   .m (sv 5 ((q1 2).blk 0) 0 82 ([.int .i64 g0, .int .i64 g1, .int .i64 g2, .int .i64 g3, .int .i64 g4, .int .i64 mode, v6, v7, v8]) #[.int .i64 0, .int .i64 0, .int .i64 0, .int .i64 0, .int .i64 0, .int .i64 0, .slice none 0 0, .slice none 0 0, .slice none 0 0] #[.int .i64 g0, .int .i64 g1, .int .i64 g2, .int .i64 g3, .int .i64 g4, .int .i64 mode, v6, v7, v8] [(0, .p (SqE eCe v6 cl)), (1, .p (SqE eFa v7 la)), (2, .p (SqE eFa v8 co))] (by kernel_rfl) (Nat.le_of_ble_eq_true rfl) (fun c5 hc5 => (oc rfl (oc rfl (oc rfl (oc rfl (oc rfl (oc rfl (oc (SqE.one (hc5 _ (.head _))) (oc (SqE.one (hc5 _ (.tail _ (.head _)))) (oc (SqE.one (hc5 _ (.tail _ (.tail _ (.head _))))) on0))))))))))),
   .v (.int .i64 14)]) (fun q24 L => L.set 5 (ob ((q1 2).blk 0) #[.int .i64 g0, .int .i64 g1, .int .i64 g2, .int .i64 g3, .int .i64 g4, .int .i64 mode, v6, v7, v8] 82)) OW ?_
  clear OW; intro q24 _ Wq24 OW; simp only [↓pc, ↓pn, vE, Hint.val, Act.put, eL]
  gi_wp2
  exact leafE HS HH OW [.s ([.int .i64 g0, .int .i64 g1, .int .i64 g2, .int .i64 g3, .int .i64 g4, .int .i64 mode, v6, v7, v8]) 5, .t (.int .i64 14)] (.l [] [] [v6, v7, v8]) [0, 1, 2] [] (by (try simp only [rinj_0, rinj_1, rinj_2, rinj_3]); (repeat (first | rw [hB3] | rw [hB6] | rw [hB16] | rw [hB23] | rw [cond_true] | rw [cond_false])); first | rfl | kernel_rfl) (by kernel_rfl) (by (try simp only [rinj_0, rinj_1, rinj_2, rinj_3]); (repeat (first | rw [hB3] | rw [hB6] | rw [hB16] | rw [hB23] | rw [cond_true] | rw [cond_false])); kernel_rfl)
 have dhB23 := of_decide_eq_false hB23
 gi_upto_region 17 with fail
 refine rg (fun q25 => [.v (.pointer (some ⟨(q1 0).blk 0, 8, none⟩)),
  .m (ld 3 (v8)),
  .m (ls 4 ([.int .i64 f.x0, .int .i64 f.x1, .int .i64 f.x2, .int .i64 f.x3, .int .i64 f.x4, .int .i64 f.x5, .int .i64 f.x6, .int .i64 f.x7])),
  .c [2] [6] (rmore v8 co f (by omega)),
  .v (.pointer (some ⟨(q1 0).blk 0, 8, none⟩)),
  .m (stV 3 6 (slFr ((q25 3).val 0) (co ++ [f])) ((q25 3).val 0) fun bs h => SlE.one ((fun _ h => h) bs h))]) (fun q25 L => L.set 3 (ob ((q1 0).blk 0) #[.int .i64 g0, .int .i64 g1, .int .i64 g2, .int .i64 g3, .int .i64 g4, .int .i64 mode, v6, v7, ((q25 3).val 0)] 82) ++ [slFr ((q25 3).val 0) (co ++ [f])]) OW ?_
 clear OW; intro q25 _ Wq25 OW; simp only [↓pc, ↓pn, vE, Hint.val, Act.put, eL]
 gi_upto_region 18 with fail
 refine rg (fun q26 => [.m (ls 3 ([.int .i64 g0, .int .i64 g1, .int .i64 g2, .int .i64 g3, .int .i64 g4, .int .i64 mode, v6, v7, ((q25 3).val 0)])),
  .m (sv 5 ((q1 2).blk 0) 0 82 ([.int .i64 g0, .int .i64 g1, .int .i64 g2, .int .i64 g3, .int .i64 g4, .int .i64 mode, v6, v7, ((q25 3).val 0)]) #[.int .i64 0, .int .i64 0, .int .i64 0, .int .i64 0, .int .i64 0, .int .i64 0, .slice none 0 0, .slice none 0 0, .slice none 0 0] #[.int .i64 g0, .int .i64 g1, .int .i64 g2, .int .i64 g3, .int .i64 g4, .int .i64 mode, v6, v7, ((q25 3).val 0)] [(0, .p (SqE eCe v6 cl)), (1, .p (SqE eFa v7 la)), (6, slFr ((q25 3).val 0) (co ++ [f]))] (by kernel_rfl) (Nat.le_of_ble_eq_true rfl) (fun c5 hc5 => (oc rfl (oc rfl (oc rfl (oc rfl (oc rfl (oc rfl (oc (SqE.one (hc5 _ (.head _))) (oc (SqE.one (hc5 _ (.tail _ (.head _)))) (oc (SlE.one (hc5 _ (.tail _ (.tail _ (.head _))))) on0))))))))))),
  .v (.int .i64 0)]) (fun q26 L => L.set 5 (ob ((q1 2).blk 0) #[.int .i64 g0, .int .i64 g1, .int .i64 g2, .int .i64 g3, .int .i64 g4, .int .i64 mode, v6, v7, ((q25 3).val 0)] 82)) OW ?_
 clear OW; intro q26 _ Wq26 OW; simp only [↓pc, ↓pn, vE, Hint.val, Act.put, eL]
 replace OW := Lib.hid (OwnE.cast (L' := [.p (SqE eCe v6 cl), .p (SqE eFa v7 la), .p (SqE eFa v8 co), ob ((q1 0).blk 0) #[.int .i64 g0, .int .i64 g1, .int .i64 g2, .int .i64 g3, .int .i64 g4, .int .i64 mode, v6, v7, ((q25 3).val 0)] 82, ob ((q1 1).blk 0) #[.int .i64 f.x0, .int .i64 f.x1, .int .i64 f.x2, .int .i64 f.x3, .int .i64 f.x4, .int .i64 f.x5, .int .i64 f.x6, .int .i64 f.x7] 31, ob ((q1 2).blk 0) #[.int .i64 g0, .int .i64 g1, .int .i64 g2, .int .i64 g3, .int .i64 g4, .int .i64 mode, v6, v7, ((q25 3).val 0)] 82, .p (SqE eFa ((q25 3).val 0) (co ++ [f]))]) (OW.out.weak 6 (y := .p (SqE eFa ((q25 3).val 0) (co ++ [f]))) rfl (fun _ h => SlE.sq h)) (by kernel_rfl))
 gi_wp2
 exact leafE HS HH OW [.s ([.int .i64 g0, .int .i64 g1, .int .i64 g2, .int .i64 g3, .int .i64 g4, .int .i64 mode, v6, v7, ((q25 3).val 0)]) 5, .t (.int .i64 0)] (.l [] [] [v6, v7, ((q25 3).val 0), (q25 3).val 0]) [0, 1, 6] [] (by (try simp only [rinj_0, rinj_1, rinj_2, rinj_3]); (repeat (first | rw [hB3] | rw [hB6] | rw [hB16] | rw [hB23] | rw [cond_true] | rw [cond_false])); first | rfl | kernel_rfl) (by kernel_rfl) (by (try simp only [rinj_0, rinj_1, rinj_2, rinj_3]); (repeat (first | rw [hB3] | rw [hB6] | rw [hB16] | rw [hB23] | rw [cond_true] | rw [cond_false])); kernel_rfl)
def rwent_0 (co : List Fa) (i : Int) : Int := (bif (co.length : Int) == 0 then i else (bif ((co.getD 0 zFa).x0) == 7 then i else (((1048576 * ((co.getD 0 zFa).x1)) + (65536 * ((co.getD 0 zFa).x2))) + (64 * ((co.getD 0 zFa).x3))) + ((co.getD 0 zFa).x4)))
def rwent_1 (co : List Fa) : Bool := (bif (co.length : Int) == 0 then false else (bif ((co.getD 0 zFa).x0) == 7 then true else false))
def rwent_2 (co : List Fa) : List Fa := (bif (co.length : Int) == 0 then co else co.drop 1)
set_option maxRecDepth 100000 in
set_option maxHeartbeats 1000000 in
theorem rwent_c (g0 g1 g2 g3 g4 mode : Int) (v6 v7 v8 : Value) (cl : List Ce) (la co : List Fa) (i : Int) (hb : ∀ f ∈ co, PlB f) (bq0 : Objs) (hq0 : SqE eCe v6 cl bq0) (bq1 : Objs) (hq1 : SqE eFa v7 la bq1) : Con Try.prog 80 #[.agg #[.int .i64 g0, .int .i64 g1, .int .i64 g2, .int .i64 g3, .int .i64 g4, .int .i64 mode, v6, v7, v8], .int .i64 i] [.c bq0, .c bq1, .p (SqE eFa v8 co)] [2] (fun E => [.p (SqE eFa (E.val 0) (rwent_2 co))]) (fun E => .tuple #[.agg #[.int .i64 g0, .int .i64 g1, .int .i64 g2, .int .i64 g3, .int .i64 g4, .int .i64 mode, v6, v7, (E.val 0)], .int .i64 (rwent_0 co i), .bool (rwent_1 co)]) := by
 refine Con.of (enters_of Try.func80 (by kernel_rfl) rfl) fun w cs HS HH OW => ?_
 refine (callsIn_wide (n := 6)).1 ?_
 refine callsIn_of_wp_marks Try.func80 rfl trivial ?_ rfl
 simp only [Try.ntmps80, eF, Nat.reduceAdd, Nat.reduceSub]
 gi_upto_region 0 with fail
 refine rg (fun q1 => [.m (bx 3),
  .m (al 4),
  .v (.int .i64 0),
  .v (.bool false)]) (fun q1 L => L ++ [ob ((q1 0).blk 0) #[.int .i64 g0, .int .i64 g1, .int .i64 g2, .int .i64 g3, .int .i64 g4, .int .i64 mode, v6, v7, v8] 82, ob ((q1 1).blk 0) #[.int .i64 0, .int .i64 0, .int .i64 0, .int .i64 0, .int .i64 0, .int .i64 0, .slice none 0 0, .slice none 0 0, .slice none 0 0] 82]) OW ?_
 clear OW; intro q1 _ Wq1 OW; simp only [↓pc, ↓pn, vE, Hint.val, Act.put, eL]
 gi_upto_region 1 with fail
 refine rg (fun q2 => [.v (.pointer (some ⟨(q1 0).blk 0, 8, none⟩)),
  .m (ld 3 (v8)),
  .m (lenR 2 (.p (SqE eFa v8 co)) (fun _ h => h.1)),
  .v (.bool ((co.length : Int) == 0))]) (fun _ L => L) OW ?_
 clear OW; intro q2 _ Wq2 OW; simp only [↓pc, ↓pn, vE, Hint.val, Act.put, eL]
 cases hB3 : ((co.length : Int) == 0)
 case true =>
  have dhB3 := Lib.hid (eq_of_beq hB3)
  gi_upto_region 2 with fail
  refine rg (fun q4 => [.m (ls 3 ([.int .i64 g0, .int .i64 g1, .int .i64 g2, .int .i64 g3, .int .i64 g4, .int .i64 mode, v6, v7, v8])),
   .v (.int .i64 i),
   .m (sv 4 ((q1 1).blk 0) 0 82 ([.int .i64 g0, .int .i64 g1, .int .i64 g2, .int .i64 g3, .int .i64 g4, .int .i64 mode, v6, v7, v8]) #[.int .i64 0, .int .i64 0, .int .i64 0, .int .i64 0, .int .i64 0, .int .i64 0, .slice none 0 0, .slice none 0 0, .slice none 0 0] #[.int .i64 g0, .int .i64 g1, .int .i64 g2, .int .i64 g3, .int .i64 g4, .int .i64 mode, v6, v7, v8] [(2, .p (SqE eFa v8 co))] (by kernel_rfl) (Nat.le_of_ble_eq_true rfl) (fun c5 hc5 => (oc rfl (oc rfl (oc rfl (oc rfl (oc rfl (oc rfl (oc (SrE.one hq0.1) (oc (SrE.one hq1.1) (oc (SqE.one (hc5 _ (.head _))) on0))))))))))),
   .v (.int .i64 i),
   .v (.bool false)]) (fun q4 L => L.set 4 (ob ((q1 1).blk 0) #[.int .i64 g0, .int .i64 g1, .int .i64 g2, .int .i64 g3, .int .i64 g4, .int .i64 mode, v6, v7, v8] 82)) OW ?_
  clear OW; intro q4 _ Wq4 OW; simp only [↓pc, ↓pn, vE, Hint.val, Act.put, eL]
  gi_wp2
  exact leafE HS HH OW [.s ([.int .i64 g0, .int .i64 g1, .int .i64 g2, .int .i64 g3, .int .i64 g4, .int .i64 mode, v6, v7, v8]) 4, .t (.int .i64 i), .t (.bool false)] (.l [] [] [v8]) [2] [(0, 0), (1, 1)] (by (try simp only [rwent_0, rwent_1, rwent_2]); (repeat (first | rw [hB3] | rw [cond_true] | rw [cond_false])); first | rfl | kernel_rfl) (by kernel_rfl) (by (try simp only [rwent_0, rwent_1, rwent_2]); (repeat (first | rw [hB3] | rw [cond_true] | rw [cond_false])); kernel_rfl)
 have dhB3 := ne_of_beq_false hB3
 gi_upto_region 3 with fail
 have hco : 0 < co.length := by have := ne_of_beq_false hB3; omega
 obtain ⟨⟨pa1, pa2⟩, ⟨pa3, pa4⟩, ⟨pa5, pa6⟩, pa7, pa8⟩ := (show PlB (co.getD 0 zFa) from hb _ (mem_getD hco))
 refine rg (fun q5 => [.v (.pointer (some ⟨(q1 0).blk 0, 8, none⟩)),
  .m (ld 3 (v8)),
  .m (idxR 2 (.p (SqE eFa v8 co)) 0 8 (fun _ h => h.1) (by omega)),
  .m (lsR (l := [.int .i64 ((co.getD 0 zFa).x0), .int .i64 ((co.getD 0 zFa).x1), .int .i64 ((co.getD 0 zFa).x2), .int .i64 ((co.getD 0 zFa).x3), .int .i64 ((co.getD 0 zFa).x4), .int .i64 ((co.getD 0 zFa).x5), .int .i64 ((co.getD 0 zFa).x6), .int .i64 ((co.getD 0 zFa).x7)]) (d := zFa) 2 (.p (SqE eFa v8 co)) 0 8 0 (fun _ h => h.1) (fun _ => rfl) (by omega) (Nat.le_of_ble_eq_true rfl) (by kernel_rfl)),
  .m (al 5),
  .m (ss 5)]) (fun q5 L => L ++ [ob ((q5 4).blk 0) #[.int .i64 ((co.getD 0 zFa).x0), .int .i64 ((co.getD 0 zFa).x1), .int .i64 ((co.getD 0 zFa).x2), .int .i64 ((co.getD 0 zFa).x3), .int .i64 ((co.getD 0 zFa).x4), .int .i64 ((co.getD 0 zFa).x5), .int .i64 ((co.getD 0 zFa).x6), .int .i64 ((co.getD 0 zFa).x7)] 31]) OW ?_
 clear OW; intro q5 _ Wq5 OW; simp only [↓pc, ↓pn, vE, Hint.val, Act.put, eL]
 gi_upto_region 4 with fail
 refine rg (fun q6 => [.v (.pointer (some ⟨(q1 0).blk 0, 8, none⟩)),
  .m (ld 3 (v8)),
  .m (slR 2 (.p (SqE eFa v8 co)) 1 8 (fun _ h => h) (by omega)),
  .v (.pointer (some ⟨(q1 0).blk 0, 8, none⟩)),
  .m (stV 3 2 (.p (SqE eFa v8 co)) (sbV v8 1 co.length 8) fun bs h => SqE.one (SqE.drop (en := eFa) (xs := co) (k := 8) (l := 1) (fun _ => rfl) h (by omega)))]) (fun q6 L => L.set 3 (ob ((q1 0).blk 0) #[.int .i64 g0, .int .i64 g1, .int .i64 g2, .int .i64 g3, .int .i64 g4, .int .i64 mode, v6, v7, sbV v8 1 co.length 8] 82)) OW ?_
 clear OW; intro q6 _ Wq6 OW; simp only [↓pc, ↓pn, vE, Hint.val, Act.put, eL]
 gi_upto_region 5 with fail
 refine rg (fun q7 => [.v (.pointer (some ⟨(q5 4).blk 0, 0, none⟩)),
  .m (ld 5 (.int .i64 ((co.getD 0 zFa).x0))),
  .v (.bool (((co.getD 0 zFa).x0) == 7))]) (fun _ L => L) OW ?_
 clear OW; intro q7 _ Wq7 OW; simp only [↓pc, ↓pn, vE, Hint.val, Act.put, eL]
 cases hB8 : (((co.getD 0 zFa).x0) == 7)
 case true =>
  have dhB8 := Lib.hid (eq_of_beq hB8)
  gi_upto_region 6 with fail
  refine rg (fun q9 => [.m (ls 3 ([.int .i64 g0, .int .i64 g1, .int .i64 g2, .int .i64 g3, .int .i64 g4, .int .i64 mode, v6, v7, sbV v8 1 co.length 8])),
   .v (.int .i64 i),
   .m (sv 4 ((q1 1).blk 0) 0 82 ([.int .i64 g0, .int .i64 g1, .int .i64 g2, .int .i64 g3, .int .i64 g4, .int .i64 mode, v6, v7, sbV v8 1 co.length 8]) #[.int .i64 0, .int .i64 0, .int .i64 0, .int .i64 0, .int .i64 0, .int .i64 0, .slice none 0 0, .slice none 0 0, .slice none 0 0] #[.int .i64 g0, .int .i64 g1, .int .i64 g2, .int .i64 g3, .int .i64 g4, .int .i64 mode, v6, v7, sbV v8 1 co.length 8] [(2, .p (SqE eFa v8 co))] (by kernel_rfl) (Nat.le_of_ble_eq_true rfl) (fun c5 hc5 => (oc rfl (oc rfl (oc rfl (oc rfl (oc rfl (oc rfl (oc (SrE.one hq0.1) (oc (SrE.one hq1.1) (oc (SqE.one (SqE.drop (en := eFa) (xs := co) (k := 8) (l := 1) (fun _ => rfl) (hc5 _ (.head _)) (by omega))) on0))))))))))),
   .v (.int .i64 i),
   .v (.bool true)]) (fun q9 L => L.set 4 (ob ((q1 1).blk 0) #[.int .i64 g0, .int .i64 g1, .int .i64 g2, .int .i64 g3, .int .i64 g4, .int .i64 mode, v6, v7, sbV v8 1 co.length 8] 82)) OW ?_
  clear OW; intro q9 _ Wq9 OW; simp only [↓pc, ↓pn, vE, Hint.val, Act.put, eL]
  replace OW := Lib.hid (OwnE.cast (L' := [.c bq0, .c bq1, .p (SqE eFa (sbV v8 1 co.length 8) (co.drop 1)), ob ((q1 0).blk 0) #[.int .i64 g0, .int .i64 g1, .int .i64 g2, .int .i64 g3, .int .i64 g4, .int .i64 mode, v6, v7, sbV v8 1 co.length 8] 82, ob ((q1 1).blk 0) #[.int .i64 g0, .int .i64 g1, .int .i64 g2, .int .i64 g3, .int .i64 g4, .int .i64 mode, v6, v7, sbV v8 1 co.length 8] 82, ob ((q5 4).blk 0) #[.int .i64 ((co.getD 0 zFa).x0), .int .i64 ((co.getD 0 zFa).x1), .int .i64 ((co.getD 0 zFa).x2), .int .i64 ((co.getD 0 zFa).x3), .int .i64 ((co.getD 0 zFa).x4), .int .i64 ((co.getD 0 zFa).x5), .int .i64 ((co.getD 0 zFa).x6), .int .i64 ((co.getD 0 zFa).x7)] 31]) (OW.out.weak 2 (y := .p (SqE eFa (sbV v8 1 co.length 8) (co.drop 1))) rfl (fun _ h => SqE.drop (en := eFa) (xs := co) (k := 8) (l := 1) (fun _ => rfl) h (by omega))) (by kernel_rfl))
  gi_wp2
  exact leafE HS HH OW [.s ([.int .i64 g0, .int .i64 g1, .int .i64 g2, .int .i64 g3, .int .i64 g4, .int .i64 mode, v6, v7, sbV v8 1 co.length 8]) 4, .t (.int .i64 i), .t (.bool true)] (.l [] [] [sbV v8 1 co.length 8]) [2] [(0, 0), (1, 1)] (by (try simp only [rwent_0, rwent_1, rwent_2]); (repeat (first | rw [hB3] | rw [hB8] | rw [cond_true] | rw [cond_false])); first | rfl | kernel_rfl) (by kernel_rfl) (by (try simp only [rwent_0, rwent_1, rwent_2]); (repeat (first | rw [hB3] | rw [hB8] | rw [cond_true] | rw [cond_false])); kernel_rfl)
 have dhB8 := ne_of_beq_false hB8
 gi_upto_region 7 with fail
 refine rg (fun q10 => [.m (ls 3 ([.int .i64 g0, .int .i64 g1, .int .i64 g2, .int .i64 g3, .int .i64 g4, .int .i64 mode, v6, v7, sbV v8 1 co.length 8])),
  .v (.pointer (some ⟨(q5 4).blk 0, 1, none⟩)),
  .m (ls 5 ([.int .i64 ((co.getD 0 zFa).x1), .int .i64 ((co.getD 0 zFa).x2), .int .i64 ((co.getD 0 zFa).x3), .int .i64 ((co.getD 0 zFa).x4)])),
  .c [] [] (rIdx ((co.getD 0 zFa).x1) ((co.getD 0 zFa).x2) ((co.getD 0 zFa).x3) ((co.getD 0 zFa).x4) (by omega) (by omega) (by omega) (by omega) (by omega) (by omega) (by omega) (by omega)),
  .m (sv 4 ((q1 1).blk 0) 0 82 ([.int .i64 g0, .int .i64 g1, .int .i64 g2, .int .i64 g3, .int .i64 g4, .int .i64 mode, v6, v7, sbV v8 1 co.length 8]) #[.int .i64 0, .int .i64 0, .int .i64 0, .int .i64 0, .int .i64 0, .int .i64 0, .slice none 0 0, .slice none 0 0, .slice none 0 0] #[.int .i64 g0, .int .i64 g1, .int .i64 g2, .int .i64 g3, .int .i64 g4, .int .i64 mode, v6, v7, sbV v8 1 co.length 8] [(2, .p (SqE eFa v8 co))] (by kernel_rfl) (Nat.le_of_ble_eq_true rfl) (fun c5 hc5 => (oc rfl (oc rfl (oc rfl (oc rfl (oc rfl (oc rfl (oc (SrE.one hq0.1) (oc (SrE.one hq1.1) (oc (SqE.one (SqE.drop (en := eFa) (xs := co) (k := 8) (l := 1) (fun _ => rfl) (hc5 _ (.head _)) (by omega))) on0))))))))))),
  .v (.int .i64 ((((1048576 * ((co.getD 0 zFa).x1)) + (65536 * ((co.getD 0 zFa).x2))) + (64 * ((co.getD 0 zFa).x3))) + ((co.getD 0 zFa).x4))),
  .v (.bool false)]) (fun q10 L => L.set 4 (ob ((q1 1).blk 0) #[.int .i64 g0, .int .i64 g1, .int .i64 g2, .int .i64 g3, .int .i64 g4, .int .i64 mode, v6, v7, sbV v8 1 co.length 8] 82)) OW ?_
 clear OW; intro q10 _ Wq10 OW; simp only [↓pc, ↓pn, vE, Hint.val, Act.put, eL]
 replace OW := Lib.hid (OwnE.cast (L' := [.c bq0, .c bq1, .p (SqE eFa (sbV v8 1 co.length 8) (co.drop 1)), ob ((q1 0).blk 0) #[.int .i64 g0, .int .i64 g1, .int .i64 g2, .int .i64 g3, .int .i64 g4, .int .i64 mode, v6, v7, sbV v8 1 co.length 8] 82, ob ((q1 1).blk 0) #[.int .i64 g0, .int .i64 g1, .int .i64 g2, .int .i64 g3, .int .i64 g4, .int .i64 mode, v6, v7, sbV v8 1 co.length 8] 82, ob ((q5 4).blk 0) #[.int .i64 ((co.getD 0 zFa).x0), .int .i64 ((co.getD 0 zFa).x1), .int .i64 ((co.getD 0 zFa).x2), .int .i64 ((co.getD 0 zFa).x3), .int .i64 ((co.getD 0 zFa).x4), .int .i64 ((co.getD 0 zFa).x5), .int .i64 ((co.getD 0 zFa).x6), .int .i64 ((co.getD 0 zFa).x7)] 31]) (OW.out.weak 2 (y := .p (SqE eFa (sbV v8 1 co.length 8) (co.drop 1))) rfl (fun _ h => SqE.drop (en := eFa) (xs := co) (k := 8) (l := 1) (fun _ => rfl) h (by omega))) (by kernel_rfl))
 gi_wp2
 exact leafE HS HH OW [.s ([.int .i64 g0, .int .i64 g1, .int .i64 g2, .int .i64 g3, .int .i64 g4, .int .i64 mode, v6, v7, sbV v8 1 co.length 8]) 4, .t (.int .i64 ((((1048576 * ((co.getD 0 zFa).x1)) + (65536 * ((co.getD 0 zFa).x2))) + (64 * ((co.getD 0 zFa).x3))) + ((co.getD 0 zFa).x4))), .t (.bool false)] (.l [] [] [sbV v8 1 co.length 8]) [2] [(0, 0), (1, 1)] (by (try simp only [rwent_0, rwent_1, rwent_2]); (repeat (first | rw [hB3] | rw [hB8] | rw [cond_true] | rw [cond_false])); first | rfl | kernel_rfl) (by kernel_rfl) (by (try simp only [rwent_0, rwent_1, rwent_2]); (repeat (first | rw [hB3] | rw [hB8] | rw [cond_true] | rw [cond_false])); kernel_rfl)
theorem rwent (g0 g1 g2 g3 g4 mode : Int) (v6 v7 v8 : Value) (cl : List Ce) (la co : List Fa) (i : Int) (hb : ∀ f ∈ co, PlB f) : Con Try.prog 80 #[.agg #[.int .i64 g0, .int .i64 g1, .int .i64 g2, .int .i64 g3, .int .i64 g4, .int .i64 mode, v6, v7, v8], .int .i64 i] [.p (SqE eCe v6 cl), .p (SqE eFa v7 la), .p (SqE eFa v8 co)] [2] (fun E => [.p (SqE eFa (E.val 0) (rwent_2 co))]) (fun E => .tuple #[.agg #[.int .i64 g0, .int .i64 g1, .int .i64 g2, .int .i64 g3, .int .i64 g4, .int .i64 mode, v6, v7, (E.val 0)], .int .i64 (rwent_0 co i), .bool (rwent_1 co)]) :=
 Con.ro 1 rfl (fun bq1 hq1 => Con.ro 0 rfl (fun bq0 hq0 => rwent_c g0 g1 g2 g3 g4 mode v6 v7 v8 cl la co i hb bq0 hq0 bq1 hq1) (enters_of Try.func80 (by kernel_rfl) rfl)) (enters_of Try.func80 (by kernel_rfl) rfl)
def ov11 (L : List Fa) (mode q0 q1 q2 q3 : Int) (r : List UInt8) : Nat → List UInt8
  | 0 => r
  | k + 1 => fapply11 (L.getD k zFa).x0 (L.getD k zFa).x1 (L.getD k zFa).x2 (L.getD k zFa).x3 (L.getD k zFa).x4 (L.getD k zFa).x5 (L.getD k zFa).x6 (L.getD k zFa).x7 mode q0 q1 q2 q3 (ov11 L mode q0 q1 q2 q3 r k)
theorem ov11_len (L : List Fa) (mode q0 q1 q2 q3 : Int) {r : List UInt8} (hr : r.length = 72) : ∀ k, (ov11 L mode q0 q1 q2 q3 r k).length = 72
  | 0 => hr
  | k + 1 => by rw [ov11, fapply11_len]; exact ov11_len L mode q0 q1 q2 q3 hr k
attribute [local irreducible] ov11
set_option maxRecDepth 100000 in
set_option maxHeartbeats 1000000 in
theorem rlook_c (g0 g1 g2 g3 g4 mode : Int) (v6 v7 v8 : Value) (cl : List Ce) (la co : List Fa) (i : Int) (hi : 0 ≤ i) (hj : i ≤ 9223372036854775807) (hc : cl.length ≤ 100000) (hn : la.length ≤ 256) (hcl : ∀ c ∈ cl, c.r.length = 72) (hla : ∀ f ∈ la, FaOk f) (bq0 : Objs) (hq0 : SqE eCe v6 cl bq0) (bq1 : Objs) (hq1 : SqE eFa v7 la bq1) (bq2 : Objs) (hq2 : SqE eFa v8 co bq2) : Con Try.prog 47 #[.agg #[.int .i64 g0, .int .i64 g1, .int .i64 g2, .int .i64 g3, .int .i64 g4, .int .i64 mode, v6, v7, v8], .int .i64 i] [.c bq0, .c bq1, .c bq2] [] (fun _ => []) (fun _ => .agg (rB 72 (ov11 la mode (i / 1048576) (i / 65536 % 16) (i / 64 % 1024) (i % 64) (getC cl i) la.length)).toArray) := by
 refine Con.of (enters_of Try.func47 (by kernel_rfl) rfl) fun w cs HS HH OW => ?_
 have HGL := getC_len hcl i
 have HOL := ov11_len la mode (i / 1048576) (i / 65536 % 16) (i / 64 % 1024) (i % 64) HGL
 refine (callsIn_wide (n := 6)).1 ?_
 refine callsIn_of_wp_marks Try.func47 rfl trivial ?_ rfl
 simp only [Try.ntmps47, eF, Nat.reduceAdd, Nat.reduceSub]
 gi_upto_region 0 with fail
 refine rg (fun q1 => [.m (bx 3),
  .m (al 4)]) (fun q1 L => L ++ [ob ((q1 0).blk 0) #[.int .i64 g0, .int .i64 g1, .int .i64 g2, .int .i64 g3, .int .i64 g4, .int .i64 mode, v6, v7, v8] 82, ob ((q1 1).blk 0) (rB 72 (List.replicate 72 0)).toArray 40]) OW ?_
 clear OW; intro q1 _ Wq1 OW; simp only [↓pc, ↓pn, vE, Hint.val, Act.put, eL]
 gi_upto_region 1 with fail
 refine rg (fun q2 => [.m (ls 3 ([.int .i64 g0, .int .i64 g1, .int .i64 g2, .int .i64 g3, .int .i64 g4, .int .i64 mode, v6, v7, v8])),
  .v (.int .i64 i),
  .c [0] [] (Con.at (rd' := [.c bq0]) (rget g0 g1 g2 g3 g4 mode v6 v7 v8 cl i (by omega)) (atC hq0 (fun _ h => h))),
  .m (al 5),
  .m (ss 5)]) (fun q2 L => L ++ [ob ((q2 3).blk 0) (rB 72 (getC cl i)).toArray 40]) OW ?_
 clear OW; intro q2 _ Wq2 OW; simp only [↓pc, ↓pn, vE, Hint.val, Act.put, eL]
 gi_upto_region 2 with fail
 refine rg (fun q3 => [.v (.int .i64 0)]) (fun _ L => L) OW ?_
 clear OW; intro q3 _ Wq3 OW; simp only [↓pc, ↓pn, vE, Hint.val, Act.put, eL]
 gi_wp2
 gi_loopw [6] (fun z6 wr => ∃ k : Nat, k ≤ la.length ∧ z6 = .int .i64 (k : Int) ∧ OwnE (ids cs.flatten) w [.c bq0, .c bq1, .c bq2, ob ((q1 0).blk 0) #[.int .i64 g0, .int .i64 g1, .int .i64 g2, .int .i64 g3, .int .i64 g4, .int .i64 mode, v6, v7, v8] 82, ob ((q1 1).blk 0) (rB 72 (List.replicate 72 0)).toArray 40, ob ((q2 3).blk 0) (rB 72 (ov11 la mode (i / 1048576) (i / 65536 % 16) (i / 64 % 1024) (i % 64) (getC cl i) k)).toArray 40] wr) (fun z6 _ => la.length - (intOf (z6)).toNat)
 case atStart => exact ⟨0, by omega, rfl, (by rw [ov11]; exact OwnE.cast OW.out (by kernel_rfl))⟩
 case round =>
  obtain ⟨k, hk5, rfl, hO⟩ := hrel
  clear OW
  have OW := Lib.hid hO
  clear hO
  gi_upto_region 3 with fail
  refine rg (fun q6 => [.v (.int .i64 (k : Int)),
   .v (.pointer (some ⟨(q1 0).blk 0, 7, none⟩)),
   .m (ld 3 (v7)),
   .m (lenR 1 (.c bq1) (cP hq1.1)),
   .v (.bool (decide ((k : Int) < (la.length : Int))))]) (fun _ L => L) OW ?_
  clear OW; intro q6 _ Wq6 OW; simp only [↓pc, ↓pn, vE, Hint.val, Act.put, eL]
  cases hB7 : (decide ((k : Int) < (la.length : Int)))
  case true =>
   have dhB7 := of_decide_eq_true hB7
   gi_upto_region 5 with fail
   obtain ⟨hf1, hf2⟩ := (FaOk.at (k := k) hla (by omega))
   refine rg (fun q8 => [.v (.pointer (some ⟨(q1 0).blk 0, 7, none⟩)),
    .m (ld 3 (v7)),
    .v (.int .i64 (k : Int)),
    .m (idxR 1 (.c bq1) k 8 (cP hq1.1) (by omega)),
    .m (lsR (l := [.int .i64 ((la.getD k zFa).x0), .int .i64 ((la.getD k zFa).x1), .int .i64 ((la.getD k zFa).x2), .int .i64 ((la.getD k zFa).x3), .int .i64 ((la.getD k zFa).x4), .int .i64 ((la.getD k zFa).x5), .int .i64 ((la.getD k zFa).x6), .int .i64 ((la.getD k zFa).x7)]) (d := zFa) 1 (.c bq1) k 8 0 (cP hq1.1) (fun _ => rfl) (by omega) (Nat.le_of_ble_eq_true rfl) (by kernel_rfl)),
    .v (.pointer (some ⟨(q1 0).blk 0, 5, none⟩)),
    .m (ld 3 (.int .i64 mode)),
    .v (.int .i64 i),
    .c [] [] (rPlace i (by omega) (by omega)),
    .m (ls 5 (rB 72 (ov11 la mode (i / 1048576) (i / 65536 % 16) (i / 64 % 1024) (i % 64) (getC cl i) k))),
    .c [] [] (show Con _ 24 #[.agg #[.int .i64 ((la.getD k zFa).x0), .int .i64 ((la.getD k zFa).x1), .int .i64 ((la.getD k zFa).x2), .int .i64 ((la.getD k zFa).x3), .int .i64 ((la.getD k zFa).x4), .int .i64 ((la.getD k zFa).x5), .int .i64 ((la.getD k zFa).x6), .int .i64 ((la.getD k zFa).x7)], .int .i64 mode, .agg #[.int .i64 (i / 1048576), .int .i64 ((i / 65536) % 16), .int .i64 ((i / 64) % 1024), .int .i64 (i % 64)], .agg (rB 72 (ov11 la mode (i / 1048576) (i / 65536 % 16) (i / 64 % 1024) (i % 64) (getC cl i) k)).toArray] _ _ _ fun _ => .agg (rB 72 (fapply11 ((la.getD k zFa).x0) ((la.getD k zFa).x1) ((la.getD k zFa).x2) ((la.getD k zFa).x3) ((la.getD k zFa).x4) ((la.getD k zFa).x5) ((la.getD k zFa).x6) ((la.getD k zFa).x7) mode (i / 1048576) ((i / 65536) % 16) ((i / 64) % 1024) (i % 64) (ov11 la mode (i / 1048576) (i / 65536 % 16) (i / 64 % 1024) (i % 64) (getC cl i) k))).toArray from conB (enters_of Try.func24 (by kernel_rfl) rfl) fun w' => (by rw [rB_raw (n := 72) (xs := ov11 la mode (i / 1048576) (i / 65536 % 16) (i / 64 % 1024) (i % 64) (getC cl i) k) (show (ov11 la mode (i / 1048576) (i / 65536 % 16) (i / 64 % 1024) (i % 64) (getC cl i) k).length = 72 by first | rfl | (simp only [List.length_set, List.length_append, List.length_replicate, List.length_cons, List.length_nil, List.length_map, List.length_range, List.length_take, List.length_drop, HGL, HOL, fapply11_len]; done) | (simp only [List.length_set, List.length_append, List.length_replicate, List.length_cons, List.length_nil, List.length_map, List.length_range, List.length_take, List.length_drop, HGL, HOL, fapply11_len]; omega)), rB_raw (n := 72) (xs := fapply11 ((la.getD k zFa).x0) ((la.getD k zFa).x1) ((la.getD k zFa).x2) ((la.getD k zFa).x3) ((la.getD k zFa).x4) ((la.getD k zFa).x5) ((la.getD k zFa).x6) ((la.getD k zFa).x7) mode (i / 1048576) ((i / 65536) % 16) ((i / 64) % 1024) (i % 64) (ov11 la mode (i / 1048576) (i / 65536 % 16) (i / 64 % 1024) (i % 64) (getC cl i) k)) (show (fapply11 ((la.getD k zFa).x0) ((la.getD k zFa).x1) ((la.getD k zFa).x2) ((la.getD k zFa).x3) ((la.getD k zFa).x4) ((la.getD k zFa).x5) ((la.getD k zFa).x6) ((la.getD k zFa).x7) mode (i / 1048576) ((i / 65536) % 16) ((i / 64) % 1024) (i % 64) (ov11 la mode (i / 1048576) (i / 65536 % 16) (i / 64 % 1024) (i % 64) (getC cl i) k)).length = 72 by first | rfl | (simp only [List.length_set, List.length_append, List.length_replicate, List.length_cons, List.length_nil, List.length_map, List.length_range, List.length_take, List.length_drop, HGL, HOL, fapply11_len]; done) | (simp only [List.length_set, List.length_append, List.length_replicate, List.length_cons, List.length_nil, List.length_map, List.length_range, List.length_take, List.length_drop, HGL, HOL, fapply11_len]; omega))]; exact fapply11_any ((la.getD k zFa).x0) ((la.getD k zFa).x1) ((la.getD k zFa).x2) ((la.getD k zFa).x3) ((la.getD k zFa).x4) ((la.getD k zFa).x5) ((la.getD k zFa).x6) ((la.getD k zFa).x7) mode (i / 1048576) ((i / 65536) % 16) ((i / 64) % 1024) (i % 64) (ov11 la mode (i / 1048576) (i / 65536 % 16) (i / 64 % 1024) (i % 64) (getC cl i) k) (by first | rfl | (simp only [List.length_set, List.length_append, List.length_replicate, List.length_cons, List.length_nil, List.length_map, List.length_range, List.length_take, List.length_drop, HGL, HOL, fapply11_len]; done) | (simp only [List.length_set, List.length_append, List.length_replicate, List.length_cons, List.length_nil, List.length_map, List.length_range, List.length_take, List.length_drop, HGL, HOL, fapply11_len]; omega)) (by omega) (by omega) _)),
    .m (ss 5)]) (fun q8 L => L.set 5 (ob ((q2 3).blk 0) (rB 72 (fapply11 ((la.getD k zFa).x0) ((la.getD k zFa).x1) ((la.getD k zFa).x2) ((la.getD k zFa).x3) ((la.getD k zFa).x4) ((la.getD k zFa).x5) ((la.getD k zFa).x6) ((la.getD k zFa).x7) mode (i / 1048576) ((i / 65536) % 16) ((i / 64) % 1024) (i % 64) (ov11 la mode (i / 1048576) (i / 65536 % 16) (i / 64 % 1024) (i % 64) (getC cl i) k))).toArray 40)) OW ?_
   clear OW; intro q8 _ Wq8 OW; simp only [↓pc, ↓pn, vE, Hint.val, Act.put, eL]
   gi_upto_region 4 with fail
   refine rg (fun q9 => [.v (.int .i64 (k : Int)),
    .t (tb (a := .int .i64 (k : Int)) (b := .int .i64 1) fun _ _ _ _ => bin_add_nat (a := k) (b := 1) (by omega)),
    .v (.int .i64 ((k + 1 : Nat) : Int))]) (fun _ L => L) OW ?_
   clear OW; intro q9 _ Wq9 OW; simp only [↓pc, ↓pn, vE, Hint.val, Act.put, eL]
   gi_wp2
   go_roundw
   case rel => exact ⟨k + 1, by omega, by go_num, (by rw [ov11]; exact OwnE.pick OW.out [0, 1, 2, 3, 4, 5] _ (by kernel_rfl))⟩
   case measure => (simp [intOf] <;> omega)
  have dhB7 := of_decide_eq_false hB7
  obtain rfl : la.length = k := by omega
  gi_upto_region 6 with fail
  refine rg (fun q10 => [.m (ls 5 (rB 72 (ov11 la mode (i / 1048576) (i / 65536 % 16) (i / 64 % 1024) (i % 64) (getC cl i) la.length))),
   .m (ss 4)]) (fun q10 L => L.set 4 (ob ((q1 1).blk 0) (rB 72 (ov11 la mode (i / 1048576) (i / 65536 % 16) (i / 64 % 1024) (i % 64) (getC cl i) la.length)).toArray 40)) OW ?_
  clear OW; intro q10 _ Wq10 OW; simp only [↓pc, ↓pn, vE, Hint.val, Act.put, eL]
  gi_wp2
  exact leafE HS HH OW [.s (rB 72 (ov11 la mode (i / 1048576) (i / 65536 % 16) (i / 64 % 1024) (i % 64) (getC cl i) la.length)) 4] Env.zero [] [(0, 0), (1, 1), (2, 2)] rfl
theorem rlook (g0 g1 g2 g3 g4 mode : Int) (v6 v7 v8 : Value) (cl : List Ce) (la co : List Fa) (i : Int) (hi : 0 ≤ i) (hj : i ≤ 9223372036854775807) (hc : cl.length ≤ 100000) (hn : la.length ≤ 256) (hcl : ∀ c ∈ cl, c.r.length = 72) (hla : ∀ f ∈ la, FaOk f) : Con Try.prog 47 #[.agg #[.int .i64 g0, .int .i64 g1, .int .i64 g2, .int .i64 g3, .int .i64 g4, .int .i64 mode, v6, v7, v8], .int .i64 i] [.p (SqE eCe v6 cl), .p (SqE eFa v7 la), .p (SqE eFa v8 co)] [] (fun _ => []) (fun _ => .agg (rB 72 (ov11 la mode (i / 1048576) (i / 65536 % 16) (i / 64 % 1024) (i % 64) (getC cl i) la.length)).toArray) :=
 Con.ro 2 rfl (fun bq2 hq2 => Con.ro 1 rfl (fun bq1 hq1 => Con.ro 0 rfl (fun bq0 hq0 => rlook_c g0 g1 g2 g3 g4 mode v6 v7 v8 cl la co i hi hj hc hn hcl hla bq0 hq0 bq1 hq1 bq2 hq2) (enters_of Try.func47 (by kernel_rfl) rfl)) (enters_of Try.func47 (by kernel_rfl) rfl)) (enters_of Try.func47 (by kernel_rfl) rfl)
end Go.Proofs.Ytckhkagkpldoiaa.E
