/- DramKeeps, walked. -/
import Derived.Test.YtckhkagkpldoiaaDrH
import Derived.Test.YtckhkagkpldoiaaEeE
import Derived.WalkKit
import Derived.Sort.CutIn
import Derived.IntWalk
namespace Go.Proofs.Ytckhkagkpldoiaa.E
open Go Go.RowKit Go.Shelf
attribute [local go_sem] Oper.semAt_some
set_option linter.unusedVariables false
set_option linter.unusedSimpArgs false

structure Op5 where
  kind : Int
  index : Int
  many : Int
  fault : Fa
  raw : List UInt8
def eOp (o : Op5) : List Value := [.int .i64 o.kind, .int .i64 o.index, .int .i64 o.many, .int .i64 o.fault.x0, .int .i64 o.fault.x1, .int .i64 o.fault.x2, .int .i64 o.fault.x3, .int .i64 o.fault.x4, .int .i64 o.fault.x5, .int .i64 o.fault.x6, .int .i64 o.fault.x7] ++ rB 72 o.raw
def zOp : Op5 := ⟨0, 0, 0, zFa, zRw⟩
def opsOk (ops : List Op5) : Prop := ∀ o ∈ ops, o.raw.length = 72 ∧ FaOk o.fault
theorem opAt {ops : List Op5} (h : opsOk ops) (k : Nat) : (ops.getD k zOp).raw.length = 72 := by
  rw [List.getD_eq_getElem?_getD]
  cases hx : ops[k]? with
  | none => exact List.length_replicate
  | some o => exact (h o (List.mem_of_getElem? hx)).1
/-- The chips behind k steps that write and read. -/
def kD (D : Dr) (ops : List Op5) : Nat → Dr
  | 0 => D
  | k + 1 => bif (ops.getD k zOp).kind == 2 then wrD (kD D ops k) (ops.getD k zOp).index (ops.getD k zOp).raw else bif (ops.getD k zOp).kind == 3 then rdD (kD D ops k) (ops.getD k zOp).index else kD D ops k
/-- What was written last at the index. -/
def kL (D : Dr) (ops : List Op5) (i : Int) (xs : List UInt8) : Nat → List UInt8
  | 0 => xs
  | k + 1 => bif (ops.getD k zOp).kind == 2 then bif ((dWrite_2 (kD D ops k) (ops.getD k zOp).index) == 0) && ((ops.getD k zOp).index == i) then (ops.getD k zOp).raw else kL D ops i xs k else kL D ops i xs k
theorem kD_ok {D : Dr} (hD : DrOk D) {ops : List Op5} (h : opsOk ops) : ∀ k, DrOk (kD D ops k)
  | 0 => hD
  | k + 1 => by
    unfold kD
    cases (ops.getD k zOp).kind == 2
    · cases (ops.getD k zOp).kind == 3
      · exact kD_ok hD h k
      · exact rdD_ok (kD_ok hD h k) _
    · exact wrD_ok (kD_ok hD h k) _ (opAt h k)
theorem kL_len (D : Dr) {ops : List Op5} (h : opsOk ops) (i : Int) {xs : List UInt8} (lx : xs.length = 72) : ∀ k, (kL D ops i xs k).length = 72
  | 0 => lx
  | k + 1 => by
    unfold kL
    cases (ops.getD k zOp).kind == 2
    · exact kL_len D h i lx k
    · cases ((dWrite_2 (kD D ops k) (ops.getD k zOp).index) == 0) && ((ops.getD k zOp).index == i)
      · exact kL_len D h i lx k
      · exact opAt h k
attribute [local irreducible] fapply ovF gat_0 gat_1 gat_2 gat_3 gat_4 gindex_0 gindex_1 dadd_0 dadd_1 fright flipI flasts flies fnarrow fcovers dInject_0 injD wrD rdD dWrite_0 dWrite_1 dWrite_2 dRead_0 dRead_1 dRead_2 dRead_3 D0 kD kL
def dkeeps_0 (r : Int) (s : Int) (n : Int) (m : Int) (c : Int) (mode : Int) (ops : List Op5) (i : Int) (xs : List UInt8) : Bool := (bif decide (40 < (ops.length : Int)) then true else (bif (dWrite_2 (D0 r s n m c mode) i) != 0 then (dWrite_2 (D0 r s n m c mode) i) == 12 else (((dRead_3 (kD (wrD (D0 r s n m c mode) i xs) ops ops.length) i) == 0) && (decide ((dRead_0 (kD (wrD (D0 r s n m c mode) i xs) ops ops.length) i) = kL (wrD (D0 r s n m c mode) i xs) ops i xs ops.length))) && (((dRead_1 (kD (wrD (D0 r s n m c mode) i xs) ops ops.length) i) == i) && (!(dRead_2 (kD (wrD (D0 r s n m c mode) i xs) ops ops.length) i)))))
set_option maxRecDepth 100000 in
set_option maxHeartbeats 1000000 in
theorem dkeeps (r s n m c mode : Int) (v : Value) (ops : List Op5) (i : Int) (xs : List UInt8) (lx : xs.length = 72) (hops : opsOk ops) (bs : Objs) (h : SrE eOp v ops bs) (hg : gright r s n m c = true) (hm : rightB mode = true) : Con Try.prog 8 #[.agg #[.int .i64 r, .int .i64 s, .int .i64 n, .int .i64 m, .int .i64 c], .int .i64 mode, v, .int .i64 i, .agg (rB 72 xs).toArray] [.c bs] [] (fun _ => []) (fun _ => .bool (dkeeps_0 r s n m c mode ops i xs)) := by
 refine Con.of (enters_of Try.func8 (by kernel_rfl) rfl) fun w cs HS HH OW => ?_
 have H0 := D0_ok r s n m c mode
 have H1 := wrD_ok H0 i lx
 have HK := fun k => kD_ok H1 hops k
 have HO := fun k => opAt hops k
 have HL := fun k => kL_len (wrD (D0 r s n m c mode) i xs) hops i lx k
 have HR := fun k j => dRead_len (HK k) j
 refine (callsIn_wide (n := 6)).1 ?_
 refine callsIn_of_wp_marks Try.func8 rfl trivial ?_ rfl
 simp only [Try.ntmps8, eF, Nat.reduceAdd, Nat.reduceSub]
 gi_upto_region 0 with fail
 refine rg (fun q1 => [.m (bx 1),
  .m (bx 2),
  .v (.bool false)]) (fun q1 L => L ++ [ob ((q1 0).blk 0) #[.int .i64 r, .int .i64 s, .int .i64 n, .int .i64 m, .int .i64 c] 27, ob ((q1 1).blk 0) (rB 72 xs).toArray 41]) OW ?_
 clear OW; intro q1 _ Wq1 OW; simp only [↓pc, ↓pn, vE, Hint.val, Act.put, eL]
 gi_upto_region 1 with fail
 refine rg (fun q2 => [.c [] [] (danchor),
  .v (.bool false)]) (fun _ L => L) OW ?_
 clear OW; intro q2 _ Wq2 OW; simp only [↓pc, ↓pn, vE, Hint.val, Act.put, eL]
 gi_upto_region 3 with fail
 refine rg (fun q3 => [.v (v),
  .m (lenR 0 (.c bs) (cP h)),
  .v (.bool (decide (40 < (ops.length : Int))))]) (fun _ L => L) OW ?_
 clear OW; intro q3 _ Wq3 OW; simp only [↓pc, ↓pn, vE, Hint.val, Act.put, eL]
 cases hB4 : (decide (40 < (ops.length : Int)))
 case true =>
  have dhB4 := of_decide_eq_true hB4
  gi_upto_region 4 with fail
  refine rg (fun q5 => [.v (.bool true)]) (fun _ L => L) OW ?_
  clear OW; intro q5 _ Wq5 OW; simp only [↓pc, ↓pn, vE, Hint.val, Act.put, eL]
  gi_wp2
  exact leafE HS HH OW [.t (.bool true)] Env.zero [] [(0, 0)] (by (try simp only [dkeeps_0]); (repeat (first | rw [hB4] | rw [cond_true] | rw [cond_false])); first | rfl | kernel_rfl) (by kernel_rfl) (by (try simp only [dkeeps_0]); (repeat (first | rw [hB4] | rw [cond_true] | rw [cond_false])); kernel_rfl)
 have dhB4 := of_decide_eq_false hB4
 gi_upto_region 5 with fail
 refine rg (fun q6 => [.m (ls 1 ([.int .i64 r, .int .i64 s, .int .i64 n, .int .i64 m, .int .i64 c])),
  .v (.int .i64 mode),
  .c [] [3] (dNew r s n m c mode hg hm),
  .v (.tuple #[.pointer (some ⟨((q6 2).blk 0), 0, none⟩), .int .i64 0]),
  .v (.pointer (some ⟨((q6 2).blk 0), 0, none⟩)),
  .v (.int .i64 0),
  .v (.pointer (some ⟨((q6 2).blk 0), 0, none⟩)),
  .v (.int .i64 0)]) (fun q6 L => L ++ [.p (PkE (DramS (((q6 2).blk 0)) (D0 r s n m c mode)))]) OW ?_
 clear OW; intro q6 _ Wq6 OW; simp only [↓pc, ↓pn, vE, Hint.val, Act.put, eL]
 gi_upto_region 6 with fail
 refine rg (fun q7 => [.v (.int .i64 0),
  .v (.bool false),
  .v (.bool false),
  .v (.pointer (some ⟨((q6 2).blk 0), 0, none⟩)),
  .v (.bool false),
  .k (.bool false)]) (fun _ L => L) OW ?_
 clear OW; intro q7 _ Wq7 OW; simp only [↓pc, ↓pn, vE, Hint.val, Act.put, eL]
 gi_upto_region 8 with fail
 refine rg (fun q8 => [.v (.pointer (some ⟨((q6 2).blk 0), 0, none⟩)),
  .v (.int .i64 i),
  .m (ls 2 (rB 72 xs)),
  .c [3] [3] (dWrite ((q6 2).blk 0) (D0 r s n m c mode) i xs (by first | rfl | (simp only [List.length_set, List.length_append, List.length_replicate, List.length_cons, List.length_nil, List.length_map, List.length_range, List.length_take, List.length_drop, HO, HL, HR, lx]; done) | (simp only [List.length_set, List.length_append, List.length_replicate, List.length_cons, List.length_nil, List.length_map, List.length_range, List.length_take, List.length_drop, HO, HL, HR, lx]; omega)) (by first | exact H0 | exact HK _)),
  .v (.tuple #[.agg #[.int .i64 (dWrite_0 (D0 r s n m c mode) i), .bool (dWrite_1 (D0 r s n m c mode) i)], .int .i64 (dWrite_2 (D0 r s n m c mode) i)]),
  .v (.agg #[.int .i64 (dWrite_0 (D0 r s n m c mode) i), .bool (dWrite_1 (D0 r s n m c mode) i)]),
  .v (.int .i64 (dWrite_2 (D0 r s n m c mode) i)),
  .m (al 4),
  .m (ss 4),
  .v (.int .i64 (dWrite_2 (D0 r s n m c mode) i))]) (fun q8 L => L.set 3 (.p (PkE (DramS ((q6 2).blk 0) (wrD (D0 r s n m c mode) i xs)))) ++ [ob ((q8 7).blk 0) #[.int .i64 (dWrite_0 (D0 r s n m c mode) i), .bool (dWrite_1 (D0 r s n m c mode) i)] 60]) OW ?_
 clear OW; intro q8 _ Wq8 OW; simp only [↓pc, ↓pn, vE, Hint.val, Act.put, eL]
 gi_upto_region 9 with fail
 refine rg (fun q9 => [.v (.int .i64 (dWrite_2 (D0 r s n m c mode) i)),
  .v (.bool ((dWrite_2 (D0 r s n m c mode) i) != 0))]) (fun _ L => L) OW ?_
 clear OW; intro q9 _ Wq9 OW; simp only [↓pc, ↓pn, vE, Hint.val, Act.put, eL]
 cases hB10 : ((dWrite_2 (D0 r s n m c mode) i) != 0)
 case true =>
  have dhB10 := bne_iff_ne.1 hB10
  gi_upto_region 10 with fail
  refine rg (fun q11 => [.v (.int .i64 (dWrite_2 (D0 r s n m c mode) i)),
   .v (.bool ((dWrite_2 (D0 r s n m c mode) i) == 12)),
   .v (.bool ((dWrite_2 (D0 r s n m c mode) i) == 12))]) (fun _ L => L) OW ?_
  clear OW; intro q11 _ Wq11 OW; simp only [↓pc, ↓pn, vE, Hint.val, Act.put, eL]
  gi_wp2
  exact leafE HS HH OW [.t (.bool ((dWrite_2 (D0 r s n m c mode) i) == 12))] Env.zero [] [(0, 0)] (by (try simp only [dkeeps_0]); (repeat (first | rw [hB4] | rw [hB10] | rw [cond_true] | rw [cond_false])); first | rfl | kernel_rfl) (by kernel_rfl) (by (try simp only [dkeeps_0]); (repeat (first | rw [hB4] | rw [hB10] | rw [cond_true] | rw [cond_false])); kernel_rfl)
 have dhB10 := Lib.hid (eq_of_bne_false hB10)
 gi_upto_region 11 with fail
 refine rg (fun q12 => [.m (ls 2 (rB 72 xs)),
  .m (al 5),
  .m (ss 5)]) (fun q12 L => L ++ [ob ((q12 1).blk 0) (rB 72 xs).toArray 41]) OW ?_
 clear OW; intro q12 _ Wq12 OW; simp only [↓pc, ↓pn, vE, Hint.val, Act.put, eL]
 gi_upto_region 12 with fail
 refine rg (fun q13 => [.v (v),
  .m (lenR 0 (.c bs) (cP h)),
  .v (.int .i64 0)]) (fun _ L => L) OW ?_
 clear OW; intro q13 _ Wq13 OW; simp only [↓pc, ↓pn, vE, Hint.val, Act.put, eL]
 gi_wp2
 gi_loopw [56] (fun z56 wr => ∃ k : Nat, k ≤ ops.length ∧ z56 = .int .i64 (k : Int) ∧ OwnE (ids cs.flatten) w [.c bs, ob ((q1 0).blk 0) #[.int .i64 r, .int .i64 s, .int .i64 n, .int .i64 m, .int .i64 c] 27, ob ((q1 1).blk 0) (rB 72 xs).toArray 41, .p (PkE (DramS (((q6 2).blk 0)) (kD (wrD (D0 r s n m c mode) i xs) ops k))), ob ((q8 7).blk 0) #[.int .i64 (dWrite_0 (D0 r s n m c mode) i), .bool (dWrite_1 (D0 r s n m c mode) i)] 60, ob ((q12 1).blk 0) (rB 72 (kL (wrD (D0 r s n m c mode) i xs) ops i xs k)).toArray 41] wr) (fun z56 _ => ops.length - (intOf (z56)).toNat)
 case atStart => exact ⟨0, by omega, rfl, (by rw [kD, kL]; exact OwnE.cast OW.out (by kernel_rfl))⟩
 case round =>
  obtain ⟨k, hk15, rfl, hO⟩ := hrel
  clear OW
  have OW := Lib.hid hO
  clear hO
  gi_upto_region 13 with fail
  refine rg (fun q16 => [.v (.bool (decide ((k : Int) < (ops.length : Int))))]) (fun _ L => L) OW ?_
  clear OW; intro q16 _ Wq16 OW; simp only [↓pc, ↓pn, vE, Hint.val, Act.put, eL]
  cases hB17 : (decide ((k : Int) < (ops.length : Int)))
  case true =>
   have dhB17 := of_decide_eq_true hB17
   gi_upto_region 14 with fail
   refine rg (fun q18 => [.m (idxR 0 (.c bs) k 83 (cP h) (by omega)),
    .m (lsR (l := ([.int .i64 ((ops.getD k zOp).kind), .int .i64 ((ops.getD k zOp).index), .int .i64 ((ops.getD k zOp).many), .int .i64 ((ops.getD k zOp).fault.x0), .int .i64 ((ops.getD k zOp).fault.x1), .int .i64 ((ops.getD k zOp).fault.x2), .int .i64 ((ops.getD k zOp).fault.x3), .int .i64 ((ops.getD k zOp).fault.x4), .int .i64 ((ops.getD k zOp).fault.x5), .int .i64 ((ops.getD k zOp).fault.x6), .int .i64 ((ops.getD k zOp).fault.x7)] : List Value) ++ rB 72 ((ops.getD k zOp).raw)) (d := zOp) 0 (.c bs) k 83 0 (cP h) (fun _ => rfl) (by omega) (Nat.le_of_ble_eq_true rfl) (by kernel_rfl)),
    .m (al 6),
    .m (ss 6)]) (fun q18 L => L ++ [ob ((q18 2).blk 0) (([.int .i64 ((ops.getD k zOp).kind), .int .i64 ((ops.getD k zOp).index), .int .i64 ((ops.getD k zOp).many), .int .i64 ((ops.getD k zOp).fault.x0), .int .i64 ((ops.getD k zOp).fault.x1), .int .i64 ((ops.getD k zOp).fault.x2), .int .i64 ((ops.getD k zOp).fault.x3), .int .i64 ((ops.getD k zOp).fault.x4), .int .i64 ((ops.getD k zOp).fault.x5), .int .i64 ((ops.getD k zOp).fault.x6), .int .i64 ((ops.getD k zOp).fault.x7)] : List Value) ++ rB 72 ((ops.getD k zOp).raw)).toArray 64]) OW ?_
   clear OW; intro q18 _ Wq18 OW; simp only [↓pc, ↓pn, vE, Hint.val, Act.put, eL]
   gi_upto_region 15 with fail
   refine rg (fun q19 => [.v (.pointer (some ⟨(q18 2).blk 0, 0, none⟩)),
    .m (ld 6 (.int .i64 ((ops.getD k zOp).kind))),
    .v (.bool (((ops.getD k zOp).kind) == 2))]) (fun _ L => L) OW ?_
   clear OW; intro q19 _ Wq19 OW; simp only [↓pc, ↓pn, vE, Hint.val, Act.put, eL]
   cases hB20 : (((ops.getD k zOp).kind) == 2)
   case true =>
    have dhB20 := Lib.hid (eq_of_beq hB20)
    gi_upto_region 16 with fail
    refine rg (fun q21 => [.v (.pointer (some ⟨((q6 2).blk 0), 0, none⟩)),
     .v (.pointer (some ⟨(q18 2).blk 0, 1, none⟩)),
     .m (ld 6 (.int .i64 ((ops.getD k zOp).index))),
     .v (.pointer (some ⟨(q18 2).blk 0, 11, none⟩)),
     .m (ls 6 (rB 72 ((ops.getD k zOp).raw))),
     .c [3] [3] (dWrite ((q6 2).blk 0) (kD (wrD (D0 r s n m c mode) i xs) ops k) ((ops.getD k zOp).index) ((ops.getD k zOp).raw) (by first | rfl | (simp only [List.length_set, List.length_append, List.length_replicate, List.length_cons, List.length_nil, List.length_map, List.length_range, List.length_take, List.length_drop, HO, HL, HR, lx]; done) | (simp only [List.length_set, List.length_append, List.length_replicate, List.length_cons, List.length_nil, List.length_map, List.length_range, List.length_take, List.length_drop, HO, HL, HR, lx]; omega)) (by first | exact H0 | exact HK _)),
     .v (.tuple #[.agg #[.int .i64 (dWrite_0 (kD (wrD (D0 r s n m c mode) i xs) ops k) ((ops.getD k zOp).index)), .bool (dWrite_1 (kD (wrD (D0 r s n m c mode) i xs) ops k) ((ops.getD k zOp).index))], .int .i64 (dWrite_2 (kD (wrD (D0 r s n m c mode) i xs) ops k) ((ops.getD k zOp).index))]),
     .v (.agg #[.int .i64 (dWrite_0 (kD (wrD (D0 r s n m c mode) i xs) ops k) ((ops.getD k zOp).index)), .bool (dWrite_1 (kD (wrD (D0 r s n m c mode) i xs) ops k) ((ops.getD k zOp).index))]),
     .v (.int .i64 (dWrite_2 (kD (wrD (D0 r s n m c mode) i xs) ops k) ((ops.getD k zOp).index))),
     .m (al 7),
     .m (ss 7),
     .v (.int .i64 (dWrite_2 (kD (wrD (D0 r s n m c mode) i xs) ops k) ((ops.getD k zOp).index)))]) (fun q21 L => L.set 3 (.p (PkE (DramS ((q6 2).blk 0) (wrD (kD (wrD (D0 r s n m c mode) i xs) ops k) ((ops.getD k zOp).index) ((ops.getD k zOp).raw))))) ++ [ob ((q21 9).blk 0) #[.int .i64 (dWrite_0 (kD (wrD (D0 r s n m c mode) i xs) ops k) ((ops.getD k zOp).index)), .bool (dWrite_1 (kD (wrD (D0 r s n m c mode) i xs) ops k) ((ops.getD k zOp).index))] 60]) OW ?_
    clear OW; intro q21 _ Wq21 OW; simp only [↓pc, ↓pn, vE, Hint.val, Act.put, eL]
    gi_upto_region 17 with fail
    refine rg (fun q22 => [.v (.int .i64 (dWrite_2 (kD (wrD (D0 r s n m c mode) i xs) ops k) ((ops.getD k zOp).index))),
     .v (.bool ((dWrite_2 (kD (wrD (D0 r s n m c mode) i xs) ops k) ((ops.getD k zOp).index)) == 0)),
     .v (.bool ((dWrite_2 (kD (wrD (D0 r s n m c mode) i xs) ops k) ((ops.getD k zOp).index)) == 0)),
     .v (.pointer (some ⟨(q18 2).blk 0, 1, none⟩)),
     .m (ld 6 (.int .i64 ((ops.getD k zOp).index))),
     .v (.int .i64 i),
     .v (.bool (((ops.getD k zOp).index) == i)),
     .k (.bool (((dWrite_2 (kD (wrD (D0 r s n m c mode) i xs) ops k) ((ops.getD k zOp).index)) == 0) && (((ops.getD k zOp).index) == i)))]) (fun _ L => L) OW ?_
    clear OW; intro q22 _ Wq22 OW; simp only [↓pc, ↓pn, vE, Hint.val, Act.put, eL]
    cases hB23 : (((dWrite_2 (kD (wrD (D0 r s n m c mode) i xs) ops k) ((ops.getD k zOp).index)) == 0) && (((ops.getD k zOp).index) == i))
    case true =>
     gi_upto_region 18 with fail
     refine rg (fun q24 => [.v (.pointer (some ⟨(q18 2).blk 0, 11, none⟩)),
      .m (ls 6 (rB 72 ((ops.getD k zOp).raw))),
      .m (ss 5)]) (fun q24 L => L.set 5 (ob ((q12 1).blk 0) (rB 72 ((ops.getD k zOp).raw)).toArray 41)) OW ?_
     clear OW; intro q24 _ Wq24 OW; simp only [↓pc, ↓pn, vE, Hint.val, Act.put, eL]
     gi_upto_region 21 with fail
     refine rg (fun q25 => [.t (tb (a := .int .i64 (k : Int)) (b := .int .i64 1) fun _ _ _ _ => bin_add_nat (a := k) (b := 1) (by omega)),
      .v (.int .i64 ((k + 1 : Nat) : Int))]) (fun _ L => L) OW ?_
     clear OW; intro q25 _ Wq25 OW; simp only [↓pc, ↓pn, vE, Hint.val, Act.put, eL]
     gi_wp2
     go_roundw
     case rel => exact ⟨k + 1, by omega, by go_num, (by rw [kD, kL]; (repeat (first | rw [hB4] | rw [hB10] | rw [hB17] | rw [hB20] | rw [hB23] | rw [cond_true] | rw [cond_false])); exact OwnE.pick OW.out [0, 1, 2, 3, 4, 5] _ (by kernel_rfl))⟩
     case measure => (simp [intOf] <;> omega)
    gi_upto_region 21 with fail
    refine rg (fun q26 => [.t (tb (a := .int .i64 (k : Int)) (b := .int .i64 1) fun _ _ _ _ => bin_add_nat (a := k) (b := 1) (by omega)),
     .v (.int .i64 ((k + 1 : Nat) : Int))]) (fun _ L => L) OW ?_
    clear OW; intro q26 _ Wq26 OW; simp only [↓pc, ↓pn, vE, Hint.val, Act.put, eL]
    gi_wp2
    go_roundw
    case rel => exact ⟨k + 1, by omega, by go_num, (by rw [kD, kL]; (repeat (first | rw [hB4] | rw [hB10] | rw [hB17] | rw [hB20] | rw [hB23] | rw [cond_true] | rw [cond_false])); exact OwnE.pick OW.out [0, 1, 2, 3, 4, 5] _ (by kernel_rfl))⟩
    case measure => (simp [intOf] <;> omega)
   have dhB20 := ne_of_beq_false hB20
   gi_upto_region 19 with fail
   refine rg (fun q27 => [.v (.pointer (some ⟨(q18 2).blk 0, 0, none⟩)),
    .m (ld 6 (.int .i64 ((ops.getD k zOp).kind))),
    .v (.bool (((ops.getD k zOp).kind) == 3))]) (fun _ L => L) OW ?_
   clear OW; intro q27 _ Wq27 OW; simp only [↓pc, ↓pn, vE, Hint.val, Act.put, eL]
   cases hB28 : (((ops.getD k zOp).kind) == 3)
   case true =>
    have dhB28 := Lib.hid (eq_of_beq hB28)
    gi_upto_region 20 with fail
    refine rg (fun q29 => [.v (.pointer (some ⟨((q6 2).blk 0), 0, none⟩)),
     .v (.pointer (some ⟨(q18 2).blk 0, 1, none⟩)),
     .m (ld 6 (.int .i64 ((ops.getD k zOp).index))),
     .c [3] [3] (dRead ((q6 2).blk 0) (kD (wrD (D0 r s n m c mode) i xs) ops k) ((ops.getD k zOp).index) (HK _))]) (fun q29 L => L.set 3 (.p (PkE (DramS ((q6 2).blk 0) (rdD (kD (wrD (D0 r s n m c mode) i xs) ops k) ((ops.getD k zOp).index)))))) OW ?_
    clear OW; intro q29 _ Wq29 OW; simp only [↓pc, ↓pn, vE, Hint.val, Act.put, eL]
    gi_upto_region 21 with fail
    refine rg (fun q30 => [.t (tb (a := .int .i64 (k : Int)) (b := .int .i64 1) fun _ _ _ _ => bin_add_nat (a := k) (b := 1) (by omega)),
     .v (.int .i64 ((k + 1 : Nat) : Int))]) (fun _ L => L) OW ?_
    clear OW; intro q30 _ Wq30 OW; simp only [↓pc, ↓pn, vE, Hint.val, Act.put, eL]
    gi_wp2
    go_roundw
    case rel => exact ⟨k + 1, by omega, by go_num, (by rw [kD, kL]; (repeat (first | rw [hB4] | rw [hB10] | rw [hB17] | rw [hB20] | rw [hB28] | rw [cond_true] | rw [cond_false])); exact OwnE.pick OW.out [0, 1, 2, 3, 4, 5] _ (by kernel_rfl))⟩
    case measure => (simp [intOf] <;> omega)
   have dhB28 := ne_of_beq_false hB28
   gi_upto_region 21 with fail
   refine rg (fun q31 => [.t (tb (a := .int .i64 (k : Int)) (b := .int .i64 1) fun _ _ _ _ => bin_add_nat (a := k) (b := 1) (by omega)),
    .v (.int .i64 ((k + 1 : Nat) : Int))]) (fun _ L => L) OW ?_
   clear OW; intro q31 _ Wq31 OW; simp only [↓pc, ↓pn, vE, Hint.val, Act.put, eL]
   gi_wp2
   go_roundw
   case rel => exact ⟨k + 1, by omega, by go_num, (by rw [kD, kL]; (repeat (first | rw [hB4] | rw [hB10] | rw [hB17] | rw [hB20] | rw [hB28] | rw [cond_true] | rw [cond_false])); exact OwnE.pick OW.out [0, 1, 2, 3, 4, 5] _ (by kernel_rfl))⟩
   case measure => (simp [intOf] <;> omega)
  have dhB17 := of_decide_eq_false hB17
  obtain rfl : ops.length = k := by omega
  gi_upto_region 22 with fail
  refine rg (fun q32 => [.v (.pointer (some ⟨((q6 2).blk 0), 0, none⟩)),
   .v (.int .i64 i),
   .c [3] [3] (dRead ((q6 2).blk 0) (kD (wrD (D0 r s n m c mode) i xs) ops ops.length) i (HK _)),
   .v (.tuple #[.agg (rB 72 (dRead_0 (kD (wrD (D0 r s n m c mode) i xs) ops ops.length) i)).toArray, .agg #[.int .i64 (dRead_1 (kD (wrD (D0 r s n m c mode) i xs) ops ops.length) i), .bool (dRead_2 (kD (wrD (D0 r s n m c mode) i xs) ops ops.length) i)], .int .i64 (dRead_3 (kD (wrD (D0 r s n m c mode) i xs) ops ops.length) i)]),
   .v (.agg (rB 72 (dRead_0 (kD (wrD (D0 r s n m c mode) i xs) ops ops.length) i)).toArray),
   .v (.agg #[.int .i64 (dRead_1 (kD (wrD (D0 r s n m c mode) i xs) ops ops.length) i), .bool (dRead_2 (kD (wrD (D0 r s n m c mode) i xs) ops ops.length) i)]),
   .v (.int .i64 (dRead_3 (kD (wrD (D0 r s n m c mode) i xs) ops ops.length) i)),
   .m (al 6),
   .m (al 7),
   .m (ss 6),
   .m (ss 7),
   .v (.int .i64 (dRead_3 (kD (wrD (D0 r s n m c mode) i xs) ops ops.length) i))]) (fun q32 L => L.set 3 (.p (PkE (DramS ((q6 2).blk 0) (rdD (kD (wrD (D0 r s n m c mode) i xs) ops ops.length) i)))) ++ [ob ((q32 7).blk 0) (rB 72 (dRead_0 (kD (wrD (D0 r s n m c mode) i xs) ops ops.length) i)).toArray 41, ob ((q32 8).blk 0) #[.int .i64 (dRead_1 (kD (wrD (D0 r s n m c mode) i xs) ops ops.length) i), .bool (dRead_2 (kD (wrD (D0 r s n m c mode) i xs) ops ops.length) i)] 60]) OW ?_
  clear OW; intro q32 _ Wq32 OW; simp only [↓pc, ↓pn, vE, Hint.val, Act.put, eL]
  gi_upto_region 23 with fail
  refine rg (fun q33 => [.v (.int .i64 (dRead_3 (kD (wrD (D0 r s n m c mode) i xs) ops ops.length) i)),
   .v (.bool ((dRead_3 (kD (wrD (D0 r s n m c mode) i xs) ops ops.length) i) == 0)),
   .v (.bool ((dRead_3 (kD (wrD (D0 r s n m c mode) i xs) ops ops.length) i) == 0)),
   .m (ls 6 (rB 72 (dRead_0 (kD (wrD (D0 r s n m c mode) i xs) ops ops.length) i))),
   .m (ls 5 (rB 72 (kL (wrD (D0 r s n m c mode) i xs) ops i xs ops.length))),
   .t (tbT 41 fun _ _ _ => bin_eqT (xs := rB 72 (dRead_0 (kD (wrD (D0 r s n m c mode) i xs) ops ops.length) i)) (ys := rB 72 (kL (wrD (D0 r s n m c mode) i xs) ops i xs ops.length)) (by kernel_rfl) (eqc_rB (show ((dRead_0 (kD (wrD (D0 r s n m c mode) i xs) ops ops.length) i)).length = 72 by first | rfl | (simp only [List.length_set, List.length_append, List.length_replicate, List.length_cons, List.length_nil, List.length_map, List.length_range, List.length_take, List.length_drop, HO, HL, HR, lx]; done) | (simp only [List.length_set, List.length_append, List.length_replicate, List.length_cons, List.length_nil, List.length_map, List.length_range, List.length_take, List.length_drop, HO, HL, HR, lx]; omega)) (show (kL (wrD (D0 r s n m c mode) i xs) ops i xs ops.length).length = 72 by first | rfl | (simp only [List.length_set, List.length_append, List.length_replicate, List.length_cons, List.length_nil, List.length_map, List.length_range, List.length_take, List.length_drop, HO, HL, HR, lx]; done) | (simp only [List.length_set, List.length_append, List.length_replicate, List.length_cons, List.length_nil, List.length_map, List.length_range, List.length_take, List.length_drop, HO, HL, HR, lx]; omega)))),
   .k (.bool (((dRead_3 (kD (wrD (D0 r s n m c mode) i xs) ops ops.length) i) == 0) && (decide ((dRead_0 (kD (wrD (D0 r s n m c mode) i xs) ops ops.length) i) = kL (wrD (D0 r s n m c mode) i xs) ops i xs ops.length)))),
   .v (.bool (((dRead_3 (kD (wrD (D0 r s n m c mode) i xs) ops ops.length) i) == 0) && (decide ((dRead_0 (kD (wrD (D0 r s n m c mode) i xs) ops ops.length) i) = kL (wrD (D0 r s n m c mode) i xs) ops i xs ops.length)))),
   .m (ls 7 ([.int .i64 (dRead_1 (kD (wrD (D0 r s n m c mode) i xs) ops ops.length) i), .bool (dRead_2 (kD (wrD (D0 r s n m c mode) i xs) ops ops.length) i)])),
   .v (.int .i64 i),
   .v (.agg #[.int .i64 i, .bool false]),
   .t (tbT 60 fun _ _ _ => bin_eqT (xs := [.int .i64 (dRead_1 (kD (wrD (D0 r s n m c mode) i xs) ops ops.length) i), .bool (dRead_2 (kD (wrD (D0 r s n m c mode) i xs) ops ops.length) i)]) (ys := [.int .i64 i, .bool false]) (by kernel_rfl) (show _ = ((((dRead_1 (kD (wrD (D0 r s n m c mode) i xs) ops ops.length) i) == i) && (!(dRead_2 (kD (wrD (D0 r s n m c mode) i xs) ops ops.length) i))) : Bool) from Eq.trans (b := ((dRead_1 (kD (wrD (D0 r s n m c mode) i xs) ops ops.length) i) == i && ((dRead_2 (kD (wrD (D0 r s n m c mode) i xs) ops ops.length) i) == false && true))) (by rfl) (by simp only [Bool.and_true, beq_true, beq_false]))),
   .k (.bool ((((dRead_3 (kD (wrD (D0 r s n m c mode) i xs) ops ops.length) i) == 0) && (decide ((dRead_0 (kD (wrD (D0 r s n m c mode) i xs) ops ops.length) i) = kL (wrD (D0 r s n m c mode) i xs) ops i xs ops.length))) && (((dRead_1 (kD (wrD (D0 r s n m c mode) i xs) ops ops.length) i) == i) && (!(dRead_2 (kD (wrD (D0 r s n m c mode) i xs) ops ops.length) i))))),
   .v (.bool ((((dRead_3 (kD (wrD (D0 r s n m c mode) i xs) ops ops.length) i) == 0) && (decide ((dRead_0 (kD (wrD (D0 r s n m c mode) i xs) ops ops.length) i) = kL (wrD (D0 r s n m c mode) i xs) ops i xs ops.length))) && (((dRead_1 (kD (wrD (D0 r s n m c mode) i xs) ops ops.length) i) == i) && (!(dRead_2 (kD (wrD (D0 r s n m c mode) i xs) ops ops.length) i)))))]) (fun _ L => L) OW ?_
  clear OW; intro q33 _ Wq33 OW; simp only [↓pc, ↓pn, vE, Hint.val, Act.put, eL]
  gi_wp2
  exact leafE HS HH OW [.t (.bool ((((dRead_3 (kD (wrD (D0 r s n m c mode) i xs) ops ops.length) i) == 0) && (decide ((dRead_0 (kD (wrD (D0 r s n m c mode) i xs) ops ops.length) i) = kL (wrD (D0 r s n m c mode) i xs) ops i xs ops.length))) && (((dRead_1 (kD (wrD (D0 r s n m c mode) i xs) ops ops.length) i) == i) && (!(dRead_2 (kD (wrD (D0 r s n m c mode) i xs) ops ops.length) i)))))] Env.zero [] [(0, 0)] (by (try simp only [dkeeps_0]); (repeat (first | rw [hB4] | rw [hB10] | rw [hB17] | rw [cond_true] | rw [cond_false])); first | rfl | kernel_rfl) (by kernel_rfl) (by (try simp only [dkeeps_0]); (repeat (first | rw [hB4] | rw [hB10] | rw [hB17] | rw [cond_true] | rw [cond_false])); kernel_rfl)
set_option maxRecDepth 100000 in
set_option maxHeartbeats 1000000 in
theorem dkeepsG (r s n m c mode : Int) (v : Value) (ops : List Op5) (i : Int) (xs : List UInt8) (lx : xs.length = 72) (bs : Objs) (h : SrE eOp v ops bs) (hg : gright r s n m c = false) : Con Try.prog 8 #[.agg #[.int .i64 r, .int .i64 s, .int .i64 n, .int .i64 m, .int .i64 c], .int .i64 mode, v, .int .i64 i, .agg (rB 72 xs).toArray] [.c bs] [] (fun _ => []) (fun _ => .bool true) := by
 refine Con.of (enters_of Try.func8 (by kernel_rfl) rfl) fun w cs HS HH OW => ?_
 refine (callsIn_wide (n := 6)).1 ?_
 refine callsIn_of_wp_marks Try.func8 rfl trivial ?_ rfl
 simp only [Try.ntmps8, eF, Nat.reduceAdd, Nat.reduceSub]
 gi_upto_region 0 with fail
 refine rg (fun q1 => [.m (bx 1),
  .m (bx 2),
  .v (.bool false)]) (fun q1 L => L ++ [ob ((q1 0).blk 0) #[.int .i64 r, .int .i64 s, .int .i64 n, .int .i64 m, .int .i64 c] 27, ob ((q1 1).blk 0) (rB 72 xs).toArray 41]) OW ?_
 clear OW; intro q1 _ Wq1 OW; simp only [↓pc, ↓pn, vE, Hint.val, Act.put, eL]
 gi_upto_region 1 with fail
 refine rg (fun q2 => [.c [] [] (danchor),
  .v (.bool false)]) (fun _ L => L) OW ?_
 clear OW; intro q2 _ Wq2 OW; simp only [↓pc, ↓pn, vE, Hint.val, Act.put, eL]
 gi_upto_region 3 with fail
 refine rg (fun q3 => [.v (v),
  .m (lenR 0 (.c bs) (cP h)),
  .v (.bool (decide (40 < (ops.length : Int))))]) (fun _ L => L) OW ?_
 clear OW; intro q3 _ Wq3 OW; simp only [↓pc, ↓pn, vE, Hint.val, Act.put, eL]
 cases hB4 : (decide (40 < (ops.length : Int)))
 case true =>
  have dhB4 := of_decide_eq_true hB4
  gi_upto_region 4 with fail
  refine rg (fun q5 => [.v (.bool true)]) (fun _ L => L) OW ?_
  clear OW; intro q5 _ Wq5 OW; simp only [↓pc, ↓pn, vE, Hint.val, Act.put, eL]
  gi_wp2
  exact leafE HS HH OW [.t (.bool true)] Env.zero [] [(0, 0)] (by rfl)
 have dhB4 := of_decide_eq_false hB4
 gi_upto_region 5 with fail
 refine rg (fun q6 => [.m (ls 1 ([.int .i64 r, .int .i64 s, .int .i64 n, .int .i64 m, .int .i64 c])),
  .v (.int .i64 mode),
  .c [] [] (dNewG r s n m c mode hg),
  .v (.tuple #[.pointer none, .int .i64 20]),
  .v (.pointer none),
  .v (.int .i64 20),
  .v (.pointer none),
  .v (.int .i64 20)]) (fun _ L => L) OW ?_
 clear OW; intro q6 _ Wq6 OW; simp only [↓pc, ↓pn, vE, Hint.val, Act.put, eL]
 gi_upto_region 6 with fail
 refine rg (fun q7 => [.v (.int .i64 20),
  .v (.bool true),
  .v (.bool true),
  .d (.bool false),
  .d (.bool false),
  .k (.bool true)]) (fun _ L => L) OW ?_
 clear OW; intro q7 _ Wq7 OW; simp only [↓pc, ↓pn, vE, Hint.val, Act.put, eL]
 gi_upto_region 7 with fail
 refine rg (fun q8 => [.v (.pointer none),
  .v (.bool true),
  .v (.bool true)]) (fun _ L => L) OW ?_
 clear OW; intro q8 _ Wq8 OW; simp only [↓pc, ↓pn, vE, Hint.val, Act.put, eL]
 gi_wp2
 exact leafE HS HH OW [.t (.bool true)] Env.zero [] [(0, 0)] (by rfl)
set_option maxRecDepth 100000 in
set_option maxHeartbeats 1000000 in
theorem dkeepsM (r s n m c mode : Int) (v : Value) (ops : List Op5) (i : Int) (xs : List UInt8) (lx : xs.length = 72) (bs : Objs) (h : SrE eOp v ops bs) (hg : gright r s n m c = true) (hm : rightB mode = false) : Con Try.prog 8 #[.agg #[.int .i64 r, .int .i64 s, .int .i64 n, .int .i64 m, .int .i64 c], .int .i64 mode, v, .int .i64 i, .agg (rB 72 xs).toArray] [.c bs] [] (fun _ => []) (fun _ => .bool true) := by
 refine Con.of (enters_of Try.func8 (by kernel_rfl) rfl) fun w cs HS HH OW => ?_
 refine (callsIn_wide (n := 6)).1 ?_
 refine callsIn_of_wp_marks Try.func8 rfl trivial ?_ rfl
 simp only [Try.ntmps8, eF, Nat.reduceAdd, Nat.reduceSub]
 gi_upto_region 0 with fail
 refine rg (fun q1 => [.m (bx 1),
  .m (bx 2),
  .v (.bool false)]) (fun q1 L => L ++ [ob ((q1 0).blk 0) #[.int .i64 r, .int .i64 s, .int .i64 n, .int .i64 m, .int .i64 c] 27, ob ((q1 1).blk 0) (rB 72 xs).toArray 41]) OW ?_
 clear OW; intro q1 _ Wq1 OW; simp only [↓pc, ↓pn, vE, Hint.val, Act.put, eL]
 gi_upto_region 1 with fail
 refine rg (fun q2 => [.c [] [] (danchor),
  .v (.bool false)]) (fun _ L => L) OW ?_
 clear OW; intro q2 _ Wq2 OW; simp only [↓pc, ↓pn, vE, Hint.val, Act.put, eL]
 gi_upto_region 3 with fail
 refine rg (fun q3 => [.v (v),
  .m (lenR 0 (.c bs) (cP h)),
  .v (.bool (decide (40 < (ops.length : Int))))]) (fun _ L => L) OW ?_
 clear OW; intro q3 _ Wq3 OW; simp only [↓pc, ↓pn, vE, Hint.val, Act.put, eL]
 cases hB4 : (decide (40 < (ops.length : Int)))
 case true =>
  have dhB4 := of_decide_eq_true hB4
  gi_upto_region 4 with fail
  refine rg (fun q5 => [.v (.bool true)]) (fun _ L => L) OW ?_
  clear OW; intro q5 _ Wq5 OW; simp only [↓pc, ↓pn, vE, Hint.val, Act.put, eL]
  gi_wp2
  exact leafE HS HH OW [.t (.bool true)] Env.zero [] [(0, 0)] (by rfl)
 have dhB4 := of_decide_eq_false hB4
 gi_upto_region 5 with fail
 refine rg (fun q6 => [.m (ls 1 ([.int .i64 r, .int .i64 s, .int .i64 n, .int .i64 m, .int .i64 c])),
  .v (.int .i64 mode),
  .c [] [] (dNewM r s n m c mode hg hm),
  .v (.tuple #[.pointer none, .int .i64 21]),
  .v (.pointer none),
  .v (.int .i64 21),
  .v (.pointer none),
  .v (.int .i64 21)]) (fun _ L => L) OW ?_
 clear OW; intro q6 _ Wq6 OW; simp only [↓pc, ↓pn, vE, Hint.val, Act.put, eL]
 gi_upto_region 6 with fail
 refine rg (fun q7 => [.v (.int .i64 21),
  .v (.bool true),
  .v (.bool true),
  .d (.bool false),
  .d (.bool false),
  .k (.bool true)]) (fun _ L => L) OW ?_
 clear OW; intro q7 _ Wq7 OW; simp only [↓pc, ↓pn, vE, Hint.val, Act.put, eL]
 gi_upto_region 7 with fail
 refine rg (fun q8 => [.v (.pointer none),
  .v (.bool true),
  .v (.bool true)]) (fun _ L => L) OW ?_
 clear OW; intro q8 _ Wq8 OW; simp only [↓pc, ↓pn, vE, Hint.val, Act.put, eL]
 gi_wp2
 exact leafE HS HH OW [.t (.bool true)] Env.zero [] [(0, 0)] (by rfl)
end Go.Proofs.Ytckhkagkpldoiaa.E
