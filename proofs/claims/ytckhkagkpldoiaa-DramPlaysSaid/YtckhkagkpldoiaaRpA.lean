/- The document's chips: places, what is stored, what is put. -/
import Derived.Test.YtckhkagkpldoiaaEt
import Derived.Test.YtckhkagkpldoiaaDrE
import Derived.Test.YtckhkagkpldoiaaFlX
import Derived.Test.YtckhkagkpldoiaaCovA
import Derived.WalkKit
import Derived.Sort.CutIn
import Derived.IntWalk
namespace Go.Proofs.Ytckhkagkpldoiaa.E
open Go Go.RowKit Go.Shelf
attribute [local go_sem] Oper.semAt_some
set_option linter.unusedVariables false
set_option linter.unusedSimpArgs false

structure Ce where
  i : Int
  r : List UInt8
def eCe (c : Ce) : List Value := [.int .i64 c.i] ++ rB 72 c.r
def zCe : Ce := ⟨0, List.replicate 72 0⟩
def zeCe : List Value := .int .i64 0 :: List.replicate 72 (.int .u8 0)
abbrev slCe (v : Value) (xs : List Ce) : Ent := .p (SlE eCe zeCe 159 v xs)
theorem slTCe : SlT Try.prog 79 159 zeCe := SlT.mk' (by kernel_rfl) (by kernel_rfl) rfl
theorem h1Ce : ∀ y, ∀ u ∈ eCe y, u.oneCell' = true := fun y u hu => by
  rcases List.mem_append.1 hu with h | h
  · rw [List.mem_singleton.1 h]; rfl
  · obtain ⟨j, _, hj⟩ := List.mem_flatMap.1 (show u ∈ (List.range 72).flatMap fun j => eB (y.r.getD j 0) from h)
    rw [List.mem_singleton.1 (show u ∈ [_] from hj)]; rfl
abbrev slFr (v : Value) (xs : List Fa) : Ent := .p (SlE eFa [.int .i64 0, .int .i64 0, .int .i64 0, .int .i64 0, .int .i64 0, .int .i64 0, .int .i64 0, .int .i64 0] 31 v xs)
theorem slTFr : SlT Try.prog 80 31 [.int .i64 0, .int .i64 0, .int .i64 0, .int .i64 0, .int .i64 0, .int .i64 0, .int .i64 0, .int .i64 0] := SlT.mk' (by kernel_rfl) (by kernel_rfl) rfl
theorem h1Fr : ∀ y, ∀ u ∈ eFa y, u.oneCell' = true := h1Fa
set_option maxRecDepth 100000 in
set_option maxHeartbeats 1000000 in
theorem rIdx (p0 p1 p2 p3 : Int) (a0 : 0 ≤ p0) (b0 : p0 ≤ 1000000) (a1 : 0 ≤ p1) (b1 : p1 ≤ 1000000) (a2 : 0 ≤ p2) (b2 : p2 ≤ 1000000) (a3 : 0 ≤ p3) (b3 : p3 ≤ 1000000) : Con Try.prog 98 #[.agg #[.int .i64 p0, .int .i64 p1, .int .i64 p2, .int .i64 p3]] [] [] (fun _ => []) (fun _ => .int .i64 ((((1048576 * p0) + (65536 * p1)) + (64 * p2)) + p3)) := by
 refine Con.of (enters_of Try.func98 (by kernel_rfl) rfl) fun w cs HS HH OW => ?_
 refine (callsIn_wide (n := 6)).1 ?_
 refine callsIn_of_wp_marks Try.func98 rfl trivial ?_ rfl
 simp only [Try.ntmps98, eF, Nat.reduceAdd, Nat.reduceSub]
 gi_upto_region 0 with fail
 refine rg (fun q1 => [.m (bx 0),
  .v (.int .i64 0)]) (fun q1 L => L ++ [ob ((q1 0).blk 0) #[.int .i64 p0, .int .i64 p1, .int .i64 p2, .int .i64 p3] 29]) OW ?_
 clear OW; intro q1 _ Wq1 OW; simp only [↓pc, ↓pn, vE, Hint.val, Act.put, eL]
 gi_upto_region 1 with fail
 refine rg (fun q2 => [.v (.pointer (some ⟨(q1 0).blk 0, 0, none⟩)),
  .m (ld 0 (.int .i64 p0)),
  .t (tb (a := .int .i64 1048576) (b := .int .i64 p0) fun _ _ _ _ => bin_mul_in (a := 1048576) (b := p0) (by omega) (by omega)),
  .v (.pointer (some ⟨(q1 0).blk 0, 1, none⟩)),
  .m (ld 0 (.int .i64 p1)),
  .t (tb (a := .int .i64 65536) (b := .int .i64 p1) fun _ _ _ _ => bin_mul_in (a := 65536) (b := p1) (by omega) (by omega)),
  .t (tb (a := .int .i64 (1048576 * p0)) (b := .int .i64 (65536 * p1)) fun _ _ _ _ => bin_add_in (a := (1048576 * p0)) (b := (65536 * p1)) (by omega) (by omega)),
  .v (.pointer (some ⟨(q1 0).blk 0, 2, none⟩)),
  .m (ld 0 (.int .i64 p2)),
  .t (tb (a := .int .i64 64) (b := .int .i64 p2) fun _ _ _ _ => bin_mul_in (a := 64) (b := p2) (by omega) (by omega)),
  .t (tb (a := .int .i64 ((1048576 * p0) + (65536 * p1))) (b := .int .i64 (64 * p2)) fun _ _ _ _ => bin_add_in (a := ((1048576 * p0) + (65536 * p1))) (b := (64 * p2)) (by omega) (by omega)),
  .v (.pointer (some ⟨(q1 0).blk 0, 3, none⟩)),
  .m (ld 0 (.int .i64 p3)),
  .t (tb (a := .int .i64 (((1048576 * p0) + (65536 * p1)) + (64 * p2))) (b := .int .i64 p3) fun _ _ _ _ => bin_add_in (a := (((1048576 * p0) + (65536 * p1)) + (64 * p2))) (b := p3) (by omega) (by omega)),
  .v (.int .i64 ((((1048576 * p0) + (65536 * p1)) + (64 * p2)) + p3))]) (fun _ L => L) OW ?_
 clear OW; intro q2 _ Wq2 OW; simp only [↓pc, ↓pn, vE, Hint.val, Act.put, eL]
 gi_wp2
 exact leafE HS HH OW [.t (.int .i64 ((((1048576 * p0) + (65536 * p1)) + (64 * p2)) + p3))] Env.zero [] [] rfl
set_option maxRecDepth 100000 in
set_option maxHeartbeats 1000000 in
theorem rPlace (i : Int) (hi : 0 ≤ i) (hj : i ≤ 9223372036854775807) : Con Try.prog 82 #[.int .i64 i] [] [] (fun _ => []) (fun _ => .agg #[.int .i64 (i / 1048576), .int .i64 ((i / 65536) % 16), .int .i64 ((i / 64) % 1024), .int .i64 (i % 64)]) := by
 refine Con.of (enters_of Try.func82 (by kernel_rfl) rfl) fun w cs HS HH OW => ?_
 refine (callsIn_wide (n := 6)).1 ?_
 refine callsIn_of_wp_marks Try.func82 rfl trivial ?_ rfl
 simp only [Try.ntmps82, eF, Nat.reduceAdd, Nat.reduceSub]
 gi_upto_region 0 with fail
 refine rg (fun q1 => [.m (al 0)]) (fun q1 L => L ++ [ob ((q1 0).blk 0) #[.int .i64 0, .int .i64 0, .int .i64 0, .int .i64 0] 29]) OW ?_
 clear OW; intro q1 _ Wq1 OW; simp only [↓pc, ↓pn, vE, Hint.val, Act.put, eL]
 gi_upto_region 1 with fail
 refine rg (fun q2 => [.v (.int .i64 i),
  .t (tb (a := .int .i64 i) (b := .int .i64 1048576) fun _ _ _ _ => bin_quo_in (a := i) (c := 1048576) (by omega) (by omega) (by omega)),
  .v (.int .i64 i),
  .t (tb (a := .int .i64 i) (b := .int .i64 65536) fun _ _ _ _ => bin_quo_in (a := i) (c := 65536) (by omega) (by omega) (by omega)),
  .t (tb (a := .int .i64 (i / 65536)) (b := .int .i64 16) fun _ _ _ _ => bin_rem_in (a := (i / 65536)) (c := 16) (by omega) (by omega)),
  .v (.int .i64 i),
  .t (tb (a := .int .i64 i) (b := .int .i64 64) fun _ _ _ _ => bin_quo_in (a := i) (c := 64) (by omega) (by omega) (by omega)),
  .t (tb (a := .int .i64 (i / 64)) (b := .int .i64 1024) fun _ _ _ _ => bin_rem_in (a := (i / 64)) (c := 1024) (by omega) (by omega)),
  .v (.int .i64 i),
  .t (tb (a := .int .i64 i) (b := .int .i64 64) fun _ _ _ _ => bin_rem_in (a := i) (c := 64) (by omega) (by omega)),
  .v (.agg #[.int .i64 (i / 1048576), .int .i64 ((i / 65536) % 16), .int .i64 ((i / 64) % 1024), .int .i64 (i % 64)]),
  .m (ss 0)]) (fun q2 L => L.set 0 (ob ((q1 0).blk 0) #[.int .i64 (i / 1048576), .int .i64 ((i / 65536) % 16), .int .i64 ((i / 64) % 1024), .int .i64 (i % 64)] 29)) OW ?_
 clear OW; intro q2 _ Wq2 OW; simp only [↓pc, ↓pn, vE, Hint.val, Act.put, eL]
 gi_wp2
 exact leafE HS HH OW [.s ([.int .i64 (i / 1048576), .int .i64 ((i / 65536) % 16), .int .i64 ((i / 64) % 1024), .int .i64 (i % 64)]) 0] Env.zero [] [] rfl
set_option maxRecDepth 100000 in
set_option maxHeartbeats 1000000 in
theorem rhasP (g0 g1 g2 g3 g4 mode : Int) (v6 v7 v8 : Value) (i : Int) (hi : 0 ≤ i) (hj : i ≤ 9223372036854775807) : Con Try.prog 46 #[.agg #[.int .i64 g0, .int .i64 g1, .int .i64 g2, .int .i64 g3, .int .i64 g4, .int .i64 mode, v6, v7, v8], .int .i64 i] [] [] (fun _ => []) (fun _ => .bool (rholds g0 g1 g2 g3 g4 (i / 1048576) ((i / 65536) % 16) ((i / 64) % 1024) (i % 64))) := by
 refine Con.of (enters_of Try.func46 (by kernel_rfl) rfl) fun w cs HS HH OW => ?_
 refine (callsIn_wide (n := 6)).1 ?_
 refine callsIn_of_wp_marks Try.func46 rfl trivial ?_ rfl
 simp only [Try.ntmps46, eF, Nat.reduceAdd, Nat.reduceSub]
 gi_upto_region 0 with fail
 refine rg (fun q1 => [.m (bx 0),
  .v (.bool false)]) (fun q1 L => L ++ [ob ((q1 0).blk 0) #[.int .i64 g0, .int .i64 g1, .int .i64 g2, .int .i64 g3, .int .i64 g4, .int .i64 mode, v6, v7, v8] 82]) OW ?_
 clear OW; intro q1 _ Wq1 OW; simp only [↓pc, ↓pn, vE, Hint.val, Act.put, eL]
 gi_upto_region 1 with fail
 refine rg (fun q2 => [.v (.int .i64 i),
  .t (tk (show Value.bool (decide (0 ≤ i)) = .bool true from congrArg Value.bool (by exact decide_eq_true (by omega)))),
  .v (.bool true),
  .v (.pointer (some ⟨(q1 0).blk 0, 0, none⟩)),
  .m (ls 0 ([.int .i64 g0, .int .i64 g1, .int .i64 g2, .int .i64 g3, .int .i64 g4])),
  .v (.int .i64 i),
  .c [] [] (rPlace i (by omega) (by omega)),
  .c [] [] (conB (enters_of Try.func65 (by kernel_rfl) rfl) fun w' => (rholds_any g0 g1 g2 g3 g4 (i / 1048576) ((i / 65536) % 16) ((i / 64) % 1024) (i % 64) _)),
  .k (.bool (rholds g0 g1 g2 g3 g4 (i / 1048576) ((i / 65536) % 16) ((i / 64) % 1024) (i % 64))),
  .v (.bool (rholds g0 g1 g2 g3 g4 (i / 1048576) ((i / 65536) % 16) ((i / 64) % 1024) (i % 64)))]) (fun _ L => L) OW ?_
 clear OW; intro q2 _ Wq2 OW; simp only [↓pc, ↓pn, vE, Hint.val, Act.put, eL]
 gi_wp2
 exact leafE HS HH OW [.t (.bool (rholds g0 g1 g2 g3 g4 (i / 1048576) ((i / 65536) % 16) ((i / 64) % 1024) (i % 64)))] Env.zero [] [] rfl
set_option maxRecDepth 100000 in
set_option maxHeartbeats 1000000 in
theorem rhasN (g0 g1 g2 g3 g4 mode : Int) (v6 v7 v8 : Value) (i : Int) (hi : i < 0) : Con Try.prog 46 #[.agg #[.int .i64 g0, .int .i64 g1, .int .i64 g2, .int .i64 g3, .int .i64 g4, .int .i64 mode, v6, v7, v8], .int .i64 i] [] [] (fun _ => []) (fun _ => .bool false) := by
 refine Con.of (enters_of Try.func46 (by kernel_rfl) rfl) fun w cs HS HH OW => ?_
 refine (callsIn_wide (n := 6)).1 ?_
 refine callsIn_of_wp_marks Try.func46 rfl trivial ?_ rfl
 simp only [Try.ntmps46, eF, Nat.reduceAdd, Nat.reduceSub]
 gi_upto_region 0 with fail
 refine rg (fun q1 => [.m (bx 0),
  .v (.bool false)]) (fun q1 L => L ++ [ob ((q1 0).blk 0) #[.int .i64 g0, .int .i64 g1, .int .i64 g2, .int .i64 g3, .int .i64 g4, .int .i64 mode, v6, v7, v8] 82]) OW ?_
 clear OW; intro q1 _ Wq1 OW; simp only [↓pc, ↓pn, vE, Hint.val, Act.put, eL]
 gi_upto_region 1 with fail
 refine rg (fun q2 => [.v (.int .i64 i),
  .t (tk (show Value.bool (decide (0 ≤ i)) = .bool false from congrArg Value.bool (by exact decide_eq_false (by omega)))),
  .v (.bool false),
  .d (.bool false),
  .d (.bool false),
  .d (.bool false),
  .d (.bool false),
  .d (.bool false),
  .k (.bool false),
  .v (.bool false)]) (fun _ L => L) OW ?_
 clear OW; intro q2 _ Wq2 OW; simp only [↓pc, ↓pn, vE, Hint.val, Act.put, eL]
 gi_wp2
 exact leafE HS HH OW [.t (.bool false)] Env.zero [] [] rfl
def rhas (g0 g1 g2 g3 g4 i : Int) : Bool := decide (0 ≤ i) && rholds g0 g1 g2 g3 g4 (i / 1048576) (i / 65536 % 16) (i / 64 % 1024) (i % 64)
theorem rHas (g0 g1 g2 g3 g4 mode : Int) (v6 v7 v8 : Value) (i : Int) (hj : i ≤ 9223372036854775807) : Con Try.prog 46 #[.agg #[.int .i64 g0, .int .i64 g1, .int .i64 g2, .int .i64 g3, .int .i64 g4, .int .i64 mode, v6, v7, v8], .int .i64 i] [] [] (fun _ => []) (fun _ => .bool (rhas g0 g1 g2 g3 g4 i)) := by
  unfold rhas
  by_cases h : 0 ≤ i
  · rw [decide_eq_true h]
    exact rhasP g0 g1 g2 g3 g4 mode v6 v7 v8 i h hj
  · rw [decide_eq_false h]
    exact rhasN g0 g1 g2 g3 g4 mode v6 v7 v8 i (by omega)
/-- What is stored: the first cell of that index. -/
def getC : List Ce → Int → List UInt8
  | [], _ => List.replicate 72 0
  | c :: cs, i => bif c.i == i then c.r else getC cs i
theorem cs_drop {cs : List Ce} {k : Nat} (hk : (k : Int) < (cs.length : Int)) : cs.drop k = cs.getD k zCe :: cs.drop (k + 1) := by
  have hk : k < cs.length := by omega
  rw [List.drop_eq_getElem_cons hk, List.getD_eq_getElem?_getD, List.getElem?_eq_getElem hk]
  rfl
theorem getC_t {cs : List Ce} {i : Int} {k : Nat} (hk : (k : Int) < (cs.length : Int)) (h : ((cs.getD k zCe).i == i) = true) : getC (cs.drop k) i = (cs.getD k zCe).r := by rw [cs_drop hk, getC, h]; rfl
theorem getC_f {cs : List Ce} {i : Int} {k : Nat} (hk : (k : Int) < (cs.length : Int)) (h : ((cs.getD k zCe).i == i) = false) : getC (cs.drop k) i = getC (cs.drop (k + 1)) i := by rw [cs_drop hk, getC, h]; rfl
theorem getC_0 (i : Int) : getC [] i = List.replicate 72 0 := rfl
theorem getC_len {cs : List Ce} (h : ∀ c ∈ cs, c.r.length = 72) (i : Int) : (getC cs i).length = 72 := by
  induction cs with
  | nil => exact List.length_replicate
  | cons c cs ih =>
    rw [getC]
    cases c.i == i
    · exact ih fun x hx => h x (List.mem_cons_of_mem _ hx)
    · exact h c (List.mem_cons_self ..)
attribute [local irreducible] getC rholds
set_option maxRecDepth 100000 in
set_option maxHeartbeats 1000000 in
theorem rget_c (g0 g1 g2 g3 g4 mode : Int) (v6 v7 v8 : Value) (cl : List Ce) (i : Int) (hc : cl.length ≤ 1000000) (bq0 : Objs) (hq0 : SqE eCe v6 cl bq0) : Con Try.prog 83 #[.agg #[.int .i64 g0, .int .i64 g1, .int .i64 g2, .int .i64 g3, .int .i64 g4, .int .i64 mode, v6, v7, v8], .int .i64 i] [.c bq0] [] (fun _ => []) (fun _ => .agg (rB 72 (getC cl i)).toArray) := by
 refine Con.of (enters_of Try.func83 (by kernel_rfl) rfl) fun w cs HS HH OW => ?_
 refine (callsIn_wide (n := 6)).1 ?_
 refine callsIn_of_wp_marks Try.func83 rfl trivial ?_ rfl
 simp only [Try.ntmps83, eF, Nat.reduceAdd, Nat.reduceSub]
 gi_upto_region 0 with fail
 refine rg (fun q1 => [.m (bx 1),
  .m (al 2)]) (fun q1 L => L ++ [ob ((q1 0).blk 0) #[.int .i64 g0, .int .i64 g1, .int .i64 g2, .int .i64 g3, .int .i64 g4, .int .i64 mode, v6, v7, v8] 82, ob ((q1 1).blk 0) (rB 72 (List.replicate 72 0)).toArray 40]) OW ?_
 clear OW; intro q1 _ Wq1 OW; simp only [↓pc, ↓pn, vE, Hint.val, Act.put, eL]
 gi_upto_region 1 with fail
 refine rg (fun q2 => [.v (.int .i64 0)]) (fun _ L => L) OW ?_
 clear OW; intro q2 _ Wq2 OW; simp only [↓pc, ↓pn, vE, Hint.val, Act.put, eL]
 gi_wp2
 gi_loopw [5] (fun z5 wr => ∃ k : Nat, k ≤ cl.length ∧ z5 = .int .i64 (k : Int) ∧ (getC cl i = getC (cl.drop k) i) ∧ OwnE (ids cs.flatten) w [.c bq0, ob ((q1 0).blk 0) #[.int .i64 g0, .int .i64 g1, .int .i64 g2, .int .i64 g3, .int .i64 g4, .int .i64 mode, v6, v7, v8] 82, ob ((q1 1).blk 0) (rB 72 (List.replicate 72 0)).toArray 40] wr) (fun z5 _ => cl.length - (intOf (z5)).toNat)
 case atStart => exact ⟨0, by omega, rfl, rfl, (by skip; exact OwnE.cast OW.out (by kernel_rfl))⟩
 case round =>
  obtain ⟨k, hk4, rfl, hg, hO⟩ := hrel
  clear OW
  have HG := Lib.hid hg
  clear hg
  have OW := Lib.hid hO
  clear hO
  gi_upto_region 2 with fail
  refine rg (fun q5 => [.v (.int .i64 (k : Int)),
   .v (.pointer (some ⟨(q1 0).blk 0, 6, none⟩)),
   .m (ld 1 (v6)),
   .m (lenR 0 (.c bq0) (cP hq0.1)),
   .v (.bool (decide ((k : Int) < (cl.length : Int))))]) (fun _ L => L) OW ?_
  clear OW; intro q5 _ Wq5 OW; simp only [↓pc, ↓pn, vE, Hint.val, Act.put, eL]
  cases hB6 : (decide ((k : Int) < (cl.length : Int)))
  case true =>
   have dhB6 := of_decide_eq_true hB6
   gi_upto_region 4 with fail
   refine rg (fun q7 => [.v (.pointer (some ⟨(q1 0).blk 0, 6, none⟩)),
    .m (ld 1 (v6)),
    .v (.int .i64 (k : Int)),
    .m (idxR 0 (.c bq0) k 73 (cP hq0.1) (by omega)),
    .m (fldR 0 (.c bq0) (k * 73) 0 (cP hq0.1) (by omega)),
    .m (ldR (u := .int .i64 ((cl.getD k zCe).i)) (d := zCe) 0 (.c bq0) k 73 0 (cP hq0.1) (fun _ => rfl) (by omega) (Nat.le_of_ble_eq_true rfl) (by kernel_rfl)),
    .v (.int .i64 i),
    .v (.bool (((cl.getD k zCe).i) == i))]) (fun _ L => L) OW ?_
   clear OW; intro q7 _ Wq7 OW; simp only [↓pc, ↓pn, vE, Hint.val, Act.put, eL]
   cases hB8 : (((cl.getD k zCe).i) == i)
   case true =>
    have dhB8 := Lib.hid (eq_of_beq hB8)
    gi_upto_region 5 with fail
    refine rg (fun q9 => [.v (.pointer (some ⟨(q1 0).blk 0, 6, none⟩)),
     .m (ld 1 (v6)),
     .v (.int .i64 (k : Int)),
     .m (idxR 0 (.c bq0) k 73 (cP hq0.1) (by omega)),
     .m (fldR 0 (.c bq0) (k * 73) 1 (cP hq0.1) (by omega)),
     .m (lsR (l := rB 72 ((cl.getD k zCe).r)) (d := zCe) 0 (.c bq0) k 73 1 (cP hq0.1) (fun _ => rfl) (by omega) (Nat.le_of_ble_eq_true rfl) (by kernel_rfl)),
     .m (ss 2)]) (fun q9 L => L.set 2 (ob ((q1 1).blk 0) (rB 72 ((cl.getD k zCe).r)).toArray 40)) OW ?_
    clear OW; intro q9 _ Wq9 OW; simp only [↓pc, ↓pn, vE, Hint.val, Act.put, eL]
    gi_wp2
    exact leafE HS HH OW [.s (rB 72 ((cl.getD k zCe).r)) 2] Env.zero [] [(0, 0)] (by first | exact congrArg (fun x => Value.agg (rB 72 x).toArray) (HG.out.trans (getC_t (by assumption) (by assumption))).symm | exact congrArg (fun x => Value.agg (rB 72 x).toArray) (HG.out.trans (by rw [List.drop_length]; exact getC_0 i)).symm)
   have dhB8 := ne_of_beq_false hB8
   gi_upto_region 3 with fail
   refine rg (fun q10 => [.v (.int .i64 (k : Int)),
    .t (tb (a := .int .i64 (k : Int)) (b := .int .i64 1) fun _ _ _ _ => bin_add_nat (a := k) (b := 1) (by omega)),
    .v (.int .i64 ((k + 1 : Nat) : Int))]) (fun _ L => L) OW ?_
   clear OW; intro q10 _ Wq10 OW; simp only [↓pc, ↓pn, vE, Hint.val, Act.put, eL]
   gi_wp2
   go_roundw
   case rel => exact ⟨k + 1, by omega, by go_num, HG.out.trans (getC_f (by assumption) (by assumption)), (by skip; exact OwnE.pick OW.out [0, 1, 2] _ (by kernel_rfl))⟩
   case measure => (simp [intOf] <;> omega)
  have dhB6 := of_decide_eq_false hB6
  obtain rfl : cl.length = k := by omega
  gi_upto_region 6 with fail
  refine rg (fun q11 => [.v (.agg (rB 72 (List.replicate 72 0)).toArray),
   .m (ss 2)]) (fun _ L => L) OW ?_
  clear OW; intro q11 _ Wq11 OW; simp only [↓pc, ↓pn, vE, Hint.val, Act.put, eL]
  gi_wp2
  exact leafE HS HH OW [.s (rB 72 (List.replicate 72 0)) 2] Env.zero [] [(0, 0)] (by first | exact congrArg (fun x => Value.agg (rB 72 x).toArray) (HG.out.trans (getC_t (by assumption) (by assumption))).symm | exact congrArg (fun x => Value.agg (rB 72 x).toArray) (HG.out.trans (by rw [List.drop_length]; exact getC_0 i)).symm)
theorem rget (g0 g1 g2 g3 g4 mode : Int) (v6 v7 v8 : Value) (cl : List Ce) (i : Int) (hc : cl.length ≤ 1000000) : Con Try.prog 83 #[.agg #[.int .i64 g0, .int .i64 g1, .int .i64 g2, .int .i64 g3, .int .i64 g4, .int .i64 mode, v6, v7, v8], .int .i64 i] [.p (SqE eCe v6 cl)] [] (fun _ => []) (fun _ => .agg (rB 72 (getC cl i)).toArray) :=
 Con.ro 0 rfl (fun bq0 hq0 => rget_c g0 g1 g2 g3 g4 mode v6 v7 v8 cl i hc bq0 hq0) (enters_of Try.func83 (by kernel_rfl) rfl)
end Go.Proofs.Ytckhkagkpldoiaa.E
