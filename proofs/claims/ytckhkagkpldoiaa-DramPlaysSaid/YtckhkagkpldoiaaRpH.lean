/- DramPlays, walked. -/
import Derived.Test.YtckhkagkpldoiaaRpG
import Derived.Test.YtckhkagkpldoiaaDrH
import Derived.Test.YtckhkagkpldoiaaEeE
import Derived.WalkKit
import Derived.Sort.CutIn
import Derived.IntWalk
namespace Go.Proofs.Ytckhkagkpldoiaa.E
open Go Go.RowKit Go.Shelf
attribute [local go_sem] Oper.semAt_some
set_option linter.unusedVariables false
set_option linter.unusedSimpArgs false

def Rs0 : Rs := ⟨[], [], []⟩
theorem Rs0_z : Rs0.cl.length = 0 := rfl
theorem Rs0_rp (r s n m c mode : Int) : RpR (D0 r s n m c mode) r s n m c mode Rs0 := D0_rp r s n m c mode
theorem has_nn {r s n m c i : Int} (hh : (!rhas r s n m c i) = false) : 0 ≤ i := by
  unfold rhas at hh
  rw [Bool.not_eq_false', Bool.and_eq_true] at hh
  exact of_decide_eq_true hh.1
theorem md_12 {mode : Int} (h : rightB mode = true) : (mode != 1 && mode != 2) = false := by
  unfold rightB at h
  have h : mode = 1 ∨ mode = 2 := by simpa using h
  rcases h with rfl | rfl <;> rfl
theorem md_no {mode : Int} (h : rightB mode = false) : (mode != 1 && mode != 2) = true := by
  unfold rightB at h
  simpa using h
attribute [local irreducible] fapply ovF gat_0 gat_1 gat_2 gat_3 gat_4 gindex_0 gindex_1 dadd_0 dadd_1 fright flipI flasts flies fnarrow fcovers dInject_0 injD wrD rdD dWrite_0 dWrite_1 dWrite_2 dRead_0 dRead_1 dRead_2 dRead_3 D0 getC putC rinj_0 rinj_1 rinj_2 rinj_3 rwent_0 rwent_1 rwent_2 rhas ov11 manyN injN rinN fright11 fapply11 dstep_0 psD psC psL psO plD plX Rs0 dLook_0 dLook_1 rright gright rightB
def dplays_0 (r : Int) (s : Int) (n : Int) (m : Int) (c : Int) (mode : Int) (ops : List Op5) (i : Int) : Bool := (bif decide (40 < (ops.length : Int)) then true else (bif !(rhas r s n m c i) then ((dLook_1 (plD (D0 r s n m c mode) ops ops.length) i) == 12) && (decide ((dLook_0 (plD (D0 r s n m c mode) ops ops.length) i) = List.replicate 72 0)) else ((dLook_1 (plD (D0 r s n m c mode) ops ops.length) i) == 0) && (decide ((dLook_0 (plD (D0 r s n m c mode) ops ops.length) i) = ov11 ((plX r s n m c mode Rs0 ops ops.length).la) mode (i / 1048576) (i / 65536 % 16) (i / 64 % 1024) (i % 64) (getC ((plX r s n m c mode Rs0 ops ops.length).cl) i) ((plX r s n m c mode Rs0 ops ops.length).la).length))))
set_option maxRecDepth 100000 in
set_option maxHeartbeats 1000000 in
theorem dplays (r s n m c mode : Int) (v : Value) (ops : List Op5) (i : Int) (hops : opsIn ops) (hix : i ≤ 9223372036854775807) (bs : Objs) (h : SrE eOp v ops bs) (hg : gright r s n m c = true) (hm : rightB mode = true) : Con Try.prog 11 #[.agg #[.int .i64 r, .int .i64 s, .int .i64 n, .int .i64 m, .int .i64 c], .int .i64 mode, v, .int .i64 i] [.c bs] [] (fun _ => []) (fun _ => .bool (dplays_0 r s n m c mode ops i)) := by
 refine Con.of (enters_of Try.func11 (by kernel_rfl) rfl) fun w cs HS HH OW => ?_
 have HP := (Rs0_rp r s n m c mode).play hops
 have HPN := HP ops.length
 have HPL := fun k => plX_len r s n m c mode Rs0 ops k
 have HPO := fun k => opIn_at hops k
 have HOR := fun k => (opIn_at hops k).1
 have HLL := HPN.l1
 have HLC := HPN.l2
 have HL1 := HPN.ok.l1
 have HL2 := HPN.ok.l2
 have HLA : (plD (D0 r s n m c mode) ops ops.length).lasts.length ≤ (plX r s n m c mode Rs0 ops ops.length).la.length := by rw [HPN.la]; exact Nat.le_refl _
 have HLO : (plD (D0 r s n m c mode) ops ops.length).coming.length ≤ (plX r s n m c mode Rs0 ops ops.length).co.length := by rw [HPN.co]; exact Nat.le_refl _
 have HLX := dLook_len HPN.ok i
 have HGX := getC_len HPN.cl i
 have HOX := fun k => ov11_len (plX r s n m c mode Rs0 ops ops.length).la mode (i / 1048576) (i / 65536 % 16) (i / 64 % 1024) (i % 64) HGX k
 have HZ := Rs0_z
 have HQL := fun k => HPL k
 simp only [HZ] at HQL
 refine (callsIn_wide (n := 6)).1 ?_
 refine callsIn_of_wp_marks Try.func11 rfl trivial ?_ rfl
 simp only [Try.ntmps11, eF, Nat.reduceAdd, Nat.reduceSub]
 gi_upto_region 0 with fail
 refine rg (fun q1 => [.m (bx 1),
  .v (.bool false)]) (fun q1 L => L ++ [ob ((q1 0).blk 0) #[.int .i64 r, .int .i64 s, .int .i64 n, .int .i64 m, .int .i64 c] 27]) OW ?_
 clear OW; intro q1 _ Wq1 OW; simp only [↓pc, ↓pn, vE, Hint.val, Act.put, eL]
 gi_upto_region 1 with fail
 refine rg (fun q2 => [.c [] [] (danchor),
  .v (.bool false)]) (fun _ L => L) OW ?_
 clear OW; intro q2 _ Wq2 OW; simp only [↓pc, ↓pn, vE, Hint.val, Act.put, eL]
 gi_upto_region 3 with fail
 refine rg (fun q3 => [.v (v),
  .m (lenR 0 (.c bs) (cP h)),
  .v (.bool (decide (40 < (ops.length : Int))))]) (fun _ L => L) OW ?_
 clear OW; intro q3 _ Wq3 OW; simp only [↓pc, ↓pn, vE, Hint.val, Act.put, eL]
 cases hB4 : (decide (40 < (ops.length : Int)))
 case true =>
  have dhB4 := of_decide_eq_true hB4
  gi_upto_region 4 with fail
  refine rg (fun q5 => [.v (.bool true)]) (fun _ L => L) OW ?_
  clear OW; intro q5 _ Wq5 OW; simp only [↓pc, ↓pn, vE, Hint.val, Act.put, eL]
  gi_wp2
  exact leafE HS HH OW [.t (.bool true)] Env.zero [] [(0, 0)] (by (try simp only [dplays_0]); (repeat (first | rw [hB4] | rw [cond_true] | rw [cond_false])); first | rfl | kernel_rfl) (by kernel_rfl) (by (try simp only [dplays_0]); (repeat (first | rw [hB4] | rw [cond_true] | rw [cond_false])); kernel_rfl)
 have dhB4 := of_decide_eq_false hB4
 gi_upto_region 5 with fail
 refine rg (fun q6 => [.m (ls 1 ([.int .i64 r, .int .i64 s, .int .i64 n, .int .i64 m, .int .i64 c])),
  .v (.int .i64 mode),
  .c [] [2] (dNew r s n m c mode hg hm),
  .v (.tuple #[.pointer (some ⟨((q6 2).blk 0), 0, none⟩), .int .i64 0]),
  .v (.pointer (some ⟨((q6 2).blk 0), 0, none⟩)),
  .v (.int .i64 0),
  .v (.pointer (some ⟨((q6 2).blk 0), 0, none⟩)),
  .v (.int .i64 0)]) (fun q6 L => L ++ [.p (PkE (DramS (((q6 2).blk 0)) (D0 r s n m c mode)))]) OW ?_
 clear OW; intro q6 _ Wq6 OW; simp only [↓pc, ↓pn, vE, Hint.val, Act.put, eL]
 gi_upto_region 6 with fail
 refine rg (fun q7 => [.m (ls 1 ([.int .i64 r, .int .i64 s, .int .i64 n, .int .i64 m, .int .i64 c])),
  .v (.int .i64 mode),
  .v (.agg #[.int .i64 r, .int .i64 s, .int .i64 n, .int .i64 m, .int .i64 c, .int .i64 mode, .slice none 0 0, .slice none 0 0, .slice none 0 0]),
  .m (al 3),
  .m (ss 3)]) (fun q7 L => L ++ [ob ((q7 3).blk 0) #[.int .i64 r, .int .i64 s, .int .i64 n, .int .i64 m, .int .i64 c, .int .i64 mode, .slice none 0 0, .slice none 0 0, .slice none 0 0] 82]) OW ?_
 clear OW; intro q7 _ Wq7 OW; simp only [↓pc, ↓pn, vE, Hint.val, Act.put, eL]
 gi_upto_region 7 with fail
 refine rg (fun q8 => [.v (.pointer (some ⟨(q7 3).blk 0, 0, none⟩)),
  .m (ls 3 ([.int .i64 r, .int .i64 s, .int .i64 n, .int .i64 m, .int .i64 c])),
  .c [] [] (conB (enters_of Try.func40 (by kernel_rfl) rfl) fun w' => (rright_any r s n m c _)),
  .v (.bool (!(rright r s n m c)))]) (fun _ L => L) OW ?_
 clear OW; intro q8 _ Wq8 OW; simp only [↓pc, ↓pn, vE, Hint.val, Act.put, eL]
 cases hB9 : (!(rright r s n m c))
 case true => exact absurd (hB9.symm.trans (show _ = false from by rw [← gright_eq, hg]; rfl)) (by decide)
 case false =>
  gi_upto_region 9 with fail
  refine rg (fun q10 => [.v (.int .i64 mode),
   .v (.bool (mode != 1)),
   .v (.bool (mode != 1)),
   .v (.int .i64 mode),
   .v (.bool (mode != 2)),
   .k (.bool ((mode != 1) && (mode != 2)))]) (fun _ L => L) OW ?_
  clear OW; intro q10 _ Wq10 OW; simp only [↓pc, ↓pn, vE, Hint.val, Act.put, eL]
  cases hB11 : ((mode != 1) && (mode != 2))
  case true => exact absurd (hB11.symm.trans (show _ = false from by exact md_12 hm)) (by decide)
  case false =>
   gi_upto_region 11 with fail
   refine rg (fun q12 => [.v (.int .i64 0),
    .v (.bool false),
    .v (.bool false),
    .v (.pointer (some ⟨((q6 2).blk 0), 0, none⟩)),
    .v (.bool false),
    .k (.bool false)]) (fun _ L => L) OW ?_
   clear OW; intro q12 _ Wq12 OW; simp only [↓pc, ↓pn, vE, Hint.val, Act.put, eL]
   gi_upto_region 13 with fail
   refine rg (fun q13 => [.v (v),
    .m (lenR 0 (.c bs) (cP h)),
    .v (.int .i64 0)]) (fun _ L => L) OW ?_
   clear OW; intro q13 _ Wq13 OW; simp only [↓pc, ↓pn, vE, Hint.val, Act.put, eL]
   gi_wp2
   replace OW := Lib.hid (OW.out.nilS eCe zeCe 159)
   replace OW := Lib.hid (OwnE.cast (L' := [.c bs, ob ((q1 0).blk 0) #[.int .i64 r, .int .i64 s, .int .i64 n, .int .i64 m, .int .i64 c] 27, .p (PkE (DramS (((q6 2).blk 0)) (D0 r s n m c mode))), ob ((q7 3).blk 0) #[.int .i64 r, .int .i64 s, .int .i64 n, .int .i64 m, .int .i64 c, .int .i64 mode, .slice none 0 0, .slice none 0 0, .slice none 0 0] 82, .p (SqE eCe (.slice none 0 0) ([]))]) (OW.out.weak 4 (y := .p (SqE eCe (.slice none 0 0) ([]))) rfl (fun _ h => SlE.sq h)) (by kernel_rfl))
   replace OW := Lib.hid (OW.out.nilS eFa [.int .i64 0, .int .i64 0, .int .i64 0, .int .i64 0, .int .i64 0, .int .i64 0, .int .i64 0, .int .i64 0] 31)
   replace OW := Lib.hid (OwnE.cast (L' := [.c bs, ob ((q1 0).blk 0) #[.int .i64 r, .int .i64 s, .int .i64 n, .int .i64 m, .int .i64 c] 27, .p (PkE (DramS (((q6 2).blk 0)) (D0 r s n m c mode))), ob ((q7 3).blk 0) #[.int .i64 r, .int .i64 s, .int .i64 n, .int .i64 m, .int .i64 c, .int .i64 mode, .slice none 0 0, .slice none 0 0, .slice none 0 0] 82, .p (SqE eCe (.slice none 0 0) ([])), .p (SqE eFa (.slice none 0 0) ([]))]) (OW.out.weak 5 (y := .p (SqE eFa (.slice none 0 0) ([]))) rfl (fun _ h => SlE.sq h)) (by kernel_rfl))
   replace OW := Lib.hid (OW.out.nilS eFa [.int .i64 0, .int .i64 0, .int .i64 0, .int .i64 0, .int .i64 0, .int .i64 0, .int .i64 0, .int .i64 0] 31)
   replace OW := Lib.hid (OwnE.cast (L' := [.c bs, ob ((q1 0).blk 0) #[.int .i64 r, .int .i64 s, .int .i64 n, .int .i64 m, .int .i64 c] 27, .p (PkE (DramS (((q6 2).blk 0)) (D0 r s n m c mode))), ob ((q7 3).blk 0) #[.int .i64 r, .int .i64 s, .int .i64 n, .int .i64 m, .int .i64 c, .int .i64 mode, .slice none 0 0, .slice none 0 0, .slice none 0 0] 82, .p (SqE eCe (.slice none 0 0) ([])), .p (SqE eFa (.slice none 0 0) ([])), .p (SqE eFa (.slice none 0 0) ([]))]) (OW.out.weak 6 (y := .p (SqE eFa (.slice none 0 0) ([]))) rfl (fun _ h => SlE.sq h)) (by kernel_rfl))
   gi_loopw [67] (fun z67 wr => ∃ k : Nat, ∃ vC11_6 vC11_7 vC11_8 : Value, k ≤ ops.length ∧ z67 = .int .i64 (k : Int) ∧ OwnE (ids cs.flatten) w [.c bs, ob ((q1 0).blk 0) #[.int .i64 r, .int .i64 s, .int .i64 n, .int .i64 m, .int .i64 c] 27, .p (PkE (DramS (((q6 2).blk 0)) (plD (D0 r s n m c mode) ops k))), ob ((q7 3).blk 0) #[.int .i64 r, .int .i64 s, .int .i64 n, .int .i64 m, .int .i64 c, .int .i64 mode, vC11_6, vC11_7, vC11_8] 82, .p (SqE eCe vC11_6 ((plX r s n m c mode Rs0 ops k).cl)), .p (SqE eFa vC11_7 ((plX r s n m c mode Rs0 ops k).la)), .p (SqE eFa vC11_8 ((plX r s n m c mode Rs0 ops k).co))] wr) (fun z67 _ => ops.length - (intOf (z67)).toNat)
   case atStart => exact ⟨0, .slice none 0 0, .slice none 0 0, .slice none 0 0, by omega, rfl, (by skip; exact OwnE.cast OW.out (by kernel_rfl))⟩
   case round =>
    obtain ⟨k, vC11_6, vC11_7, vC11_8, hk15, rfl, hO⟩ := hrel
    clear OW
    have OW := Lib.hid hO
    clear hO
    gi_upto_region 14 with fail
    refine rg (fun q16 => [.v (.bool (decide ((k : Int) < (ops.length : Int))))]) (fun _ L => L) OW ?_
    clear OW; intro q16 _ Wq16 OW; simp only [↓pc, ↓pn, vE, Hint.val, Act.put, eL]
    cases hB17 : (decide ((k : Int) < (ops.length : Int)))
    case true =>
     have dhB17 := of_decide_eq_true hB17
     gi_upto_region 15 with fail
     refine rg (fun q18 => [.m (idxR 0 (.c bs) k 83 (cP h) (by omega)),
      .m (lsR (l := ([.int .i64 ((ops.getD k zOp).kind), .int .i64 ((ops.getD k zOp).index), .int .i64 ((ops.getD k zOp).many), .int .i64 ((ops.getD k zOp).fault.x0), .int .i64 ((ops.getD k zOp).fault.x1), .int .i64 ((ops.getD k zOp).fault.x2), .int .i64 ((ops.getD k zOp).fault.x3), .int .i64 ((ops.getD k zOp).fault.x4), .int .i64 ((ops.getD k zOp).fault.x5), .int .i64 ((ops.getD k zOp).fault.x6), .int .i64 ((ops.getD k zOp).fault.x7)] : List Value) ++ rB 72 ((ops.getD k zOp).raw)) (d := zOp) 0 (.c bs) k 83 0 (cP h) (fun _ => rfl) (by omega) (Nat.le_of_ble_eq_true rfl) (by kernel_rfl)),
      .m (al 7),
      .m (ss 7)]) (fun q18 L => L ++ [ob ((q18 2).blk 0) (([.int .i64 ((ops.getD k zOp).kind), .int .i64 ((ops.getD k zOp).index), .int .i64 ((ops.getD k zOp).many), .int .i64 ((ops.getD k zOp).fault.x0), .int .i64 ((ops.getD k zOp).fault.x1), .int .i64 ((ops.getD k zOp).fault.x2), .int .i64 ((ops.getD k zOp).fault.x3), .int .i64 ((ops.getD k zOp).fault.x4), .int .i64 ((ops.getD k zOp).fault.x5), .int .i64 ((ops.getD k zOp).fault.x6), .int .i64 ((ops.getD k zOp).fault.x7)] : List Value) ++ rB 72 ((ops.getD k zOp).raw)).toArray 64]) OW ?_
     clear OW; intro q18 _ Wq18 OW; simp only [↓pc, ↓pn, vE, Hint.val, Act.put, eL]
     gi_upto_region 16 with fail
     refine rg (fun q19 => [.v (.bool false)]) (fun _ L => L) OW ?_
     clear OW; intro q19 _ Wq19 OW; simp only [↓pc, ↓pn, vE, Hint.val, Act.put, eL]
     gi_upto_region 17 with fail
     refine rg (fun q20 => [.v (.pointer (some ⟨((q6 2).blk 0), 0, none⟩)),
      .m (ls 3 ([.int .i64 r, .int .i64 s, .int .i64 n, .int .i64 m, .int .i64 c, .int .i64 mode, vC11_6, vC11_7, vC11_8])),
      .m (ls 7 (([.int .i64 ((ops.getD k zOp).kind), .int .i64 ((ops.getD k zOp).index), .int .i64 ((ops.getD k zOp).many), .int .i64 ((ops.getD k zOp).fault.x0), .int .i64 ((ops.getD k zOp).fault.x1), .int .i64 ((ops.getD k zOp).fault.x2), .int .i64 ((ops.getD k zOp).fault.x3), .int .i64 ((ops.getD k zOp).fault.x4), .int .i64 ((ops.getD k zOp).fault.x5), .int .i64 ((ops.getD k zOp).fault.x6), .int .i64 ((ops.getD k zOp).fault.x7)] : List Value) ++ rB 72 ((ops.getD k zOp).raw))),
      .c [2, 4, 5, 6] [2, 4, 5, 6] (dstep ((q6 2).blk 0) (plD (D0 r s n m c mode) ops k) r s n m c mode vC11_6 vC11_7 vC11_8 (plX r s n m c mode Rs0 ops k) (ops.getD k zOp) (HP k) (by have := HQL k; omega) (HPO k)),
      .v (.tuple #[.agg #[.int .i64 r, .int .i64 s, .int .i64 n, .int .i64 m, .int .i64 c, .int .i64 mode, ((q20 3).val 0), ((q20 3).val 1), ((q20 3).val 2)], .bool (dstep_0 (plD (D0 r s n m c mode) ops k) r s n m c mode (plX r s n m c mode Rs0 ops k) (ops.getD k zOp))]),
      .v (.agg #[.int .i64 r, .int .i64 s, .int .i64 n, .int .i64 m, .int .i64 c, .int .i64 mode, ((q20 3).val 0), ((q20 3).val 1), ((q20 3).val 2)]),
      .v (.bool (dstep_0 (plD (D0 r s n m c mode) ops k) r s n m c mode (plX r s n m c mode Rs0 ops k) (ops.getD k zOp))),
      .m (sv 3 ((q7 3).blk 0) 0 82 ([.int .i64 r, .int .i64 s, .int .i64 n, .int .i64 m, .int .i64 c, .int .i64 mode, ((q20 3).val 0), ((q20 3).val 1), ((q20 3).val 2)]) #[.int .i64 r, .int .i64 s, .int .i64 n, .int .i64 m, .int .i64 c, .int .i64 mode, vC11_6, vC11_7, vC11_8] #[.int .i64 r, .int .i64 s, .int .i64 n, .int .i64 m, .int .i64 c, .int .i64 mode, ((q20 3).val 0), ((q20 3).val 1), ((q20 3).val 2)] [(4, .p (SqE eCe ((q20 3).val 0) (psC r s n m c mode (plX r s n m c mode Rs0 ops k) (ops.getD k zOp)))), (5, .p (SqE eFa ((q20 3).val 1) (psL r s n m c mode (plX r s n m c mode Rs0 ops k) (ops.getD k zOp)))), (6, .p (SqE eFa ((q20 3).val 2) (psO r s n m c mode (plX r s n m c mode Rs0 ops k) (ops.getD k zOp))))] (by kernel_rfl) (Nat.le_of_ble_eq_true rfl) (fun c5 hc5 => (oc rfl (oc rfl (oc rfl (oc rfl (oc rfl (oc rfl (oc (SqE.one (hc5 _ (.head _))) (oc (SqE.one (hc5 _ (.tail _ (.head _)))) (oc (SqE.one (hc5 _ (.tail _ (.tail _ (.head _))))) on0))))))))))),
      .v (.bool (dstep_0 (plD (D0 r s n m c mode) ops k) r s n m c mode (plX r s n m c mode Rs0 ops k) (ops.getD k zOp)))]) (fun q20 L => ((((L.set 2 (.p (PkE (DramS ((q6 2).blk 0) (psD (plD (D0 r s n m c mode) ops k) (ops.getD k zOp)))))).set 3 (ob ((q7 3).blk 0) #[.int .i64 r, .int .i64 s, .int .i64 n, .int .i64 m, .int .i64 c, .int .i64 mode, ((q20 3).val 0), ((q20 3).val 1), ((q20 3).val 2)] 82)).set 4 (.p (SqE eCe ((q20 3).val 0) (psC r s n m c mode (plX r s n m c mode Rs0 ops k) (ops.getD k zOp))))).set 5 (.p (SqE eFa ((q20 3).val 1) (psL r s n m c mode (plX r s n m c mode Rs0 ops k) (ops.getD k zOp))))).set 6 (.p (SqE eFa ((q20 3).val 2) (psO r s n m c mode (plX r s n m c mode Rs0 ops k) (ops.getD k zOp))))) OW ?_
     clear OW; intro q20 _ Wq20 OW; simp only [↓pc, ↓pn, vE, Hint.val, Act.put, eL]
     gi_upto_region 18 with fail
     refine rg (fun q21 => [.v (.bool (dstep_0 (plD (D0 r s n m c mode) ops k) r s n m c mode (plX r s n m c mode Rs0 ops k) (ops.getD k zOp))),
      .v (.bool (!(dstep_0 (plD (D0 r s n m c mode) ops k) r s n m c mode (plX r s n m c mode Rs0 ops k) (ops.getD k zOp))))]) (fun _ L => L) OW ?_
     clear OW; intro q21 _ Wq21 OW; simp only [↓pc, ↓pn, vE, Hint.val, Act.put, eL]
     cases hB22 : (!(dstep_0 (plD (D0 r s n m c mode) ops k) r s n m c mode (plX r s n m c mode Rs0 ops k) (ops.getD k zOp)))
     case true => exact absurd (hB22.symm.trans (show _ = false from by rw [((HP k).step (HPO k)).1]; rfl)) (by decide)
     case false =>
      gi_upto_region 20 with fail
      refine rg (fun q23 => [.t (tb (a := .int .i64 (k : Int)) (b := .int .i64 1) fun _ _ _ _ => bin_add_nat (a := k) (b := 1) (by omega)),
       .v (.int .i64 ((k + 1 : Nat) : Int))]) (fun _ L => L) OW ?_
      clear OW; intro q23 _ Wq23 OW; simp only [↓pc, ↓pn, vE, Hint.val, Act.put, eL]
      gi_wp2
      go_roundw
      case rel => exact ⟨k + 1, ((q20 3).val 0), ((q20 3).val 1), ((q20 3).val 2), by omega, by go_num, (by skip; exact OwnE.pick OW.out [0, 1, 2, 3, 4, 5, 6] _ (by kernel_rfl))⟩
      case measure => (simp [intOf] <;> omega)
    have dhB17 := of_decide_eq_false hB17
    obtain rfl : ops.length = k := by omega
    gi_upto_region 21 with fail
    refine rg (fun q24 => [.v (.pointer (some ⟨((q6 2).blk 0), 0, none⟩)),
     .c [2] [7] (dFaults ((q6 2).blk 0) (plD (D0 r s n m c mode) ops ops.length) (by first | omega)),
     .v (.pointer (some ⟨((q6 2).blk 0), 0, none⟩)),
     .c [2] [8] (dComing ((q6 2).blk 0) (plD (D0 r s n m c mode) ops ops.length) (by first | omega)),
     .v (((q24 1).val 0)),
     .v (((q24 3).val 0))]) (fun q24 L => L ++ [slFa ((q24 1).val 0) ((plD (D0 r s n m c mode) ops ops.length).lasts), slFa ((q24 3).val 0) ((plD (D0 r s n m c mode) ops ops.length).coming)]) OW ?_
    clear OW; intro q24 _ Wq24 OW; simp only [↓pc, ↓pn, vE, Hint.val, Act.put, eL]
    gi_upto_region 22 with fail
    refine rg (fun q25 => [.v (((q24 1).val 0)),
     .m (lenS 7 (slFa ((q24 1).val 0) ((plD (D0 r s n m c mode) ops ops.length).lasts)) (fun _ h => h)),
     .v (.pointer (some ⟨(q7 3).blk 0, 7, none⟩)),
     .m (ld 3 (vC11_7)),
     .m (lenR 5 (.p (SqE eFa vC11_7 ((plX r s n m c mode Rs0 ops ops.length).la))) (fun _ h => h.1)),
     .t (tk (show Value.bool (((((plD (D0 r s n m c mode) ops ops.length).lasts).length : Nat) : Int) != ((((plX r s n m c mode Rs0 ops ops.length).la).length : Nat) : Int)) = .bool false from congrArg Value.bool (by rw [HPN.la]; exact bne_self_eq_false _))),
     .v (.bool false),
     .v (((q24 3).val 0)),
     .m (lenS 8 (slFa ((q24 3).val 0) ((plD (D0 r s n m c mode) ops ops.length).coming)) (fun _ h => h)),
     .v (.pointer (some ⟨(q7 3).blk 0, 8, none⟩)),
     .m (ld 3 (vC11_8)),
     .m (lenR 6 (.p (SqE eFa vC11_8 ((plX r s n m c mode Rs0 ops ops.length).co))) (fun _ h => h.1)),
     .t (tk (show Value.bool (((((plD (D0 r s n m c mode) ops ops.length).coming).length : Nat) : Int) != ((((plX r s n m c mode Rs0 ops ops.length).co).length : Nat) : Int)) = .bool false from congrArg Value.bool (by rw [HPN.co]; exact bne_self_eq_false _))),
     .k (.bool false),
     .v (.bool false),
     .v (.pointer (some ⟨((q6 2).blk 0), 0, none⟩)),
     .c [2] [] (dGeom ((q6 2).blk 0) (plD (D0 r s n m c mode) ops ops.length)),
     .m (ls 1 ([.int .i64 r, .int .i64 s, .int .i64 n, .int .i64 m, .int .i64 c])),
     .t (TH.cast (tbT 27 fun _ _ _ => bin_neT (xs := [.int .i64 ((plD (D0 r s n m c mode) ops ops.length).g0), .int .i64 ((plD (D0 r s n m c mode) ops ops.length).g1), .int .i64 ((plD (D0 r s n m c mode) ops ops.length).g2), .int .i64 ((plD (D0 r s n m c mode) ops ops.length).g3), .int .i64 ((plD (D0 r s n m c mode) ops ops.length).g4)]) (ys := [.int .i64 r, .int .i64 s, .int .i64 n, .int .i64 m, .int .i64 c]) (by kernel_rfl) (show _ = (((((plD (D0 r s n m c mode) ops ops.length).g0) == r) && ((((plD (D0 r s n m c mode) ops ops.length).g1) == s) && ((((plD (D0 r s n m c mode) ops ops.length).g2) == n) && ((((plD (D0 r s n m c mode) ops ops.length).g3) == m) && (((plD (D0 r s n m c mode) ops ops.length).g4) == c))))) : Bool) from Eq.trans (b := (((plD (D0 r s n m c mode) ops ops.length).g0) == r && (((plD (D0 r s n m c mode) ops ops.length).g1) == s && (((plD (D0 r s n m c mode) ops ops.length).g2) == n && (((plD (D0 r s n m c mode) ops ops.length).g3) == m && (((plD (D0 r s n m c mode) ops ops.length).g4) == c && true)))))) (by rfl) (by simp only [Bool.and_true, beq_true, beq_false]))) (show Value.bool (!((((plD (D0 r s n m c mode) ops ops.length).g0) == r) && ((((plD (D0 r s n m c mode) ops ops.length).g1) == s) && ((((plD (D0 r s n m c mode) ops ops.length).g2) == n) && ((((plD (D0 r s n m c mode) ops ops.length).g3) == m) && (((plD (D0 r s n m c mode) ops ops.length).g4) == c)))))) = .bool false from congrArg Value.bool (by rw [HPN.g0, HPN.g1, HPN.g2, HPN.g3, HPN.g4]; simp))),
     .k (.bool false),
     .v (.bool false),
     .v (.pointer (some ⟨((q6 2).blk 0), 0, none⟩)),
     .c [2] [] (dMode ((q6 2).blk 0) (plD (D0 r s n m c mode) ops ops.length)),
     .v (.int .i64 mode),
     .t (tk (show Value.bool (((plD (D0 r s n m c mode) ops ops.length).mode) != mode) = .bool false from congrArg Value.bool (by rw [HPN.md]; exact bne_self_eq_false _))),
     .k (.bool false)]) (fun _ L => L) OW ?_
    clear OW; intro q25 _ Wq25 OW; simp only [↓pc, ↓pn, vE, Hint.val, Act.put, eL]
    gi_upto_region 24 with fail
    refine rg (fun q26 => [.v (((q24 1).val 0)),
     .m (lenS 7 (slFa ((q24 1).val 0) ((plD (D0 r s n m c mode) ops ops.length).lasts)) (fun _ h => h)),
     .v (.int .i64 0)]) (fun _ L => L) OW ?_
    clear OW; intro q26 _ Wq26 OW; simp only [↓pc, ↓pn, vE, Hint.val, Act.put, eL]
    gi_wp2
    gi_loopw [113] (fun z113 wr => ∃ k2 : Nat, k2 ≤ (plD (D0 r s n m c mode) ops ops.length).lasts.length ∧ z113 = .int .i64 (k2 : Int) ∧ OwnE (ids cs.flatten) w [.c bs, ob ((q1 0).blk 0) #[.int .i64 r, .int .i64 s, .int .i64 n, .int .i64 m, .int .i64 c] 27, .p (PkE (DramS (((q6 2).blk 0)) (plD (D0 r s n m c mode) ops ops.length))), ob ((q7 3).blk 0) #[.int .i64 r, .int .i64 s, .int .i64 n, .int .i64 m, .int .i64 c, .int .i64 mode, vC11_6, vC11_7, vC11_8] 82, .p (SqE eCe vC11_6 ((plX r s n m c mode Rs0 ops ops.length).cl)), .p (SqE eFa vC11_7 ((plX r s n m c mode Rs0 ops ops.length).la)), .p (SqE eFa vC11_8 ((plX r s n m c mode Rs0 ops ops.length).co)), slFa ((q24 1).val 0) ((plD (D0 r s n m c mode) ops ops.length).lasts), slFa ((q24 3).val 0) ((plD (D0 r s n m c mode) ops ops.length).coming)] wr) (fun z113 _ => (plD (D0 r s n m c mode) ops ops.length).lasts.length - (intOf (z113)).toNat)
    case atStart => exact ⟨0, by omega, rfl, (by skip; exact OwnE.cast OW.out (by kernel_rfl))⟩
    case round =>
     obtain ⟨k2, hk28, rfl, hO⟩ := hrel
     clear OW
     have OW := Lib.hid hO
     clear hO
     gi_upto_region 25 with fail
     refine rg (fun q29 => [.v (.bool (decide ((k2 : Int) < ((((plD (D0 r s n m c mode) ops ops.length).lasts).length : Nat) : Int))))]) (fun _ L => L) OW ?_
     clear OW; intro q29 _ Wq29 OW; simp only [↓pc, ↓pn, vE, Hint.val, Act.put, eL]
     cases hB30 : (decide ((k2 : Int) < ((((plD (D0 r s n m c mode) ops ops.length).lasts).length : Nat) : Int)))
     case true =>
      have dhB30 := of_decide_eq_true hB30
      gi_upto_region 26 with fail
      refine rg (fun q31 => [.v (.int .i64 (k2 : Int)),
       .m (idxS 7 (slFa ((q24 1).val 0) ((plD (D0 r s n m c mode) ops ops.length).lasts)) k2 8 (fun _ h => h) (by omega)),
       .m (lsS (l := [.int .i64 ((((plD (D0 r s n m c mode) ops ops.length).lasts).getD k2 zFa).x0), .int .i64 ((((plD (D0 r s n m c mode) ops ops.length).lasts).getD k2 zFa).x1), .int .i64 ((((plD (D0 r s n m c mode) ops ops.length).lasts).getD k2 zFa).x2), .int .i64 ((((plD (D0 r s n m c mode) ops ops.length).lasts).getD k2 zFa).x3), .int .i64 ((((plD (D0 r s n m c mode) ops ops.length).lasts).getD k2 zFa).x4), .int .i64 ((((plD (D0 r s n m c mode) ops ops.length).lasts).getD k2 zFa).x5), .int .i64 ((((plD (D0 r s n m c mode) ops ops.length).lasts).getD k2 zFa).x6), .int .i64 ((((plD (D0 r s n m c mode) ops ops.length).lasts).getD k2 zFa).x7)]) (d := zFa) 7 (slFa ((q24 1).val 0) ((plD (D0 r s n m c mode) ops ops.length).lasts)) k2 8 0 (fun _ h => h) (fun _ => rfl) (by omega) (Nat.le_of_ble_eq_true rfl) (by kernel_rfl)),
       .m (al 9),
       .v (.int .i64 (k2 : Int)),
       .m (ss 9)]) (fun q31 L => L ++ [ob ((q31 3).blk 0) #[.int .i64 ((((plD (D0 r s n m c mode) ops ops.length).lasts).getD k2 zFa).x0), .int .i64 ((((plD (D0 r s n m c mode) ops ops.length).lasts).getD k2 zFa).x1), .int .i64 ((((plD (D0 r s n m c mode) ops ops.length).lasts).getD k2 zFa).x2), .int .i64 ((((plD (D0 r s n m c mode) ops ops.length).lasts).getD k2 zFa).x3), .int .i64 ((((plD (D0 r s n m c mode) ops ops.length).lasts).getD k2 zFa).x4), .int .i64 ((((plD (D0 r s n m c mode) ops ops.length).lasts).getD k2 zFa).x5), .int .i64 ((((plD (D0 r s n m c mode) ops ops.length).lasts).getD k2 zFa).x6), .int .i64 ((((plD (D0 r s n m c mode) ops ops.length).lasts).getD k2 zFa).x7)] 25]) OW ?_
      clear OW; intro q31 _ Wq31 OW; simp only [↓pc, ↓pn, vE, Hint.val, Act.put, eL]
      gi_upto_region 27 with fail
      refine rg (fun q32 => [.m (ls 9 ([.int .i64 ((((plD (D0 r s n m c mode) ops ops.length).lasts).getD k2 zFa).x0), .int .i64 ((((plD (D0 r s n m c mode) ops ops.length).lasts).getD k2 zFa).x1), .int .i64 ((((plD (D0 r s n m c mode) ops ops.length).lasts).getD k2 zFa).x2), .int .i64 ((((plD (D0 r s n m c mode) ops ops.length).lasts).getD k2 zFa).x3), .int .i64 ((((plD (D0 r s n m c mode) ops ops.length).lasts).getD k2 zFa).x4), .int .i64 ((((plD (D0 r s n m c mode) ops ops.length).lasts).getD k2 zFa).x5), .int .i64 ((((plD (D0 r s n m c mode) ops ops.length).lasts).getD k2 zFa).x6), .int .i64 ((((plD (D0 r s n m c mode) ops ops.length).lasts).getD k2 zFa).x7)])),
       .c [] [] (dof ((((plD (D0 r s n m c mode) ops ops.length).lasts).getD k2 zFa).x0) ((((plD (D0 r s n m c mode) ops ops.length).lasts).getD k2 zFa).x1) ((((plD (D0 r s n m c mode) ops ops.length).lasts).getD k2 zFa).x2) ((((plD (D0 r s n m c mode) ops ops.length).lasts).getD k2 zFa).x3) ((((plD (D0 r s n m c mode) ops ops.length).lasts).getD k2 zFa).x4) ((((plD (D0 r s n m c mode) ops ops.length).lasts).getD k2 zFa).x5) ((((plD (D0 r s n m c mode) ops ops.length).lasts).getD k2 zFa).x6) ((((plD (D0 r s n m c mode) ops ops.length).lasts).getD k2 zFa).x7)),
       .v (.pointer (some ⟨(q7 3).blk 0, 7, none⟩)),
       .m (ld 3 (vC11_7)),
       .v (.int .i64 (k2 : Int)),
       .m (idxR 5 (.p (SqE eFa vC11_7 ((plX r s n m c mode Rs0 ops ops.length).la))) k2 8 (fun _ h => h.1) (by omega)),
       .m (lsR (l := [.int .i64 ((((plX r s n m c mode Rs0 ops ops.length).la).getD k2 zFa).x0), .int .i64 ((((plX r s n m c mode Rs0 ops ops.length).la).getD k2 zFa).x1), .int .i64 ((((plX r s n m c mode Rs0 ops ops.length).la).getD k2 zFa).x2), .int .i64 ((((plX r s n m c mode Rs0 ops ops.length).la).getD k2 zFa).x3), .int .i64 ((((plX r s n m c mode Rs0 ops ops.length).la).getD k2 zFa).x4), .int .i64 ((((plX r s n m c mode Rs0 ops ops.length).la).getD k2 zFa).x5), .int .i64 ((((plX r s n m c mode Rs0 ops ops.length).la).getD k2 zFa).x6), .int .i64 ((((plX r s n m c mode Rs0 ops ops.length).la).getD k2 zFa).x7)]) (d := zFa) 5 (.p (SqE eFa vC11_7 ((plX r s n m c mode Rs0 ops ops.length).la))) k2 8 0 (fun _ h => h.1) (fun _ => rfl) (by omega) (Nat.le_of_ble_eq_true rfl) (by kernel_rfl)),
       .t (TH.cast (tbT 31 fun _ _ _ => bin_neT (xs := [.int .i64 ((((plD (D0 r s n m c mode) ops ops.length).lasts).getD k2 zFa).x0), .int .i64 ((((plD (D0 r s n m c mode) ops ops.length).lasts).getD k2 zFa).x1), .int .i64 ((((plD (D0 r s n m c mode) ops ops.length).lasts).getD k2 zFa).x2), .int .i64 ((((plD (D0 r s n m c mode) ops ops.length).lasts).getD k2 zFa).x3), .int .i64 ((((plD (D0 r s n m c mode) ops ops.length).lasts).getD k2 zFa).x4), .int .i64 ((((plD (D0 r s n m c mode) ops ops.length).lasts).getD k2 zFa).x5), .int .i64 ((((plD (D0 r s n m c mode) ops ops.length).lasts).getD k2 zFa).x6), .int .i64 ((((plD (D0 r s n m c mode) ops ops.length).lasts).getD k2 zFa).x7)]) (ys := [.int .i64 ((((plX r s n m c mode Rs0 ops ops.length).la).getD k2 zFa).x0), .int .i64 ((((plX r s n m c mode Rs0 ops ops.length).la).getD k2 zFa).x1), .int .i64 ((((plX r s n m c mode Rs0 ops ops.length).la).getD k2 zFa).x2), .int .i64 ((((plX r s n m c mode Rs0 ops ops.length).la).getD k2 zFa).x3), .int .i64 ((((plX r s n m c mode Rs0 ops ops.length).la).getD k2 zFa).x4), .int .i64 ((((plX r s n m c mode Rs0 ops ops.length).la).getD k2 zFa).x5), .int .i64 ((((plX r s n m c mode Rs0 ops ops.length).la).getD k2 zFa).x6), .int .i64 ((((plX r s n m c mode Rs0 ops ops.length).la).getD k2 zFa).x7)]) (by kernel_rfl) (show _ = (((((((plD (D0 r s n m c mode) ops ops.length).lasts).getD k2 zFa).x0) == ((((plX r s n m c mode Rs0 ops ops.length).la).getD k2 zFa).x0)) && ((((((plD (D0 r s n m c mode) ops ops.length).lasts).getD k2 zFa).x1) == ((((plX r s n m c mode Rs0 ops ops.length).la).getD k2 zFa).x1)) && ((((((plD (D0 r s n m c mode) ops ops.length).lasts).getD k2 zFa).x2) == ((((plX r s n m c mode Rs0 ops ops.length).la).getD k2 zFa).x2)) && ((((((plD (D0 r s n m c mode) ops ops.length).lasts).getD k2 zFa).x3) == ((((plX r s n m c mode Rs0 ops ops.length).la).getD k2 zFa).x3)) && ((((((plD (D0 r s n m c mode) ops ops.length).lasts).getD k2 zFa).x4) == ((((plX r s n m c mode Rs0 ops ops.length).la).getD k2 zFa).x4)) && ((((((plD (D0 r s n m c mode) ops ops.length).lasts).getD k2 zFa).x5) == ((((plX r s n m c mode Rs0 ops ops.length).la).getD k2 zFa).x5)) && ((((((plD (D0 r s n m c mode) ops ops.length).lasts).getD k2 zFa).x6) == ((((plX r s n m c mode Rs0 ops ops.length).la).getD k2 zFa).x6)) && (((((plD (D0 r s n m c mode) ops ops.length).lasts).getD k2 zFa).x7) == ((((plX r s n m c mode Rs0 ops ops.length).la).getD k2 zFa).x7))))))))) : Bool) from Eq.trans (b := (((((plD (D0 r s n m c mode) ops ops.length).lasts).getD k2 zFa).x0) == ((((plX r s n m c mode Rs0 ops ops.length).la).getD k2 zFa).x0) && (((((plD (D0 r s n m c mode) ops ops.length).lasts).getD k2 zFa).x1) == ((((plX r s n m c mode Rs0 ops ops.length).la).getD k2 zFa).x1) && (((((plD (D0 r s n m c mode) ops ops.length).lasts).getD k2 zFa).x2) == ((((plX r s n m c mode Rs0 ops ops.length).la).getD k2 zFa).x2) && (((((plD (D0 r s n m c mode) ops ops.length).lasts).getD k2 zFa).x3) == ((((plX r s n m c mode Rs0 ops ops.length).la).getD k2 zFa).x3) && (((((plD (D0 r s n m c mode) ops ops.length).lasts).getD k2 zFa).x4) == ((((plX r s n m c mode Rs0 ops ops.length).la).getD k2 zFa).x4) && (((((plD (D0 r s n m c mode) ops ops.length).lasts).getD k2 zFa).x5) == ((((plX r s n m c mode Rs0 ops ops.length).la).getD k2 zFa).x5) && (((((plD (D0 r s n m c mode) ops ops.length).lasts).getD k2 zFa).x6) == ((((plX r s n m c mode Rs0 ops ops.length).la).getD k2 zFa).x6) && (((((plD (D0 r s n m c mode) ops ops.length).lasts).getD k2 zFa).x7) == ((((plX r s n m c mode Rs0 ops ops.length).la).getD k2 zFa).x7) && true))))))))) (by rfl) (by simp only [Bool.and_true, beq_true, beq_false]))) (show Value.bool (!((((((plD (D0 r s n m c mode) ops ops.length).lasts).getD k2 zFa).x0) == ((((plX r s n m c mode Rs0 ops ops.length).la).getD k2 zFa).x0)) && ((((((plD (D0 r s n m c mode) ops ops.length).lasts).getD k2 zFa).x1) == ((((plX r s n m c mode Rs0 ops ops.length).la).getD k2 zFa).x1)) && ((((((plD (D0 r s n m c mode) ops ops.length).lasts).getD k2 zFa).x2) == ((((plX r s n m c mode Rs0 ops ops.length).la).getD k2 zFa).x2)) && ((((((plD (D0 r s n m c mode) ops ops.length).lasts).getD k2 zFa).x3) == ((((plX r s n m c mode Rs0 ops ops.length).la).getD k2 zFa).x3)) && ((((((plD (D0 r s n m c mode) ops ops.length).lasts).getD k2 zFa).x4) == ((((plX r s n m c mode Rs0 ops ops.length).la).getD k2 zFa).x4)) && ((((((plD (D0 r s n m c mode) ops ops.length).lasts).getD k2 zFa).x5) == ((((plX r s n m c mode Rs0 ops ops.length).la).getD k2 zFa).x5)) && ((((((plD (D0 r s n m c mode) ops ops.length).lasts).getD k2 zFa).x6) == ((((plX r s n m c mode Rs0 ops ops.length).la).getD k2 zFa).x6)) && (((((plD (D0 r s n m c mode) ops ops.length).lasts).getD k2 zFa).x7) == ((((plX r s n m c mode Rs0 ops ops.length).la).getD k2 zFa).x7)))))))))) = .bool false from congrArg Value.bool (by rw [HPN.la]; simp)))]) (fun _ L => L) OW ?_
      clear OW; intro q32 _ Wq32 OW; simp only [↓pc, ↓pn, vE, Hint.val, Act.put, eL]
      gi_upto_region 29 with fail
      refine rg (fun q33 => [.t (tb (a := .int .i64 (k2 : Int)) (b := .int .i64 1) fun _ _ _ _ => bin_add_nat (a := k2) (b := 1) (by omega)),
       .v (.int .i64 ((k2 + 1 : Nat) : Int))]) (fun _ L => L) OW ?_
      clear OW; intro q33 _ Wq33 OW; simp only [↓pc, ↓pn, vE, Hint.val, Act.put, eL]
      gi_wp2
      go_roundw
      case rel => exact ⟨k2 + 1, by omega, by go_num, (by skip; exact OwnE.pick OW.out [0, 1, 2, 3, 4, 5, 6, 7, 8] _ (by kernel_rfl))⟩
      case measure => (simp [intOf] <;> omega)
     have dhB30 := of_decide_eq_false hB30
     gi_upto_region 30 with fail
     refine rg (fun q34 => [.v (((q24 3).val 0)),
      .m (lenS 8 (slFa ((q24 3).val 0) ((plD (D0 r s n m c mode) ops ops.length).coming)) (fun _ h => h)),
      .v (.int .i64 0)]) (fun _ L => L) OW ?_
     clear OW; intro q34 _ Wq34 OW; simp only [↓pc, ↓pn, vE, Hint.val, Act.put, eL]
     gi_wp2
     gi_loopw [129] (fun z129 wr => ∃ k3 : Nat, k3 ≤ (plD (D0 r s n m c mode) ops ops.length).coming.length ∧ z129 = .int .i64 (k3 : Int) ∧ OwnE (ids cs.flatten) w [.c bs, ob ((q1 0).blk 0) #[.int .i64 r, .int .i64 s, .int .i64 n, .int .i64 m, .int .i64 c] 27, .p (PkE (DramS (((q6 2).blk 0)) (plD (D0 r s n m c mode) ops ops.length))), ob ((q7 3).blk 0) #[.int .i64 r, .int .i64 s, .int .i64 n, .int .i64 m, .int .i64 c, .int .i64 mode, vC11_6, vC11_7, vC11_8] 82, .p (SqE eCe vC11_6 ((plX r s n m c mode Rs0 ops ops.length).cl)), .p (SqE eFa vC11_7 ((plX r s n m c mode Rs0 ops ops.length).la)), .p (SqE eFa vC11_8 ((plX r s n m c mode Rs0 ops ops.length).co)), slFa ((q24 1).val 0) ((plD (D0 r s n m c mode) ops ops.length).lasts), slFa ((q24 3).val 0) ((plD (D0 r s n m c mode) ops ops.length).coming)] wr) (fun z129 _ => (plD (D0 r s n m c mode) ops ops.length).coming.length - (intOf (z129)).toNat)
     case atStart => exact ⟨0, by omega, rfl, (by skip; exact OwnE.cast OW.out (by kernel_rfl))⟩
     case round =>
      obtain ⟨k3, hk36, rfl, hO⟩ := hrel
      clear OW
      have OW := Lib.hid hO
      clear hO
      gi_upto_region 31 with fail
      refine rg (fun q37 => [.v (.bool (decide ((k3 : Int) < ((((plD (D0 r s n m c mode) ops ops.length).coming).length : Nat) : Int))))]) (fun _ L => L) OW ?_
      clear OW; intro q37 _ Wq37 OW; simp only [↓pc, ↓pn, vE, Hint.val, Act.put, eL]
      cases hB38 : (decide ((k3 : Int) < ((((plD (D0 r s n m c mode) ops ops.length).coming).length : Nat) : Int)))
      case true =>
       have dhB38 := of_decide_eq_true hB38
       gi_upto_region 32 with fail
       refine rg (fun q39 => [.v (.int .i64 (k3 : Int)),
        .m (idxS 8 (slFa ((q24 3).val 0) ((plD (D0 r s n m c mode) ops ops.length).coming)) k3 8 (fun _ h => h) (by omega)),
        .m (lsS (l := [.int .i64 ((((plD (D0 r s n m c mode) ops ops.length).coming).getD k3 zFa).x0), .int .i64 ((((plD (D0 r s n m c mode) ops ops.length).coming).getD k3 zFa).x1), .int .i64 ((((plD (D0 r s n m c mode) ops ops.length).coming).getD k3 zFa).x2), .int .i64 ((((plD (D0 r s n m c mode) ops ops.length).coming).getD k3 zFa).x3), .int .i64 ((((plD (D0 r s n m c mode) ops ops.length).coming).getD k3 zFa).x4), .int .i64 ((((plD (D0 r s n m c mode) ops ops.length).coming).getD k3 zFa).x5), .int .i64 ((((plD (D0 r s n m c mode) ops ops.length).coming).getD k3 zFa).x6), .int .i64 ((((plD (D0 r s n m c mode) ops ops.length).coming).getD k3 zFa).x7)]) (d := zFa) 8 (slFa ((q24 3).val 0) ((plD (D0 r s n m c mode) ops ops.length).coming)) k3 8 0 (fun _ h => h) (fun _ => rfl) (by omega) (Nat.le_of_ble_eq_true rfl) (by kernel_rfl)),
        .m (al 9),
        .v (.int .i64 (k3 : Int)),
        .m (ss 9)]) (fun q39 L => L ++ [ob ((q39 3).blk 0) #[.int .i64 ((((plD (D0 r s n m c mode) ops ops.length).coming).getD k3 zFa).x0), .int .i64 ((((plD (D0 r s n m c mode) ops ops.length).coming).getD k3 zFa).x1), .int .i64 ((((plD (D0 r s n m c mode) ops ops.length).coming).getD k3 zFa).x2), .int .i64 ((((plD (D0 r s n m c mode) ops ops.length).coming).getD k3 zFa).x3), .int .i64 ((((plD (D0 r s n m c mode) ops ops.length).coming).getD k3 zFa).x4), .int .i64 ((((plD (D0 r s n m c mode) ops ops.length).coming).getD k3 zFa).x5), .int .i64 ((((plD (D0 r s n m c mode) ops ops.length).coming).getD k3 zFa).x6), .int .i64 ((((plD (D0 r s n m c mode) ops ops.length).coming).getD k3 zFa).x7)] 25]) OW ?_
       clear OW; intro q39 _ Wq39 OW; simp only [↓pc, ↓pn, vE, Hint.val, Act.put, eL]
       gi_upto_region 33 with fail
       refine rg (fun q40 => [.m (ls 9 ([.int .i64 ((((plD (D0 r s n m c mode) ops ops.length).coming).getD k3 zFa).x0), .int .i64 ((((plD (D0 r s n m c mode) ops ops.length).coming).getD k3 zFa).x1), .int .i64 ((((plD (D0 r s n m c mode) ops ops.length).coming).getD k3 zFa).x2), .int .i64 ((((plD (D0 r s n m c mode) ops ops.length).coming).getD k3 zFa).x3), .int .i64 ((((plD (D0 r s n m c mode) ops ops.length).coming).getD k3 zFa).x4), .int .i64 ((((plD (D0 r s n m c mode) ops ops.length).coming).getD k3 zFa).x5), .int .i64 ((((plD (D0 r s n m c mode) ops ops.length).coming).getD k3 zFa).x6), .int .i64 ((((plD (D0 r s n m c mode) ops ops.length).coming).getD k3 zFa).x7)])),
        .c [] [] (dof ((((plD (D0 r s n m c mode) ops ops.length).coming).getD k3 zFa).x0) ((((plD (D0 r s n m c mode) ops ops.length).coming).getD k3 zFa).x1) ((((plD (D0 r s n m c mode) ops ops.length).coming).getD k3 zFa).x2) ((((plD (D0 r s n m c mode) ops ops.length).coming).getD k3 zFa).x3) ((((plD (D0 r s n m c mode) ops ops.length).coming).getD k3 zFa).x4) ((((plD (D0 r s n m c mode) ops ops.length).coming).getD k3 zFa).x5) ((((plD (D0 r s n m c mode) ops ops.length).coming).getD k3 zFa).x6) ((((plD (D0 r s n m c mode) ops ops.length).coming).getD k3 zFa).x7)),
        .v (.pointer (some ⟨(q7 3).blk 0, 8, none⟩)),
        .m (ld 3 (vC11_8)),
        .v (.int .i64 (k3 : Int)),
        .m (idxR 6 (.p (SqE eFa vC11_8 ((plX r s n m c mode Rs0 ops ops.length).co))) k3 8 (fun _ h => h.1) (by omega)),
        .m (lsR (l := [.int .i64 ((((plX r s n m c mode Rs0 ops ops.length).co).getD k3 zFa).x0), .int .i64 ((((plX r s n m c mode Rs0 ops ops.length).co).getD k3 zFa).x1), .int .i64 ((((plX r s n m c mode Rs0 ops ops.length).co).getD k3 zFa).x2), .int .i64 ((((plX r s n m c mode Rs0 ops ops.length).co).getD k3 zFa).x3), .int .i64 ((((plX r s n m c mode Rs0 ops ops.length).co).getD k3 zFa).x4), .int .i64 ((((plX r s n m c mode Rs0 ops ops.length).co).getD k3 zFa).x5), .int .i64 ((((plX r s n m c mode Rs0 ops ops.length).co).getD k3 zFa).x6), .int .i64 ((((plX r s n m c mode Rs0 ops ops.length).co).getD k3 zFa).x7)]) (d := zFa) 6 (.p (SqE eFa vC11_8 ((plX r s n m c mode Rs0 ops ops.length).co))) k3 8 0 (fun _ h => h.1) (fun _ => rfl) (by omega) (Nat.le_of_ble_eq_true rfl) (by kernel_rfl)),
        .t (TH.cast (tbT 31 fun _ _ _ => bin_neT (xs := [.int .i64 ((((plD (D0 r s n m c mode) ops ops.length).coming).getD k3 zFa).x0), .int .i64 ((((plD (D0 r s n m c mode) ops ops.length).coming).getD k3 zFa).x1), .int .i64 ((((plD (D0 r s n m c mode) ops ops.length).coming).getD k3 zFa).x2), .int .i64 ((((plD (D0 r s n m c mode) ops ops.length).coming).getD k3 zFa).x3), .int .i64 ((((plD (D0 r s n m c mode) ops ops.length).coming).getD k3 zFa).x4), .int .i64 ((((plD (D0 r s n m c mode) ops ops.length).coming).getD k3 zFa).x5), .int .i64 ((((plD (D0 r s n m c mode) ops ops.length).coming).getD k3 zFa).x6), .int .i64 ((((plD (D0 r s n m c mode) ops ops.length).coming).getD k3 zFa).x7)]) (ys := [.int .i64 ((((plX r s n m c mode Rs0 ops ops.length).co).getD k3 zFa).x0), .int .i64 ((((plX r s n m c mode Rs0 ops ops.length).co).getD k3 zFa).x1), .int .i64 ((((plX r s n m c mode Rs0 ops ops.length).co).getD k3 zFa).x2), .int .i64 ((((plX r s n m c mode Rs0 ops ops.length).co).getD k3 zFa).x3), .int .i64 ((((plX r s n m c mode Rs0 ops ops.length).co).getD k3 zFa).x4), .int .i64 ((((plX r s n m c mode Rs0 ops ops.length).co).getD k3 zFa).x5), .int .i64 ((((plX r s n m c mode Rs0 ops ops.length).co).getD k3 zFa).x6), .int .i64 ((((plX r s n m c mode Rs0 ops ops.length).co).getD k3 zFa).x7)]) (by kernel_rfl) (show _ = (((((((plD (D0 r s n m c mode) ops ops.length).coming).getD k3 zFa).x0) == ((((plX r s n m c mode Rs0 ops ops.length).co).getD k3 zFa).x0)) && ((((((plD (D0 r s n m c mode) ops ops.length).coming).getD k3 zFa).x1) == ((((plX r s n m c mode Rs0 ops ops.length).co).getD k3 zFa).x1)) && ((((((plD (D0 r s n m c mode) ops ops.length).coming).getD k3 zFa).x2) == ((((plX r s n m c mode Rs0 ops ops.length).co).getD k3 zFa).x2)) && ((((((plD (D0 r s n m c mode) ops ops.length).coming).getD k3 zFa).x3) == ((((plX r s n m c mode Rs0 ops ops.length).co).getD k3 zFa).x3)) && ((((((plD (D0 r s n m c mode) ops ops.length).coming).getD k3 zFa).x4) == ((((plX r s n m c mode Rs0 ops ops.length).co).getD k3 zFa).x4)) && ((((((plD (D0 r s n m c mode) ops ops.length).coming).getD k3 zFa).x5) == ((((plX r s n m c mode Rs0 ops ops.length).co).getD k3 zFa).x5)) && ((((((plD (D0 r s n m c mode) ops ops.length).coming).getD k3 zFa).x6) == ((((plX r s n m c mode Rs0 ops ops.length).co).getD k3 zFa).x6)) && (((((plD (D0 r s n m c mode) ops ops.length).coming).getD k3 zFa).x7) == ((((plX r s n m c mode Rs0 ops ops.length).co).getD k3 zFa).x7))))))))) : Bool) from Eq.trans (b := (((((plD (D0 r s n m c mode) ops ops.length).coming).getD k3 zFa).x0) == ((((plX r s n m c mode Rs0 ops ops.length).co).getD k3 zFa).x0) && (((((plD (D0 r s n m c mode) ops ops.length).coming).getD k3 zFa).x1) == ((((plX r s n m c mode Rs0 ops ops.length).co).getD k3 zFa).x1) && (((((plD (D0 r s n m c mode) ops ops.length).coming).getD k3 zFa).x2) == ((((plX r s n m c mode Rs0 ops ops.length).co).getD k3 zFa).x2) && (((((plD (D0 r s n m c mode) ops ops.length).coming).getD k3 zFa).x3) == ((((plX r s n m c mode Rs0 ops ops.length).co).getD k3 zFa).x3) && (((((plD (D0 r s n m c mode) ops ops.length).coming).getD k3 zFa).x4) == ((((plX r s n m c mode Rs0 ops ops.length).co).getD k3 zFa).x4) && (((((plD (D0 r s n m c mode) ops ops.length).coming).getD k3 zFa).x5) == ((((plX r s n m c mode Rs0 ops ops.length).co).getD k3 zFa).x5) && (((((plD (D0 r s n m c mode) ops ops.length).coming).getD k3 zFa).x6) == ((((plX r s n m c mode Rs0 ops ops.length).co).getD k3 zFa).x6) && (((((plD (D0 r s n m c mode) ops ops.length).coming).getD k3 zFa).x7) == ((((plX r s n m c mode Rs0 ops ops.length).co).getD k3 zFa).x7) && true))))))))) (by rfl) (by simp only [Bool.and_true, beq_true, beq_false]))) (show Value.bool (!((((((plD (D0 r s n m c mode) ops ops.length).coming).getD k3 zFa).x0) == ((((plX r s n m c mode Rs0 ops ops.length).co).getD k3 zFa).x0)) && ((((((plD (D0 r s n m c mode) ops ops.length).coming).getD k3 zFa).x1) == ((((plX r s n m c mode Rs0 ops ops.length).co).getD k3 zFa).x1)) && ((((((plD (D0 r s n m c mode) ops ops.length).coming).getD k3 zFa).x2) == ((((plX r s n m c mode Rs0 ops ops.length).co).getD k3 zFa).x2)) && ((((((plD (D0 r s n m c mode) ops ops.length).coming).getD k3 zFa).x3) == ((((plX r s n m c mode Rs0 ops ops.length).co).getD k3 zFa).x3)) && ((((((plD (D0 r s n m c mode) ops ops.length).coming).getD k3 zFa).x4) == ((((plX r s n m c mode Rs0 ops ops.length).co).getD k3 zFa).x4)) && ((((((plD (D0 r s n m c mode) ops ops.length).coming).getD k3 zFa).x5) == ((((plX r s n m c mode Rs0 ops ops.length).co).getD k3 zFa).x5)) && ((((((plD (D0 r s n m c mode) ops ops.length).coming).getD k3 zFa).x6) == ((((plX r s n m c mode Rs0 ops ops.length).co).getD k3 zFa).x6)) && (((((plD (D0 r s n m c mode) ops ops.length).coming).getD k3 zFa).x7) == ((((plX r s n m c mode Rs0 ops ops.length).co).getD k3 zFa).x7)))))))))) = .bool false from congrArg Value.bool (by rw [HPN.co]; simp)))]) (fun _ L => L) OW ?_
       clear OW; intro q40 _ Wq40 OW; simp only [↓pc, ↓pn, vE, Hint.val, Act.put, eL]
       gi_upto_region 35 with fail
       refine rg (fun q41 => [.t (tb (a := .int .i64 (k3 : Int)) (b := .int .i64 1) fun _ _ _ _ => bin_add_nat (a := k3) (b := 1) (by omega)),
        .v (.int .i64 ((k3 + 1 : Nat) : Int))]) (fun _ L => L) OW ?_
       clear OW; intro q41 _ Wq41 OW; simp only [↓pc, ↓pn, vE, Hint.val, Act.put, eL]
       gi_wp2
       go_roundw
       case rel => exact ⟨k3 + 1, by omega, by go_num, (by skip; exact OwnE.pick OW.out [0, 1, 2, 3, 4, 5, 6, 7, 8] _ (by kernel_rfl))⟩
       case measure => (simp [intOf] <;> omega)
      have dhB38 := of_decide_eq_false hB38
      gi_upto_region 36 with fail
      refine rg (fun q42 => [.v (.pointer (some ⟨((q6 2).blk 0), 0, none⟩)),
       .v (.int .i64 i),
       .c [2] [] (dLook ((q6 2).blk 0) (plD (D0 r s n m c mode) ops ops.length) i HPN.ok),
       .v (.tuple #[.agg (rB 72 (dLook_0 (plD (D0 r s n m c mode) ops ops.length) i)).toArray, .int .i64 (dLook_1 (plD (D0 r s n m c mode) ops ops.length) i)]),
       .v (.agg (rB 72 (dLook_0 (plD (D0 r s n m c mode) ops ops.length) i)).toArray),
       .v (.int .i64 (dLook_1 (plD (D0 r s n m c mode) ops ops.length) i)),
       .m (al 9),
       .m (ss 9),
       .v (.int .i64 (dLook_1 (plD (D0 r s n m c mode) ops ops.length) i))]) (fun q42 L => L ++ [ob ((q42 6).blk 0) (rB 72 (dLook_0 (plD (D0 r s n m c mode) ops ops.length) i)).toArray 41]) OW ?_
      clear OW; intro q42 _ Wq42 OW; simp only [↓pc, ↓pn, vE, Hint.val, Act.put, eL]
      gi_upto_region 37 with fail
      refine rg (fun q43 => [.m (ls 3 ([.int .i64 r, .int .i64 s, .int .i64 n, .int .i64 m, .int .i64 c, .int .i64 mode, vC11_6, vC11_7, vC11_8])),
       .v (.int .i64 i),
       .c [] [] (rHas r s n m c mode vC11_6 vC11_7 vC11_8 i (by omega)),
       .v (.bool (!(rhas r s n m c i)))]) (fun _ L => L) OW ?_
      clear OW; intro q43 _ Wq43 OW; simp only [↓pc, ↓pn, vE, Hint.val, Act.put, eL]
      cases hB44 : (!(rhas r s n m c i))
      case true =>
       gi_upto_region 38 with fail
       refine rg (fun q45 => [.v (.int .i64 (dLook_1 (plD (D0 r s n m c mode) ops ops.length) i)),
        .v (.bool ((dLook_1 (plD (D0 r s n m c mode) ops ops.length) i) == 12)),
        .v (.bool ((dLook_1 (plD (D0 r s n m c mode) ops ops.length) i) == 12)),
        .m (ls 9 (rB 72 (dLook_0 (plD (D0 r s n m c mode) ops ops.length) i))),
        .v (.agg (rB 72 (List.replicate 72 0)).toArray),
        .t (tbT 41 fun _ _ _ => bin_eqT (xs := rB 72 (dLook_0 (plD (D0 r s n m c mode) ops ops.length) i)) (ys := rB 72 (List.replicate 72 0)) (by kernel_rfl) (eqc_rB (show ((dLook_0 (plD (D0 r s n m c mode) ops ops.length) i)).length = 72 by first | rfl | (simp only [List.length_set, List.length_append, List.length_replicate, List.length_cons, List.length_nil, List.length_map, List.length_range, List.length_take, List.length_drop, HOR, HLX, HGX, HOX]; done) | (simp only [List.length_set, List.length_append, List.length_replicate, List.length_cons, List.length_nil, List.length_map, List.length_range, List.length_take, List.length_drop, HOR, HLX, HGX, HOX]; omega)) List.length_replicate)),
        .k (.bool (((dLook_1 (plD (D0 r s n m c mode) ops ops.length) i) == 12) && (decide ((dLook_0 (plD (D0 r s n m c mode) ops ops.length) i) = List.replicate 72 0)))),
        .v (.bool (((dLook_1 (plD (D0 r s n m c mode) ops ops.length) i) == 12) && (decide ((dLook_0 (plD (D0 r s n m c mode) ops ops.length) i) = List.replicate 72 0))))]) (fun _ L => L) OW ?_
       clear OW; intro q45 _ Wq45 OW; simp only [↓pc, ↓pn, vE, Hint.val, Act.put, eL]
       gi_wp2
       exact leafE HS HH OW [.t (.bool (((dLook_1 (plD (D0 r s n m c mode) ops ops.length) i) == 12) && (decide ((dLook_0 (plD (D0 r s n m c mode) ops ops.length) i) = List.replicate 72 0))))] Env.zero [] [(0, 0)] (by (try simp only [dplays_0]); (repeat (first | rw [hB4] | rw [hB9] | rw [hB11] | rw [hB17] | rw [hB30] | rw [hB38] | rw [hB44] | rw [cond_true] | rw [cond_false])); first | rfl | kernel_rfl) (by kernel_rfl) (by (try simp only [dplays_0]); (repeat (first | rw [hB4] | rw [hB9] | rw [hB11] | rw [hB17] | rw [hB30] | rw [hB38] | rw [hB44] | rw [cond_true] | rw [cond_false])); kernel_rfl)
      gi_upto_region 39 with fail
      have pn1 := has_nn hB44
      refine rg (fun q46 => [.v (.int .i64 (dLook_1 (plD (D0 r s n m c mode) ops ops.length) i)),
       .v (.bool ((dLook_1 (plD (D0 r s n m c mode) ops ops.length) i) == 0)),
       .v (.bool ((dLook_1 (plD (D0 r s n m c mode) ops ops.length) i) == 0)),
       .m (ls 9 (rB 72 (dLook_0 (plD (D0 r s n m c mode) ops ops.length) i))),
       .m (ls 3 ([.int .i64 r, .int .i64 s, .int .i64 n, .int .i64 m, .int .i64 c, .int .i64 mode, vC11_6, vC11_7, vC11_8])),
       .v (.int .i64 i),
       .c [4, 5, 6] [] (rlook r s n m c mode vC11_6 vC11_7 vC11_8 ((plX r s n m c mode Rs0 ops ops.length).cl) ((plX r s n m c mode Rs0 ops ops.length).la) ((plX r s n m c mode Rs0 ops ops.length).co) i pn1 hix (by have := HQL ops.length; omega) HLL HPN.cl HPN.f1),
       .t (tbT 40 fun _ _ _ => bin_eqT (xs := rB 72 (dLook_0 (plD (D0 r s n m c mode) ops ops.length) i)) (ys := rB 72 (ov11 ((plX r s n m c mode Rs0 ops ops.length).la) mode (i / 1048576) (i / 65536 % 16) (i / 64 % 1024) (i % 64) (getC ((plX r s n m c mode Rs0 ops ops.length).cl) i) ((plX r s n m c mode Rs0 ops ops.length).la).length)) (by kernel_rfl) (eqc_rB (show ((dLook_0 (plD (D0 r s n m c mode) ops ops.length) i)).length = 72 by first | rfl | (simp only [List.length_set, List.length_append, List.length_replicate, List.length_cons, List.length_nil, List.length_map, List.length_range, List.length_take, List.length_drop, HOR, HLX, HGX, HOX]; done) | (simp only [List.length_set, List.length_append, List.length_replicate, List.length_cons, List.length_nil, List.length_map, List.length_range, List.length_take, List.length_drop, HOR, HLX, HGX, HOX]; omega)) (show (ov11 ((plX r s n m c mode Rs0 ops ops.length).la) mode (i / 1048576) (i / 65536 % 16) (i / 64 % 1024) (i % 64) (getC ((plX r s n m c mode Rs0 ops ops.length).cl) i) ((plX r s n m c mode Rs0 ops ops.length).la).length).length = 72 by first | rfl | (simp only [List.length_set, List.length_append, List.length_replicate, List.length_cons, List.length_nil, List.length_map, List.length_range, List.length_take, List.length_drop, HOR, HLX, HGX, HOX]; done) | (simp only [List.length_set, List.length_append, List.length_replicate, List.length_cons, List.length_nil, List.length_map, List.length_range, List.length_take, List.length_drop, HOR, HLX, HGX, HOX]; omega)))),
       .k (.bool (((dLook_1 (plD (D0 r s n m c mode) ops ops.length) i) == 0) && (decide ((dLook_0 (plD (D0 r s n m c mode) ops ops.length) i) = ov11 ((plX r s n m c mode Rs0 ops ops.length).la) mode (i / 1048576) (i / 65536 % 16) (i / 64 % 1024) (i % 64) (getC ((plX r s n m c mode Rs0 ops ops.length).cl) i) ((plX r s n m c mode Rs0 ops ops.length).la).length)))),
       .v (.bool (((dLook_1 (plD (D0 r s n m c mode) ops ops.length) i) == 0) && (decide ((dLook_0 (plD (D0 r s n m c mode) ops ops.length) i) = ov11 ((plX r s n m c mode Rs0 ops ops.length).la) mode (i / 1048576) (i / 65536 % 16) (i / 64 % 1024) (i % 64) (getC ((plX r s n m c mode Rs0 ops ops.length).cl) i) ((plX r s n m c mode Rs0 ops ops.length).la).length))))]) (fun _ L => L) OW ?_
      clear OW; intro q46 _ Wq46 OW; simp only [↓pc, ↓pn, vE, Hint.val, Act.put, eL]
      gi_wp2
      exact leafE HS HH OW [.t (.bool (((dLook_1 (plD (D0 r s n m c mode) ops ops.length) i) == 0) && (decide ((dLook_0 (plD (D0 r s n m c mode) ops ops.length) i) = ov11 ((plX r s n m c mode Rs0 ops ops.length).la) mode (i / 1048576) (i / 65536 % 16) (i / 64 % 1024) (i % 64) (getC ((plX r s n m c mode Rs0 ops ops.length).cl) i) ((plX r s n m c mode Rs0 ops ops.length).la).length))))] Env.zero [] [(0, 0)] (by (try simp only [dplays_0]); (repeat (first | rw [hB4] | rw [hB9] | rw [hB11] | rw [hB17] | rw [hB30] | rw [hB38] | rw [hB44] | rw [cond_true] | rw [cond_false])); first | rfl | kernel_rfl) (by kernel_rfl) (by (try simp only [dplays_0]); (repeat (first | rw [hB4] | rw [hB9] | rw [hB11] | rw [hB17] | rw [hB30] | rw [hB38] | rw [hB44] | rw [cond_true] | rw [cond_false])); kernel_rfl)
set_option maxRecDepth 100000 in
set_option maxHeartbeats 1000000 in
theorem dplaysG (r s n m c mode : Int) (v : Value) (ops : List Op5) (i : Int) (bs : Objs) (h : SrE eOp v ops bs) (hg : gright r s n m c = false) : Con Try.prog 11 #[.agg #[.int .i64 r, .int .i64 s, .int .i64 n, .int .i64 m, .int .i64 c], .int .i64 mode, v, .int .i64 i] [.c bs] [] (fun _ => []) (fun _ => .bool true) := by
 refine Con.of (enters_of Try.func11 (by kernel_rfl) rfl) fun w cs HS HH OW => ?_
 refine (callsIn_wide (n := 6)).1 ?_
 refine callsIn_of_wp_marks Try.func11 rfl trivial ?_ rfl
 simp only [Try.ntmps11, eF, Nat.reduceAdd, Nat.reduceSub]
 gi_upto_region 0 with fail
 refine rg (fun q1 => [.m (bx 1),
  .v (.bool false)]) (fun q1 L => L ++ [ob ((q1 0).blk 0) #[.int .i64 r, .int .i64 s, .int .i64 n, .int .i64 m, .int .i64 c] 27]) OW ?_
 clear OW; intro q1 _ Wq1 OW; simp only [↓pc, ↓pn, vE, Hint.val, Act.put, eL]
 gi_upto_region 1 with fail
 refine rg (fun q2 => [.c [] [] (danchor),
  .v (.bool false)]) (fun _ L => L) OW ?_
 clear OW; intro q2 _ Wq2 OW; simp only [↓pc, ↓pn, vE, Hint.val, Act.put, eL]
 gi_upto_region 3 with fail
 refine rg (fun q3 => [.v (v),
  .m (lenR 0 (.c bs) (cP h)),
  .v (.bool (decide (40 < (ops.length : Int))))]) (fun _ L => L) OW ?_
 clear OW; intro q3 _ Wq3 OW; simp only [↓pc, ↓pn, vE, Hint.val, Act.put, eL]
 cases hB4 : (decide (40 < (ops.length : Int)))
 case true =>
  have dhB4 := of_decide_eq_true hB4
  gi_upto_region 4 with fail
  refine rg (fun q5 => [.v (.bool true)]) (fun _ L => L) OW ?_
  clear OW; intro q5 _ Wq5 OW; simp only [↓pc, ↓pn, vE, Hint.val, Act.put, eL]
  gi_wp2
  exact leafE HS HH OW [.t (.bool true)] Env.zero [] [(0, 0)] rfl
 have dhB4 := of_decide_eq_false hB4
 gi_upto_region 5 with fail
 refine rg (fun q6 => [.m (ls 1 ([.int .i64 r, .int .i64 s, .int .i64 n, .int .i64 m, .int .i64 c])),
  .v (.int .i64 mode),
  .c [] [] (dNewG r s n m c mode hg),
  .v (.tuple #[.pointer none, .int .i64 20]),
  .v (.pointer none),
  .v (.int .i64 20),
  .v (.pointer none),
  .v (.int .i64 20)]) (fun _ L => L) OW ?_
 clear OW; intro q6 _ Wq6 OW; simp only [↓pc, ↓pn, vE, Hint.val, Act.put, eL]
 gi_upto_region 6 with fail
 refine rg (fun q7 => [.m (ls 1 ([.int .i64 r, .int .i64 s, .int .i64 n, .int .i64 m, .int .i64 c])),
  .v (.int .i64 mode),
  .v (.agg #[.int .i64 r, .int .i64 s, .int .i64 n, .int .i64 m, .int .i64 c, .int .i64 mode, .slice none 0 0, .slice none 0 0, .slice none 0 0]),
  .m (al 2),
  .m (ss 2)]) (fun q7 L => L ++ [ob ((q7 3).blk 0) #[.int .i64 r, .int .i64 s, .int .i64 n, .int .i64 m, .int .i64 c, .int .i64 mode, .slice none 0 0, .slice none 0 0, .slice none 0 0] 82]) OW ?_
 clear OW; intro q7 _ Wq7 OW; simp only [↓pc, ↓pn, vE, Hint.val, Act.put, eL]
 gi_upto_region 7 with fail
 refine rg (fun q8 => [.v (.pointer (some ⟨(q7 3).blk 0, 0, none⟩)),
  .m (ls 2 ([.int .i64 r, .int .i64 s, .int .i64 n, .int .i64 m, .int .i64 c])),
  .c [] [] (conB (enters_of Try.func40 (by kernel_rfl) rfl) fun w' => (rright_any r s n m c _)),
  .v (.bool (!(rright r s n m c)))]) (fun _ L => L) OW ?_
 clear OW; intro q8 _ Wq8 OW; simp only [↓pc, ↓pn, vE, Hint.val, Act.put, eL]
 cases hB9 : (!(rright r s n m c))
 case true =>
  gi_upto_region 8 with fail
  refine rg (fun q10 => [.v (.int .i64 20),
   .v (.bool true),
   .v (.bool true),
   .v (.pointer none),
   .v (.bool true),
   .k (.bool true),
   .v (.bool true)]) (fun _ L => L) OW ?_
  clear OW; intro q10 _ Wq10 OW; simp only [↓pc, ↓pn, vE, Hint.val, Act.put, eL]
  gi_wp2
  exact leafE HS HH OW [.t (.bool true)] Env.zero [] [(0, 0)] rfl
 case false => exact absurd (hB9.symm.trans (show _ = true from by rw [← gright_eq, hg]; rfl)) (by decide)
set_option maxRecDepth 100000 in
set_option maxHeartbeats 1000000 in
theorem dplaysM (r s n m c mode : Int) (v : Value) (ops : List Op5) (i : Int) (bs : Objs) (h : SrE eOp v ops bs) (hg : gright r s n m c = true) (hm : rightB mode = false) : Con Try.prog 11 #[.agg #[.int .i64 r, .int .i64 s, .int .i64 n, .int .i64 m, .int .i64 c], .int .i64 mode, v, .int .i64 i] [.c bs] [] (fun _ => []) (fun _ => .bool true) := by
 refine Con.of (enters_of Try.func11 (by kernel_rfl) rfl) fun w cs HS HH OW => ?_
 refine (callsIn_wide (n := 6)).1 ?_
 refine callsIn_of_wp_marks Try.func11 rfl trivial ?_ rfl
 simp only [Try.ntmps11, eF, Nat.reduceAdd, Nat.reduceSub]
 gi_upto_region 0 with fail
 refine rg (fun q1 => [.m (bx 1),
  .v (.bool false)]) (fun q1 L => L ++ [ob ((q1 0).blk 0) #[.int .i64 r, .int .i64 s, .int .i64 n, .int .i64 m, .int .i64 c] 27]) OW ?_
 clear OW; intro q1 _ Wq1 OW; simp only [↓pc, ↓pn, vE, Hint.val, Act.put, eL]
 gi_upto_region 1 with fail
 refine rg (fun q2 => [.c [] [] (danchor),
  .v (.bool false)]) (fun _ L => L) OW ?_
 clear OW; intro q2 _ Wq2 OW; simp only [↓pc, ↓pn, vE, Hint.val, Act.put, eL]
 gi_upto_region 3 with fail
 refine rg (fun q3 => [.v (v),
  .m (lenR 0 (.c bs) (cP h)),
  .v (.bool (decide (40 < (ops.length : Int))))]) (fun _ L => L) OW ?_
 clear OW; intro q3 _ Wq3 OW; simp only [↓pc, ↓pn, vE, Hint.val, Act.put, eL]
 cases hB4 : (decide (40 < (ops.length : Int)))
 case true =>
  have dhB4 := of_decide_eq_true hB4
  gi_upto_region 4 with fail
  refine rg (fun q5 => [.v (.bool true)]) (fun _ L => L) OW ?_
  clear OW; intro q5 _ Wq5 OW; simp only [↓pc, ↓pn, vE, Hint.val, Act.put, eL]
  gi_wp2
  exact leafE HS HH OW [.t (.bool true)] Env.zero [] [(0, 0)] rfl
 have dhB4 := of_decide_eq_false hB4
 gi_upto_region 5 with fail
 refine rg (fun q6 => [.m (ls 1 ([.int .i64 r, .int .i64 s, .int .i64 n, .int .i64 m, .int .i64 c])),
  .v (.int .i64 mode),
  .c [] [] (dNewM r s n m c mode hg hm),
  .v (.tuple #[.pointer none, .int .i64 21]),
  .v (.pointer none),
  .v (.int .i64 21),
  .v (.pointer none),
  .v (.int .i64 21)]) (fun _ L => L) OW ?_
 clear OW; intro q6 _ Wq6 OW; simp only [↓pc, ↓pn, vE, Hint.val, Act.put, eL]
 gi_upto_region 6 with fail
 refine rg (fun q7 => [.m (ls 1 ([.int .i64 r, .int .i64 s, .int .i64 n, .int .i64 m, .int .i64 c])),
  .v (.int .i64 mode),
  .v (.agg #[.int .i64 r, .int .i64 s, .int .i64 n, .int .i64 m, .int .i64 c, .int .i64 mode, .slice none 0 0, .slice none 0 0, .slice none 0 0]),
  .m (al 2),
  .m (ss 2)]) (fun q7 L => L ++ [ob ((q7 3).blk 0) #[.int .i64 r, .int .i64 s, .int .i64 n, .int .i64 m, .int .i64 c, .int .i64 mode, .slice none 0 0, .slice none 0 0, .slice none 0 0] 82]) OW ?_
 clear OW; intro q7 _ Wq7 OW; simp only [↓pc, ↓pn, vE, Hint.val, Act.put, eL]
 gi_upto_region 7 with fail
 refine rg (fun q8 => [.v (.pointer (some ⟨(q7 3).blk 0, 0, none⟩)),
  .m (ls 2 ([.int .i64 r, .int .i64 s, .int .i64 n, .int .i64 m, .int .i64 c])),
  .c [] [] (conB (enters_of Try.func40 (by kernel_rfl) rfl) fun w' => (rright_any r s n m c _)),
  .v (.bool (!(rright r s n m c)))]) (fun _ L => L) OW ?_
 clear OW; intro q8 _ Wq8 OW; simp only [↓pc, ↓pn, vE, Hint.val, Act.put, eL]
 cases hB9 : (!(rright r s n m c))
 case true => exact absurd (hB9.symm.trans (show _ = false from by rw [← gright_eq, hg]; rfl)) (by decide)
 case false =>
  gi_upto_region 9 with fail
  refine rg (fun q10 => [.v (.int .i64 mode),
   .v (.bool (mode != 1)),
   .v (.bool (mode != 1)),
   .v (.int .i64 mode),
   .v (.bool (mode != 2)),
   .k (.bool ((mode != 1) && (mode != 2)))]) (fun _ L => L) OW ?_
  clear OW; intro q10 _ Wq10 OW; simp only [↓pc, ↓pn, vE, Hint.val, Act.put, eL]
  cases hB11 : ((mode != 1) && (mode != 2))
  case true =>
   gi_upto_region 10 with fail
   refine rg (fun q12 => [.v (.int .i64 21),
    .v (.bool true),
    .v (.bool true),
    .v (.pointer none),
    .v (.bool true),
    .k (.bool true),
    .v (.bool true)]) (fun _ L => L) OW ?_
   clear OW; intro q12 _ Wq12 OW; simp only [↓pc, ↓pn, vE, Hint.val, Act.put, eL]
   gi_wp2
   exact leafE HS HH OW [.t (.bool true)] Env.zero [] [(0, 0)] rfl
  case false => exact absurd (hB11.symm.trans (show _ = true from by exact md_no hm)) (by decide)
end Go.Proofs.Ytckhkagkpldoiaa.E
