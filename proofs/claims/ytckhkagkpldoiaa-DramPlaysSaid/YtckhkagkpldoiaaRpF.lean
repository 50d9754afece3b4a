/- A step of both. -/
import Derived.Test.YtckhkagkpldoiaaRpX
import Derived.Test.YtckhkagkpldoiaaDrK
import Derived.WalkKit
import Derived.Sort.CutIn
import Derived.IntWalk
namespace Go.Proofs.Ytckhkagkpldoiaa.E
open Go Go.RowKit Go.Shelf
attribute [local go_sem] Oper.semAt_some
set_option linter.unusedVariables false
set_option linter.unusedSimpArgs false

def OpIn (o : Op5) : Prop := o.raw.length = 72 ∧ FaOk o.fault ∧ o.index ≤ 9223372036854775807
def opsIn (ops : List Op5) : Prop := ∀ o ∈ ops, OpIn o
theorem zOp_in : OpIn zOp := ⟨List.length_replicate, ⟨by decide, by decide⟩, by decide⟩
theorem opIn_at {ops : List Op5} (h : opsIn ops) (k : Nat) : OpIn (ops.getD k zOp) := by
  rw [List.getD_eq_getElem?_getD]
  cases hx : ops[k]? with
  | none => exact zOp_in
  | some o => exact h o (List.mem_of_getElem? hx)
def manyN (o : Op5) : Nat := (max (min o.many 300) 0).toNat
theorem manyN_eq (o : Op5) : max (min o.many 300) 0 = ((manyN o : Nat) : Int) := by unfold manyN; omega
theorem manyN_le (o : Op5) : manyN o ≤ 300 := by unfold manyN; omega
/-- Both, behind a step. -/
def psD (D : Dr) (o : Op5) : Dr := bif o.kind == 1 then injD D o.fault else bif o.kind == 2 then wrD D o.index o.raw else bif o.kind == 3 then rdD D o.index else bif o.kind == 4 then injN D o.fault (manyN o) else D
def psC (r s n m c mode : Int) (x : Rs) (o : Op5) : List Ce := bif o.kind == 1 then rinj_1 r s n m c mode x.cl o.fault else bif o.kind == 2 then bif !rhas r s n m c o.index then x.cl else bif !rwent_1 x.co then putC x.cl (rwent_0 x.co o.index) o.raw else x.cl else bif o.kind == 3 then x.cl else bif o.kind == 4 then (rinN r s n m c mode x o.fault (manyN o)).cl else x.cl
def psL (r s n m c mode : Int) (x : Rs) (o : Op5) : List Fa := bif o.kind == 1 then rinj_2 r s n m c mode x.la o.fault else bif o.kind == 2 then x.la else bif o.kind == 3 then x.la else bif o.kind == 4 then (rinN r s n m c mode x o.fault (manyN o)).la else x.la
def psO (r s n m c mode : Int) (x : Rs) (o : Op5) : List Fa := bif o.kind == 1 then rinj_3 r s n m c mode x.co o.fault else bif o.kind == 2 then bif !rhas r s n m c o.index then x.co else rwent_2 x.co else bif o.kind == 3 then bif !rhas r s n m c o.index then x.co else rwent_2 x.co else bif o.kind == 4 then (rinN r s n m c mode x o.fault (manyN o)).co else x.co
section
variable {D : Dr} {r s n m c mode : Int} {x : Rs}
theorem RpR.injN (h : RpR D r s n m c mode x) {f : Fa} (hf : FaOk f) : ∀ k, RpR (E.injN D f k) r s n m c mode (rinN r s n m c mode x f k)
  | 0 => h
  | k + 1 => ((h.injN hf k).inj hf).1
theorem rinj_len (r s n m c mode : Int) (cl : List Ce) (f : Fa) : (rinj_1 r s n m c mode cl f).length ≤ cl.length + 1 := by
  unfold rinj_1
  cases !(fright11 f.x0 f.x1 f.x2 f.x3 f.x4 f.x5 f.x6 f.x7 r s n m c mode)
  · cases f.x0 == 1
    · exact Nat.le_succ _
    · show (bif decide _ then putC _ _ _ else putC _ _ _).length ≤ _
      cases decide (forceI (getC cl ((((1048576 * f.x1) + (65536 * f.x2)) + (64 * f.x3)) + f.x4)) f.x6 1 = getC cl ((((1048576 * f.x1) + (65536 * f.x2)) + (64 * f.x3)) + f.x4))
      · exact putC_len _ _ _
      · exact putC_len _ _ _
  · exact Nat.le_succ _
theorem rinN_len (r s n m c mode : Int) (x : Rs) (f : Fa) : ∀ k, (rinN r s n m c mode x f k).cl.length ≤ x.cl.length + k
  | 0 => Nat.le_refl _
  | k + 1 => by
    have h1 := rinN_len r s n m c mode x f k
    have h2 := rinj_len r s n m c mode (rinN r s n m c mode x f k).cl f
    show (rinj_1 r s n m c mode (rinN r s n m c mode x f k).cl f).length ≤ _
    omega
theorem RpR.l1 (h : RpR D r s n m c mode x) : x.la.length ≤ 256 := h.la ▸ h.ok.l1
theorem RpR.l2 (h : RpR D r s n m c mode x) : x.co.length ≤ 256 := h.co ▸ h.ok.l2
theorem RpR.f1 (h : RpR D r s n m c mode x) : ∀ f ∈ x.la, FaOk f := h.la ▸ h.ok.f1
theorem RpR.pl (h : RpR D r s n m c mode x) : ∀ f ∈ x.co, PlB f := fun f hf => fr_bd (r := r) (s := s) (n := n) (m := m) (l := c) (mode := mode) (by rw [← fright_eq, h.fr f hf]; rfl)
/-- Where an access goes there is an index. -/
theorem RpR.nn (h : RpR D r s n m c mode x) {i : Int} (hh : (!rhas r s n m c i) = false) (hi : i ≤ 9223372036854775807) : 0 ≤ rwent_0 x.co i ∧ rwent_0 x.co i ≤ 9223372036854775807 := by
  have h0 : 0 ≤ i := by
    unfold rhas at hh
    rw [Bool.not_eq_false', Bool.and_eq_true] at hh
    exact of_decide_eq_true hh.1
  unfold rwent_0
  cases h1 : (x.co.length : Int) == 0
  · have hm : x.co.getD 0 zFa ∈ x.co := mem_getD (by have := ne_of_beq_false h1; omega)
    obtain ⟨⟨a1, a2⟩, ⟨a3, a4⟩, ⟨a5, a6⟩, a7, a8⟩ := h.pl _ hm
    cases (x.co.getD 0 zFa).x0 == 7
    · simp only [cond_false]; omega
    · exact ⟨h0, hi⟩
  · exact ⟨h0, hi⟩
end
attribute [local irreducible] fapply ovF gat_0 gat_1 gat_2 gat_3 gat_4 gindex_0 gindex_1 dadd_0 dadd_1 fright flipI flasts flies fnarrow fcovers dInject_0 injD wrD rdD dWrite_0 dWrite_1 dWrite_2 dRead_0 dRead_1 dRead_2 dRead_3 D0 getC putC rinj_0 rinj_1 rinj_2 rinj_3 rwent_0 rwent_1 rwent_2 rhas ov11 manyN injN rinN fright11 fapply11
set_option maxRecDepth 100000 in
set_option maxHeartbeats 1000000 in
theorem dof (x0 x1 x2 x3 x4 x5 x6 x7 : Int) : Con Try.prog 45 #[.agg #[.int .i64 x0, .int .i64 x1, .int .i64 x2, .int .i64 x3, .int .i64 x4, .int .i64 x5, .int .i64 x6, .int .i64 x7]] [] [] (fun _ => []) (fun _ => .agg #[.int .i64 x0, .int .i64 x1, .int .i64 x2, .int .i64 x3, .int .i64 x4, .int .i64 x5, .int .i64 x6, .int .i64 x7]) := by
 refine Con.of (enters_of Try.func45 (by kernel_rfl) rfl) fun w cs HS HH OW => ?_
 refine (callsIn_wide (n := 6)).1 ?_
 refine callsIn_of_wp_marks Try.func45 rfl trivial ?_ rfl
 simp only [Try.ntmps45, eF, Nat.reduceAdd, Nat.reduceSub]
 gi_upto_region 0 with fail
 refine rg (fun q1 => [.m (bx 0),
  .m (al 1)]) (fun q1 L => L ++ [ob ((q1 0).blk 0) #[.int .i64 x0, .int .i64 x1, .int .i64 x2, .int .i64 x3, .int .i64 x4, .int .i64 x5, .int .i64 x6, .int .i64 x7] 25, ob ((q1 1).blk 0) #[.int .i64 0, .int .i64 0, .int .i64 0, .int .i64 0, .int .i64 0, .int .i64 0, .int .i64 0, .int .i64 0] 31]) OW ?_
 clear OW; intro q1 _ Wq1 OW; simp only [↓pc, ↓pn, vE, Hint.val, Act.put, eL]
 gi_upto_region 1 with fail
 refine rg (fun q2 => [.v (.pointer (some ⟨(q1 0).blk 0, 0, none⟩)),
  .m (ld 0 (.int .i64 x0)),
  .v (.pointer (some ⟨(q1 0).blk 0, 1, none⟩)),
  .m (ls 0 ([.int .i64 x1, .int .i64 x2, .int .i64 x3, .int .i64 x4])),
  .v (.pointer (some ⟨(q1 0).blk 0, 5, none⟩)),
  .m (ld 0 (.int .i64 x5)),
  .v (.pointer (some ⟨(q1 0).blk 0, 6, none⟩)),
  .m (ld 0 (.int .i64 x6)),
  .v (.pointer (some ⟨(q1 0).blk 0, 7, none⟩)),
  .m (ld 0 (.int .i64 x7)),
  .v (.agg #[.int .i64 x0, .int .i64 x1, .int .i64 x2, .int .i64 x3, .int .i64 x4, .int .i64 x5, .int .i64 x6, .int .i64 x7]),
  .m (ss 1)]) (fun q2 L => L.set 1 (ob ((q1 1).blk 0) #[.int .i64 x0, .int .i64 x1, .int .i64 x2, .int .i64 x3, .int .i64 x4, .int .i64 x5, .int .i64 x6, .int .i64 x7] 31)) OW ?_
 clear OW; intro q2 _ Wq2 OW; simp only [↓pc, ↓pn, vE, Hint.val, Act.put, eL]
 gi_wp2
 exact leafE HS HH OW [.s ([.int .i64 x0, .int .i64 x1, .int .i64 x2, .int .i64 x3, .int .i64 x4, .int .i64 x5, .int .i64 x6, .int .i64 x7]) 1] Env.zero [] [] rfl
def dstep_0 (D : Dr) (r : Int) (s : Int) (n : Int) (m : Int) (c : Int) (mode : Int) (x : Rs) (o : Op5) : Bool := (bif o.kind == 1 then (dInject_0 D o.fault) == (rinj_0 r s n m c mode x.la x.co o.fault) else (bif o.kind == 2 then (bif !(rhas r s n m c o.index) then ((dWrite_2 D o.index) == 12) && (((dWrite_0 D o.index) == 0) && (!(dWrite_1 D o.index))) else ((dWrite_2 D o.index) == 0) && (((dWrite_0 D o.index) == (rwent_0 x.co o.index)) && ((dWrite_1 D o.index) == (rwent_1 x.co)))) else (bif o.kind == 3 then (bif !(rhas r s n m c o.index) then (((dRead_3 D o.index) == 12) && (((dRead_1 D o.index) == 0) && (!(dRead_2 D o.index)))) && (decide ((dRead_0 D o.index) = List.replicate 72 0)) else (bif !(rwent_1 x.co) then (((dRead_3 D o.index) == 0) && (((dRead_1 D o.index) == (rwent_0 x.co o.index)) && ((dRead_2 D o.index) == (rwent_1 x.co)))) && (decide ((dRead_0 D o.index) = ov11 x.la mode ((rwent_0 x.co o.index) / 1048576) ((rwent_0 x.co o.index) / 65536 % 16) ((rwent_0 x.co o.index) / 64 % 1024) ((rwent_0 x.co o.index) % 64) (getC x.cl (rwent_0 x.co o.index)) x.la.length)) else (((dRead_3 D o.index) == 0) && (((dRead_1 D o.index) == (rwent_0 x.co o.index)) && ((dRead_2 D o.index) == (rwent_1 x.co)))) && (decide ((dRead_0 D o.index) = List.replicate 72 0)))) else true)))
set_option maxRecDepth 100000 in
set_option maxHeartbeats 1000000 in
theorem dstep (g : Nat) (D : Dr) (r s n m c mode : Int) (v6 v7 v8 : Value) (x : Rs) (o : Op5) (HR : RpR D r s n m c mode x) (hc : x.cl.length ≤ 90000) (ho : OpIn o) : Con Try.prog 41 #[.pointer (some ⟨g, 0, none⟩), .agg #[.int .i64 r, .int .i64 s, .int .i64 n, .int .i64 m, .int .i64 c, .int .i64 mode, v6, v7, v8], .agg (([.int .i64 o.kind, .int .i64 o.index, .int .i64 o.many, .int .i64 o.fault.x0, .int .i64 o.fault.x1, .int .i64 o.fault.x2, .int .i64 o.fault.x3, .int .i64 o.fault.x4, .int .i64 o.fault.x5, .int .i64 o.fault.x6, .int .i64 o.fault.x7] : List Value) ++ rB 72 o.raw).toArray] [.p (PkE (DramS g D)), .p (SqE eCe v6 x.cl), .p (SqE eFa v7 x.la), .p (SqE eFa v8 x.co)] [0, 1, 2, 3] (fun E => [.p (PkE (DramS g (psD D o))), .p (SqE eCe (E.val 0) (psC r s n m c mode x o)), .p (SqE eFa (E.val 1) (psL r s n m c mode x o)), .p (SqE eFa (E.val 2) (psO r s n m c mode x o))]) (fun E => .tuple #[.agg #[.int .i64 r, .int .i64 s, .int .i64 n, .int .i64 m, .int .i64 c, .int .i64 mode, (E.val 0), (E.val 1), (E.val 2)], .bool (dstep_0 D r s n m c mode x o)]) := by
 refine Con.of (enters_of Try.func41 (by kernel_rfl) rfl) fun w cs HS HH OW => ?_
 obtain ⟨HOR, hof, hoi⟩ := ho
 have HRL := dRead_len HR.ok
 have HGL := fun i => getC_len HR.cl i
 have HOL := fun i k => ov11_len x.la mode (i / 1048576) (i / 65536 % 16) (i / 64 % 1024) (i % 64) (HGL i) k
 have h7 := HR.l1
 have h8 := HR.l2
 have hNL := manyN_le o
 obtain ⟨N, hN⟩ : ∃ N, manyN o = N := ⟨_, rfl⟩
 rw [hN] at hNL
 have HN := Lib.hid hN
 clear hN
 refine (callsIn_wide (n := 6)).1 ?_
 refine callsIn_of_wp_marks Try.func41 rfl trivial ?_ rfl
 simp only [Try.ntmps41, eF, Nat.reduceAdd, Nat.reduceSub]
 gi_upto_region 0 with fail
 refine rg (fun q1 => [.m (bx 4),
  .m (bx 5),
  .m (al 6),
  .v (.bool false)]) (fun q1 L => L ++ [ob ((q1 0).blk 0) #[.int .i64 r, .int .i64 s, .int .i64 n, .int .i64 m, .int .i64 c, .int .i64 mode, v6, v7, v8] 82, ob ((q1 1).blk 0) (([.int .i64 o.kind, .int .i64 o.index, .int .i64 o.many, .int .i64 o.fault.x0, .int .i64 o.fault.x1, .int .i64 o.fault.x2, .int .i64 o.fault.x3, .int .i64 o.fault.x4, .int .i64 o.fault.x5, .int .i64 o.fault.x6, .int .i64 o.fault.x7] : List Value) ++ rB 72 o.raw).toArray 64, ob ((q1 2).blk 0) #[.int .i64 0, .int .i64 0, .int .i64 0, .int .i64 0, .int .i64 0, .int .i64 0, .slice none 0 0, .slice none 0 0, .slice none 0 0] 82]) OW ?_
 clear OW; intro q1 _ Wq1 OW; simp only [↓pc, ↓pn, vE, Hint.val, Act.put, eL]
 gi_upto_region 1 with fail
 refine rg (fun q2 => [.v (.pointer (some ⟨(q1 1).blk 0, 0, none⟩)),
  .m (ld 5 (.int .i64 o.kind))]) (fun _ L => L) OW ?_
 clear OW; intro q2 _ Wq2 OW; simp only [↓pc, ↓pn, vE, Hint.val, Act.put, eL]
 gi_upto_region 2 with fail
 refine rg (fun q3 => [.v (.bool (o.kind == 1)),
  .v (.bool (o.kind == 1))]) (fun _ L => L) OW ?_
 clear OW; intro q3 _ Wq3 OW; simp only [↓pc, ↓pn, vE, Hint.val, Act.put, eL]
 cases hB4 : (o.kind == 1)
 case true =>
  have dhB4 := Lib.hid (eq_of_beq hB4)
  gi_upto_region 3 with fail
  refine rg (fun q5 => [.v (.pointer (some ⟨g, 0, none⟩)),
   .v (.pointer (some ⟨(q1 1).blk 0, 3, none⟩)),
   .m (ls 5 ([.int .i64 o.fault.x0, .int .i64 o.fault.x1, .int .i64 o.fault.x2, .int .i64 o.fault.x3, .int .i64 o.fault.x4, .int .i64 o.fault.x5, .int .i64 o.fault.x6, .int .i64 o.fault.x7])),
   .c [0] [0] (dInject g D o.fault (by first | exact HR.ok | exact HRK.ok) hof),
   .v (.int .i64 (dInject_0 D o.fault))]) (fun q5 L => L.set 0 (.p (PkE (DramS g (injD D o.fault))))) OW ?_
  clear OW; intro q5 _ Wq5 OW; simp only [↓pc, ↓pn, vE, Hint.val, Act.put, eL]
  gi_upto_region 4 with fail
  refine rg (fun q6 => [.m (ls 4 ([.int .i64 r, .int .i64 s, .int .i64 n, .int .i64 m, .int .i64 c, .int .i64 mode, v6, v7, v8])),
   .v (.pointer (some ⟨(q1 1).blk 0, 3, none⟩)),
   .m (ls 5 ([.int .i64 o.fault.x0, .int .i64 o.fault.x1, .int .i64 o.fault.x2, .int .i64 o.fault.x3, .int .i64 o.fault.x4, .int .i64 o.fault.x5, .int .i64 o.fault.x6, .int .i64 o.fault.x7])),
   .c [] [] (dof o.fault.x0 o.fault.x1 o.fault.x2 o.fault.x3 o.fault.x4 o.fault.x5 o.fault.x6 o.fault.x7),
   .c [1, 2, 3] [1, 2, 3] (rinj r s n m c mode v6 v7 v8 x.cl x.la x.co o.fault (by first | omega) (by first | exact h7 | exact HRK.l1) (by first | exact h8 | exact HRK.l2) (by first | exact HR.cl | exact HRK.cl) hof),
   .v (.tuple #[.agg #[.int .i64 r, .int .i64 s, .int .i64 n, .int .i64 m, .int .i64 c, .int .i64 mode, ((q6 4).val 0), ((q6 4).val 1), ((q6 4).val 2)], .int .i64 (rinj_0 r s n m c mode x.la x.co o.fault)]),
   .v (.agg #[.int .i64 r, .int .i64 s, .int .i64 n, .int .i64 m, .int .i64 c, .int .i64 mode, ((q6 4).val 0), ((q6 4).val 1), ((q6 4).val 2)]),
   .v (.int .i64 (rinj_0 r s n m c mode x.la x.co o.fault)),
   .m (al 7),
   .m (sv 7 ((q6 8).blk 0) 0 82 ([.int .i64 r, .int .i64 s, .int .i64 n, .int .i64 m, .int .i64 c, .int .i64 mode, ((q6 4).val 0), ((q6 4).val 1), ((q6 4).val 2)]) #[.int .i64 0, .int .i64 0, .int .i64 0, .int .i64 0, .int .i64 0, .int .i64 0, .slice none 0 0, .slice none 0 0, .slice none 0 0] #[.int .i64 r, .int .i64 s, .int .i64 n, .int .i64 m, .int .i64 c, .int .i64 mode, ((q6 4).val 0), ((q6 4).val 1), ((q6 4).val 2)] [(1, .p (SqE eCe ((q6 4).val 0) (rinj_1 r s n m c mode x.cl o.fault))), (2, .p (SqE eFa ((q6 4).val 1) (rinj_2 r s n m c mode x.la o.fault))), (3, .p (SqE eFa ((q6 4).val 2) (rinj_3 r s n m c mode x.co o.fault)))] (by kernel_rfl) (Nat.le_of_ble_eq_true rfl) (fun c5 hc5 => (oc rfl (oc rfl (oc rfl (oc rfl (oc rfl (oc rfl (oc (SqE.one (hc5 _ (.head _))) (oc (SqE.one (hc5 _ (.tail _ (.head _)))) (oc (SqE.one (hc5 _ (.tail _ (.tail _ (.head _))))) on0))))))))))),
   .v (.int .i64 (rinj_0 r s n m c mode x.la x.co o.fault))]) (fun q6 L => ((L.set 1 (.p (SqE eCe ((q6 4).val 0) (rinj_1 r s n m c mode x.cl o.fault)))).set 2 (.p (SqE eFa ((q6 4).val 1) (rinj_2 r s n m c mode x.la o.fault)))).set 3 (.p (SqE eFa ((q6 4).val 2) (rinj_3 r s n m c mode x.co o.fault))) ++ [ob ((q6 8).blk 0) #[.int .i64 r, .int .i64 s, .int .i64 n, .int .i64 m, .int .i64 c, .int .i64 mode, ((q6 4).val 0), ((q6 4).val 1), ((q6 4).val 2)] 82]) OW ?_
  clear OW; intro q6 _ Wq6 OW; simp only [↓pc, ↓pn, vE, Hint.val, Act.put, eL]
  gi_upto_region 5 with fail
  refine rg (fun q7 => [.m (ls 7 ([.int .i64 r, .int .i64 s, .int .i64 n, .int .i64 m, .int .i64 c, .int .i64 mode, ((q6 4).val 0), ((q6 4).val 1), ((q6 4).val 2)])),
   .v (.int .i64 (dInject_0 D o.fault)),
   .v (.int .i64 (rinj_0 r s n m c mode x.la x.co o.fault)),
   .v (.bool ((dInject_0 D o.fault) == (rinj_0 r s n m c mode x.la x.co o.fault))),
   .m (sv 6 ((q1 2).blk 0) 0 82 ([.int .i64 r, .int .i64 s, .int .i64 n, .int .i64 m, .int .i64 c, .int .i64 mode, ((q6 4).val 0), ((q6 4).val 1), ((q6 4).val 2)]) #[.int .i64 0, .int .i64 0, .int .i64 0, .int .i64 0, .int .i64 0, .int .i64 0, .slice none 0 0, .slice none 0 0, .slice none 0 0] #[.int .i64 r, .int .i64 s, .int .i64 n, .int .i64 m, .int .i64 c, .int .i64 mode, ((q6 4).val 0), ((q6 4).val 1), ((q6 4).val 2)] [(1, .p (SqE eCe ((q6 4).val 0) (rinj_1 r s n m c mode x.cl o.fault))), (2, .p (SqE eFa ((q6 4).val 1) (rinj_2 r s n m c mode x.la o.fault))), (3, .p (SqE eFa ((q6 4).val 2) (rinj_3 r s n m c mode x.co o.fault)))] (by kernel_rfl) (Nat.le_of_ble_eq_true rfl) (fun c5 hc5 => (oc rfl (oc rfl (oc rfl (oc rfl (oc rfl (oc rfl (oc (SqE.one (hc5 _ (.head _))) (oc (SqE.one (hc5 _ (.tail _ (.head _)))) (oc (SqE.one (hc5 _ (.tail _ (.tail _ (.head _))))) on0))))))))))),
   .v (.bool ((dInject_0 D o.fault) == (rinj_0 r s n m c mode x.la x.co o.fault)))]) (fun q7 L => L.set 6 (ob ((q1 2).blk 0) #[.int .i64 r, .int .i64 s, .int .i64 n, .int .i64 m, .int .i64 c, .int .i64 mode, ((q6 4).val 0), ((q6 4).val 1), ((q6 4).val 2)] 82)) OW ?_
  clear OW; intro q7 _ Wq7 OW; simp only [↓pc, ↓pn, vE, Hint.val, Act.put, eL]
  gi_wp2
  exact leafE HS HH OW [.s ([.int .i64 r, .int .i64 s, .int .i64 n, .int .i64 m, .int .i64 c, .int .i64 mode, ((q6 4).val 0), ((q6 4).val 1), ((q6 4).val 2)]) 6, .t (.bool ((dInject_0 D o.fault) == (rinj_0 r s n m c mode x.la x.co o.fault)))] (.l [] [] [((q6 4).val 0), ((q6 4).val 1), ((q6 4).val 2), (q6 4).val 0, (q6 4).val 1, (q6 4).val 2]) [0, 1, 2, 3] [] (by (try simp only [dstep_0]); (repeat (first | rw [hB4] | rw [cond_true] | rw [cond_false])); first | rfl | kernel_rfl) (by kernel_rfl) (by simp only [psD, psC, psL, psO]; (try rw [HN.out]); (try simp only [dstep_0]); (repeat (first | rw [hB4] | rw [cond_true] | rw [cond_false])); kernel_rfl)
 have dhB4 := ne_of_beq_false hB4
 gi_upto_region 6 with fail
 refine rg (fun q8 => [.v (.bool (o.kind == 2)),
  .v (.bool (o.kind == 2))]) (fun _ L => L) OW ?_
 clear OW; intro q8 _ Wq8 OW; simp only [↓pc, ↓pn, vE, Hint.val, Act.put, eL]
 cases hB9 : (o.kind == 2)
 case true =>
  have dhB9 := Lib.hid (eq_of_beq hB9)
  gi_upto_region 7 with fail
  refine rg (fun q10 => [.v (.pointer (some ⟨g, 0, none⟩)),
   .v (.pointer (some ⟨(q1 1).blk 0, 1, none⟩)),
   .m (ld 5 (.int .i64 o.index)),
   .v (.pointer (some ⟨(q1 1).blk 0, 11, none⟩)),
   .m (ls 5 (rB 72 o.raw)),
   .c [0] [0] (dWrite g D o.index o.raw (by first | rfl | (simp only [List.length_set, List.length_append, List.length_replicate, List.length_cons, List.length_nil, List.length_map, List.length_range, List.length_take, List.length_drop, HOR, HRL, HGL, HOL]; done) | (simp only [List.length_set, List.length_append, List.length_replicate, List.length_cons, List.length_nil, List.length_map, List.length_range, List.length_take, List.length_drop, HOR, HRL, HGL, HOL]; omega)) HR.ok),
   .v (.tuple #[.agg #[.int .i64 (dWrite_0 D o.index), .bool (dWrite_1 D o.index)], .int .i64 (dWrite_2 D o.index)]),
   .v (.agg #[.int .i64 (dWrite_0 D o.index), .bool (dWrite_1 D o.index)]),
   .v (.int .i64 (dWrite_2 D o.index)),
   .m (al 7),
   .m (ss 7),
   .v (.int .i64 (dWrite_2 D o.index))]) (fun q10 L => L.set 0 (.p (PkE (DramS g (wrD D o.index o.raw)))) ++ [ob ((q10 9).blk 0) #[.int .i64 (dWrite_0 D o.index), .bool (dWrite_1 D o.index)] 60]) OW ?_
  clear OW; intro q10 _ Wq10 OW; simp only [↓pc, ↓pn, vE, Hint.val, Act.put, eL]
  gi_upto_region 8 with fail
  refine rg (fun q11 => [.m (ls 4 ([.int .i64 r, .int .i64 s, .int .i64 n, .int .i64 m, .int .i64 c, .int .i64 mode, v6, v7, v8])),
   .v (.pointer (some ⟨(q1 1).blk 0, 1, none⟩)),
   .m (ld 5 (.int .i64 o.index)),
   .c [] [] (rHas r s n m c mode v6 v7 v8 o.index (by omega)),
   .v (.bool (!(rhas r s n m c o.index)))]) (fun _ L => L) OW ?_
  clear OW; intro q11 _ Wq11 OW; simp only [↓pc, ↓pn, vE, Hint.val, Act.put, eL]
  cases hB12 : (!(rhas r s n m c o.index))
  case true =>
   gi_upto_region 9 with fail
   refine rg (fun q13 => [.m (ls 4 ([.int .i64 r, .int .i64 s, .int .i64 n, .int .i64 m, .int .i64 c, .int .i64 mode, v6, v7, v8])),
    .v (.int .i64 (dWrite_2 D o.index)),
    .v (.bool ((dWrite_2 D o.index) == 12)),
    .v (.bool ((dWrite_2 D o.index) == 12)),
    .m (ls 7 ([.int .i64 (dWrite_0 D o.index), .bool (dWrite_1 D o.index)])),
    .v (.agg #[.int .i64 0, .bool false]),
    .t (tbT 60 fun _ _ _ => bin_eqT (xs := [.int .i64 (dWrite_0 D o.index), .bool (dWrite_1 D o.index)]) (ys := [.int .i64 0, .bool false]) (by kernel_rfl) (show _ = ((((dWrite_0 D o.index) == 0) && (!(dWrite_1 D o.index))) : Bool) from Eq.trans (b := ((dWrite_0 D o.index) == 0 && ((dWrite_1 D o.index) == false && true))) (by rfl) (by simp only [Bool.and_true, beq_true, beq_false]))),
    .k (.bool (((dWrite_2 D o.index) == 12) && (((dWrite_0 D o.index) == 0) && (!(dWrite_1 D o.index))))),
    .m (sv 6 ((q1 2).blk 0) 0 82 ([.int .i64 r, .int .i64 s, .int .i64 n, .int .i64 m, .int .i64 c, .int .i64 mode, v6, v7, v8]) #[.int .i64 0, .int .i64 0, .int .i64 0, .int .i64 0, .int .i64 0, .int .i64 0, .slice none 0 0, .slice none 0 0, .slice none 0 0] #[.int .i64 r, .int .i64 s, .int .i64 n, .int .i64 m, .int .i64 c, .int .i64 mode, v6, v7, v8] [(1, .p (SqE eCe v6 x.cl)), (2, .p (SqE eFa v7 x.la)), (3, .p (SqE eFa v8 x.co))] (by kernel_rfl) (Nat.le_of_ble_eq_true rfl) (fun c5 hc5 => (oc rfl (oc rfl (oc rfl (oc rfl (oc rfl (oc rfl (oc (SqE.one (hc5 _ (.head _))) (oc (SqE.one (hc5 _ (.tail _ (.head _)))) (oc (SqE.one (hc5 _ (.tail _ (.tail _ (.head _))))) on0))))))))))),
    .v (.bool (((dWrite_2 D o.index) == 12) && (((dWrite_0 D o.index) == 0) && (!(dWrite_1 D o.index)))))]) (fun q13 L => L.set 6 (ob ((q1 2).blk 0) #[.int .i64 r, .int .i64 s, .int .i64 n, .int .i64 m, .int .i64 c, .int .i64 mode, v6, v7, v8] 82)) OW ?_
   clear OW; intro q13 _ Wq13 OW; simp only [↓pc, ↓pn, vE, Hint.val, Act.put, eL]
   gi_wp2
   exact leafE HS HH OW [.s ([.int .i64 r, .int .i64 s, .int .i64 n, .int .i64 m, .int .i64 c, .int .i64 mode, v6, v7, v8]) 6, .t (.bool (((dWrite_2 D o.index) == 12) && (((dWrite_0 D o.index) == 0) && (!(dWrite_1 D o.index)))))] (.l [] [] [v6, v7, v8]) [0, 1, 2, 3] [] (by (try simp only [dstep_0]); (repeat (first | rw [hB4] | rw [hB9] | rw [hB12] | rw [cond_true] | rw [cond_false])); first | rfl | kernel_rfl) (by kernel_rfl) (by simp only [psD, psC, psL, psO]; (try rw [HN.out]); (try simp only [dstep_0]); (repeat (first | rw [hB4] | rw [hB9] | rw [hB12] | rw [cond_true] | rw [cond_false])); kernel_rfl)
  gi_upto_region 10 with fail
  obtain ⟨pn1, pn2⟩ := HR.nn hB12 hoi
  refine rg (fun q14 => [.m (ls 4 ([.int .i64 r, .int .i64 s, .int .i64 n, .int .i64 m, .int .i64 c, .int .i64 mode, v6, v7, v8])),
   .v (.pointer (some ⟨(q1 1).blk 0, 1, none⟩)),
   .m (ld 5 (.int .i64 o.index)),
   .c [1, 2, 3] [3] (rwent r s n m c mode v6 v7 v8 x.cl x.la x.co o.index HR.pl),
   .v (.tuple #[.agg #[.int .i64 r, .int .i64 s, .int .i64 n, .int .i64 m, .int .i64 c, .int .i64 mode, v6, v7, ((q14 3).val 0)], .int .i64 (rwent_0 x.co o.index), .bool (rwent_1 x.co)]),
   .v (.agg #[.int .i64 r, .int .i64 s, .int .i64 n, .int .i64 m, .int .i64 c, .int .i64 mode, v6, v7, ((q14 3).val 0)]),
   .v (.int .i64 (rwent_0 x.co o.index)),
   .v (.bool (rwent_1 x.co)),
   .m (al 8),
   .m (sv 8 ((q14 8).blk 0) 0 82 ([.int .i64 r, .int .i64 s, .int .i64 n, .int .i64 m, .int .i64 c, .int .i64 mode, v6, v7, ((q14 3).val 0)]) #[.int .i64 0, .int .i64 0, .int .i64 0, .int .i64 0, .int .i64 0, .int .i64 0, .slice none 0 0, .slice none 0 0, .slice none 0 0] #[.int .i64 r, .int .i64 s, .int .i64 n, .int .i64 m, .int .i64 c, .int .i64 mode, v6, v7, ((q14 3).val 0)] [(1, .p (SqE eCe v6 x.cl)), (2, .p (SqE eFa v7 x.la)), (3, .p (SqE eFa ((q14 3).val 0) (rwent_2 x.co)))] (by kernel_rfl) (Nat.le_of_ble_eq_true rfl) (fun c5 hc5 => (oc rfl (oc rfl (oc rfl (oc rfl (oc rfl (oc rfl (oc (SqE.one (hc5 _ (.head _))) (oc (SqE.one (hc5 _ (.tail _ (.head _)))) (oc (SqE.one (hc5 _ (.tail _ (.tail _ (.head _))))) on0))))))))))),
   .v (.int .i64 (rwent_0 x.co o.index)),
   .v (.bool (rwent_1 x.co))]) (fun q14 L => L.set 3 (.p (SqE eFa ((q14 3).val 0) (rwent_2 x.co))) ++ [ob ((q14 8).blk 0) #[.int .i64 r, .int .i64 s, .int .i64 n, .int .i64 m, .int .i64 c, .int .i64 mode, v6, v7, ((q14 3).val 0)] 82]) OW ?_
  clear OW; intro q14 _ Wq14 OW; simp only [↓pc, ↓pn, vE, Hint.val, Act.put, eL]
  gi_upto_region 11 with fail
  refine rg (fun q15 => [.v (.bool (rwent_1 x.co)),
   .v (.bool (!(rwent_1 x.co)))]) (fun _ L => L) OW ?_
  clear OW; intro q15 _ Wq15 OW; simp only [↓pc, ↓pn, vE, Hint.val, Act.put, eL]
  cases hB16 : (!(rwent_1 x.co))
  case true =>
   gi_upto_region 12 with fail
   refine rg (fun q17 => [.m (ls 8 ([.int .i64 r, .int .i64 s, .int .i64 n, .int .i64 m, .int .i64 c, .int .i64 mode, v6, v7, ((q14 3).val 0)])),
    .v (.int .i64 (rwent_0 x.co o.index)),
    .v (.pointer (some ⟨(q1 1).blk 0, 11, none⟩)),
    .m (ls 5 (rB 72 o.raw)),
    .c [1, 2, 3] [1] (rput r s n m c mode v6 v7 ((q14 3).val 0) x.cl x.la (rwent_2 x.co) (rwent_0 x.co o.index) o.raw (by first | rfl | (simp only [List.length_set, List.length_append, List.length_replicate, List.length_cons, List.length_nil, List.length_map, List.length_range, List.length_take, List.length_drop, HOR, HRL, HGL, HOL]; done) | (simp only [List.length_set, List.length_append, List.length_replicate, List.length_cons, List.length_nil, List.length_map, List.length_range, List.length_take, List.length_drop, HOR, HRL, HGL, HOL]; omega)) (by omega)),
    .m (sv 8 ((q14 8).blk 0) 0 82 ([.int .i64 r, .int .i64 s, .int .i64 n, .int .i64 m, .int .i64 c, .int .i64 mode, ((q17 4).val 0), v7, ((q14 3).val 0)]) #[.int .i64 r, .int .i64 s, .int .i64 n, .int .i64 m, .int .i64 c, .int .i64 mode, v6, v7, ((q14 3).val 0)] #[.int .i64 r, .int .i64 s, .int .i64 n, .int .i64 m, .int .i64 c, .int .i64 mode, ((q17 4).val 0), v7, ((q14 3).val 0)] [(1, .p (SqE eCe ((q17 4).val 0) (putC x.cl (rwent_0 x.co o.index) o.raw))), (2, .p (SqE eFa v7 x.la)), (3, .p (SqE eFa ((q14 3).val 0) (rwent_2 x.co)))] (by kernel_rfl) (Nat.le_of_ble_eq_true rfl) (fun c5 hc5 => (oc rfl (oc rfl (oc rfl (oc rfl (oc rfl (oc rfl (oc (SqE.one (hc5 _ (.head _))) (oc (SqE.one (hc5 _ (.tail _ (.head _)))) (oc (SqE.one (hc5 _ (.tail _ (.tail _ (.head _))))) on0)))))))))))]) (fun q17 L => (L.set 1 (.p (SqE eCe ((q17 4).val 0) (putC x.cl (rwent_0 x.co o.index) o.raw)))).set 8 (ob ((q14 8).blk 0) #[.int .i64 r, .int .i64 s, .int .i64 n, .int .i64 m, .int .i64 c, .int .i64 mode, ((q17 4).val 0), v7, ((q14 3).val 0)] 82)) OW ?_
   clear OW; intro q17 _ Wq17 OW; simp only [↓pc, ↓pn, vE, Hint.val, Act.put, eL]
   gi_upto_region 13 with fail
   refine rg (fun q18 => [.m (ls 8 ([.int .i64 r, .int .i64 s, .int .i64 n, .int .i64 m, .int .i64 c, .int .i64 mode, ((q17 4).val 0), v7, ((q14 3).val 0)])),
    .v (.int .i64 (dWrite_2 D o.index)),
    .v (.bool ((dWrite_2 D o.index) == 0)),
    .v (.bool ((dWrite_2 D o.index) == 0)),
    .m (ls 7 ([.int .i64 (dWrite_0 D o.index), .bool (dWrite_1 D o.index)])),
    .v (.int .i64 (rwent_0 x.co o.index)),
    .v (.bool (rwent_1 x.co)),
    .v (.agg #[.int .i64 (rwent_0 x.co o.index), .bool (rwent_1 x.co)]),
    .t (tbT 60 fun _ _ _ => bin_eqT (xs := [.int .i64 (dWrite_0 D o.index), .bool (dWrite_1 D o.index)]) (ys := [.int .i64 (rwent_0 x.co o.index), .bool (rwent_1 x.co)]) (by kernel_rfl) (show _ = ((((dWrite_0 D o.index) == (rwent_0 x.co o.index)) && ((dWrite_1 D o.index) == (rwent_1 x.co))) : Bool) from Eq.trans (b := ((dWrite_0 D o.index) == (rwent_0 x.co o.index) && ((dWrite_1 D o.index) == (rwent_1 x.co) && true))) (by rfl) (by simp only [Bool.and_true, beq_true, beq_false]))),
    .k (.bool (((dWrite_2 D o.index) == 0) && (((dWrite_0 D o.index) == (rwent_0 x.co o.index)) && ((dWrite_1 D o.index) == (rwent_1 x.co))))),
    .m (sv 6 ((q1 2).blk 0) 0 82 ([.int .i64 r, .int .i64 s, .int .i64 n, .int .i64 m, .int .i64 c, .int .i64 mode, ((q17 4).val 0), v7, ((q14 3).val 0)]) #[.int .i64 0, .int .i64 0, .int .i64 0, .int .i64 0, .int .i64 0, .int .i64 0, .slice none 0 0, .slice none 0 0, .slice none 0 0] #[.int .i64 r, .int .i64 s, .int .i64 n, .int .i64 m, .int .i64 c, .int .i64 mode, ((q17 4).val 0), v7, ((q14 3).val 0)] [(1, .p (SqE eCe ((q17 4).val 0) (putC x.cl (rwent_0 x.co o.index) o.raw))), (2, .p (SqE eFa v7 x.la)), (3, .p (SqE eFa ((q14 3).val 0) (rwent_2 x.co)))] (by kernel_rfl) (Nat.le_of_ble_eq_true rfl) (fun c5 hc5 => (oc rfl (oc rfl (oc rfl (oc rfl (oc rfl (oc rfl (oc (SqE.one (hc5 _ (.head _))) (oc (SqE.one (hc5 _ (.tail _ (.head _)))) (oc (SqE.one (hc5 _ (.tail _ (.tail _ (.head _))))) on0))))))))))),
    .v (.bool (((dWrite_2 D o.index) == 0) && (((dWrite_0 D o.index) == (rwent_0 x.co o.index)) && ((dWrite_1 D o.index) == (rwent_1 x.co)))))]) (fun q18 L => L.set 6 (ob ((q1 2).blk 0) #[.int .i64 r, .int .i64 s, .int .i64 n, .int .i64 m, .int .i64 c, .int .i64 mode, ((q17 4).val 0), v7, ((q14 3).val 0)] 82)) OW ?_
   clear OW; intro q18 _ Wq18 OW; simp only [↓pc, ↓pn, vE, Hint.val, Act.put, eL]
   gi_wp2
   exact leafE HS HH OW [.s ([.int .i64 r, .int .i64 s, .int .i64 n, .int .i64 m, .int .i64 c, .int .i64 mode, ((q17 4).val 0), v7, ((q14 3).val 0)]) 6, .t (.bool (((dWrite_2 D o.index) == 0) && (((dWrite_0 D o.index) == (rwent_0 x.co o.index)) && ((dWrite_1 D o.index) == (rwent_1 x.co)))))] (.l [] [] [((q17 4).val 0), v7, ((q14 3).val 0), (q17 4).val 0, (q14 3).val 0]) [0, 1, 2, 3] [] (by (try simp only [dstep_0]); (repeat (first | rw [hB4] | rw [hB9] | rw [hB12] | rw [hB16] | rw [cond_true] | rw [cond_false])); first | rfl | kernel_rfl) (by kernel_rfl) (by simp only [psD, psC, psL, psO]; (try rw [HN.out]); (try simp only [dstep_0]); (repeat (first | rw [hB4] | rw [hB9] | rw [hB12] | rw [hB16] | rw [cond_true] | rw [cond_false])); kernel_rfl)
  gi_upto_region 13 with fail
  refine rg (fun q19 => [.m (ls 8 ([.int .i64 r, .int .i64 s, .int .i64 n, .int .i64 m, .int .i64 c, .int .i64 mode, v6, v7, ((q14 3).val 0)])),
   .v (.int .i64 (dWrite_2 D o.index)),
   .v (.bool ((dWrite_2 D o.index) == 0)),
   .v (.bool ((dWrite_2 D o.index) == 0)),
   .m (ls 7 ([.int .i64 (dWrite_0 D o.index), .bool (dWrite_1 D o.index)])),
   .v (.int .i64 (rwent_0 x.co o.index)),
   .v (.bool (rwent_1 x.co)),
   .v (.agg #[.int .i64 (rwent_0 x.co o.index), .bool (rwent_1 x.co)]),
   .t (tbT 60 fun _ _ _ => bin_eqT (xs := [.int .i64 (dWrite_0 D o.index), .bool (dWrite_1 D o.index)]) (ys := [.int .i64 (rwent_0 x.co o.index), .bool (rwent_1 x.co)]) (by kernel_rfl) (show _ = ((((dWrite_0 D o.index) == (rwent_0 x.co o.index)) && ((dWrite_1 D o.index) == (rwent_1 x.co))) : Bool) from Eq.trans (b := ((dWrite_0 D o.index) == (rwent_0 x.co o.index) && ((dWrite_1 D o.index) == (rwent_1 x.co) && true))) (by rfl) (by simp only [Bool.and_true, beq_true, beq_false]))),
   .k (.bool (((dWrite_2 D o.index) == 0) && (((dWrite_0 D o.index) == (rwent_0 x.co o.index)) && ((dWrite_1 D o.index) == (rwent_1 x.co))))),
   .m (sv 6 ((q1 2).blk 0) 0 82 ([.int .i64 r, .int .i64 s, .int .i64 n, .int .i64 m, .int .i64 c, .int .i64 mode, v6, v7, ((q14 3).val 0)]) #[.int .i64 0, .int .i64 0, .int .i64 0, .int .i64 0, .int .i64 0, .int .i64 0, .slice none 0 0, .slice none 0 0, .slice none 0 0] #[.int .i64 r, .int .i64 s, .int .i64 n, .int .i64 m, .int .i64 c, .int .i64 mode, v6, v7, ((q14 3).val 0)] [(1, .p (SqE eCe v6 x.cl)), (2, .p (SqE eFa v7 x.la)), (3, .p (SqE eFa ((q14 3).val 0) (rwent_2 x.co)))] (by kernel_rfl) (Nat.le_of_ble_eq_true rfl) (fun c5 hc5 => (oc rfl (oc rfl (oc rfl (oc rfl (oc rfl (oc rfl (oc (SqE.one (hc5 _ (.head _))) (oc (SqE.one (hc5 _ (.tail _ (.head _)))) (oc (SqE.one (hc5 _ (.tail _ (.tail _ (.head _))))) on0))))))))))),
   .v (.bool (((dWrite_2 D o.index) == 0) && (((dWrite_0 D o.index) == (rwent_0 x.co o.index)) && ((dWrite_1 D o.index) == (rwent_1 x.co)))))]) (fun q19 L => L.set 6 (ob ((q1 2).blk 0) #[.int .i64 r, .int .i64 s, .int .i64 n, .int .i64 m, .int .i64 c, .int .i64 mode, v6, v7, ((q14 3).val 0)] 82)) OW ?_
  clear OW; intro q19 _ Wq19 OW; simp only [↓pc, ↓pn, vE, Hint.val, Act.put, eL]
  gi_wp2
  exact leafE HS HH OW [.s ([.int .i64 r, .int .i64 s, .int .i64 n, .int .i64 m, .int .i64 c, .int .i64 mode, v6, v7, ((q14 3).val 0)]) 6, .t (.bool (((dWrite_2 D o.index) == 0) && (((dWrite_0 D o.index) == (rwent_0 x.co o.index)) && ((dWrite_1 D o.index) == (rwent_1 x.co)))))] (.l [] [] [v6, v7, ((q14 3).val 0), (q14 3).val 0]) [0, 1, 2, 3] [] (by (try simp only [dstep_0]); (repeat (first | rw [hB4] | rw [hB9] | rw [hB12] | rw [hB16] | rw [cond_true] | rw [cond_false])); first | rfl | kernel_rfl) (by kernel_rfl) (by simp only [psD, psC, psL, psO]; (try rw [HN.out]); (try simp only [dstep_0]); (repeat (first | rw [hB4] | rw [hB9] | rw [hB12] | rw [hB16] | rw [cond_true] | rw [cond_false])); kernel_rfl)
 have dhB9 := ne_of_beq_false hB9
 gi_upto_region 14 with fail
 refine rg (fun q20 => [.v (.bool (o.kind == 3)),
  .v (.bool (o.kind == 3))]) (fun _ L => L) OW ?_
 clear OW; intro q20 _ Wq20 OW; simp only [↓pc, ↓pn, vE, Hint.val, Act.put, eL]
 cases hB21 : (o.kind == 3)
 case true =>
  have dhB21 := Lib.hid (eq_of_beq hB21)
  gi_upto_region 15 with fail
  refine rg (fun q22 => [.v (.pointer (some ⟨g, 0, none⟩)),
   .v (.pointer (some ⟨(q1 1).blk 0, 1, none⟩)),
   .m (ld 5 (.int .i64 o.index)),
   .c [0] [0] (dRead g D o.index HR.ok),
   .v (.tuple #[.agg (rB 72 (dRead_0 D o.index)).toArray, .agg #[.int .i64 (dRead_1 D o.index), .bool (dRead_2 D o.index)], .int .i64 (dRead_3 D o.index)]),
   .v (.agg (rB 72 (dRead_0 D o.index)).toArray),
   .v (.agg #[.int .i64 (dRead_1 D o.index), .bool (dRead_2 D o.index)]),
   .v (.int .i64 (dRead_3 D o.index)),
   .m (al 7),
   .m (al 8),
   .m (ss 7),
   .m (ss 8),
   .v (.int .i64 (dRead_3 D o.index))]) (fun q22 L => L.set 0 (.p (PkE (DramS g (rdD D o.index)))) ++ [ob ((q22 8).blk 0) (rB 72 (dRead_0 D o.index)).toArray 41, ob ((q22 9).blk 0) #[.int .i64 (dRead_1 D o.index), .bool (dRead_2 D o.index)] 60]) OW ?_
  clear OW; intro q22 _ Wq22 OW; simp only [↓pc, ↓pn, vE, Hint.val, Act.put, eL]
  gi_upto_region 16 with fail
  refine rg (fun q23 => [.m (ls 4 ([.int .i64 r, .int .i64 s, .int .i64 n, .int .i64 m, .int .i64 c, .int .i64 mode, v6, v7, v8])),
   .v (.pointer (some ⟨(q1 1).blk 0, 1, none⟩)),
   .m (ld 5 (.int .i64 o.index)),
   .c [] [] (rHas r s n m c mode v6 v7 v8 o.index (by omega)),
   .v (.bool (!(rhas r s n m c o.index)))]) (fun _ L => L) OW ?_
  clear OW; intro q23 _ Wq23 OW; simp only [↓pc, ↓pn, vE, Hint.val, Act.put, eL]
  cases hB24 : (!(rhas r s n m c o.index))
  case true =>
   gi_upto_region 17 with fail
   refine rg (fun q25 => [.m (ls 4 ([.int .i64 r, .int .i64 s, .int .i64 n, .int .i64 m, .int .i64 c, .int .i64 mode, v6, v7, v8])),
    .v (.int .i64 (dRead_3 D o.index)),
    .v (.bool ((dRead_3 D o.index) == 12)),
    .v (.bool ((dRead_3 D o.index) == 12)),
    .m (ls 8 ([.int .i64 (dRead_1 D o.index), .bool (dRead_2 D o.index)])),
    .v (.agg #[.int .i64 0, .bool false]),
    .t (tbT 60 fun _ _ _ => bin_eqT (xs := [.int .i64 (dRead_1 D o.index), .bool (dRead_2 D o.index)]) (ys := [.int .i64 0, .bool false]) (by kernel_rfl) (show _ = ((((dRead_1 D o.index) == 0) && (!(dRead_2 D o.index))) : Bool) from Eq.trans (b := ((dRead_1 D o.index) == 0 && ((dRead_2 D o.index) == false && true))) (by rfl) (by simp only [Bool.and_true, beq_true, beq_false]))),
    .k (.bool (((dRead_3 D o.index) == 12) && (((dRead_1 D o.index) == 0) && (!(dRead_2 D o.index))))),
    .v (.bool (((dRead_3 D o.index) == 12) && (((dRead_1 D o.index) == 0) && (!(dRead_2 D o.index))))),
    .m (ls 7 (rB 72 (dRead_0 D o.index))),
    .v (.agg (rB 72 (List.replicate 72 0)).toArray),
    .t (tbT 41 fun _ _ _ => bin_eqT (xs := rB 72 (dRead_0 D o.index)) (ys := rB 72 (List.replicate 72 0)) (by kernel_rfl) (eqc_rB (show ((dRead_0 D o.index)).length = 72 by first | rfl | (simp only [List.length_set, List.length_append, List.length_replicate, List.length_cons, List.length_nil, List.length_map, List.length_range, List.length_take, List.length_drop, HOR, HRL, HGL, HOL]; done) | (simp only [List.length_set, List.length_append, List.length_replicate, List.length_cons, List.length_nil, List.length_map, List.length_range, List.length_take, List.length_drop, HOR, HRL, HGL, HOL]; omega)) List.length_replicate)),
    .k (.bool ((((dRead_3 D o.index) == 12) && (((dRead_1 D o.index) == 0) && (!(dRead_2 D o.index)))) && (decide ((dRead_0 D o.index) = List.replicate 72 0)))),
    .m (sv 6 ((q1 2).blk 0) 0 82 ([.int .i64 r, .int .i64 s, .int .i64 n, .int .i64 m, .int .i64 c, .int .i64 mode, v6, v7, v8]) #[.int .i64 0, .int .i64 0, .int .i64 0, .int .i64 0, .int .i64 0, .int .i64 0, .slice none 0 0, .slice none 0 0, .slice none 0 0] #[.int .i64 r, .int .i64 s, .int .i64 n, .int .i64 m, .int .i64 c, .int .i64 mode, v6, v7, v8] [(1, .p (SqE eCe v6 x.cl)), (2, .p (SqE eFa v7 x.la)), (3, .p (SqE eFa v8 x.co))] (by kernel_rfl) (Nat.le_of_ble_eq_true rfl) (fun c5 hc5 => (oc rfl (oc rfl (oc rfl (oc rfl (oc rfl (oc rfl (oc (SqE.one (hc5 _ (.head _))) (oc (SqE.one (hc5 _ (.tail _ (.head _)))) (oc (SqE.one (hc5 _ (.tail _ (.tail _ (.head _))))) on0))))))))))),
    .v (.bool ((((dRead_3 D o.index) == 12) && (((dRead_1 D o.index) == 0) && (!(dRead_2 D o.index)))) && (decide ((dRead_0 D o.index) = List.replicate 72 0))))]) (fun q25 L => L.set 6 (ob ((q1 2).blk 0) #[.int .i64 r, .int .i64 s, .int .i64 n, .int .i64 m, .int .i64 c, .int .i64 mode, v6, v7, v8] 82)) OW ?_
   clear OW; intro q25 _ Wq25 OW; simp only [↓pc, ↓pn, vE, Hint.val, Act.put, eL]
   gi_wp2
   exact leafE HS HH OW [.s ([.int .i64 r, .int .i64 s, .int .i64 n, .int .i64 m, .int .i64 c, .int .i64 mode, v6, v7, v8]) 6, .t (.bool ((((dRead_3 D o.index) == 12) && (((dRead_1 D o.index) == 0) && (!(dRead_2 D o.index)))) && (decide ((dRead_0 D o.index) = List.replicate 72 0))))] (.l [] [] [v6, v7, v8]) [0, 1, 2, 3] [] (by (try simp only [dstep_0]); (repeat (first | rw [hB4] | rw [hB9] | rw [hB21] | rw [hB24] | rw [cond_true] | rw [cond_false])); first | rfl | kernel_rfl) (by kernel_rfl) (by simp only [psD, psC, psL, psO]; (try rw [HN.out]); (try simp only [dstep_0]); (repeat (first | rw [hB4] | rw [hB9] | rw [hB21] | rw [hB24] | rw [cond_true] | rw [cond_false])); kernel_rfl)
  gi_upto_region 18 with fail
  obtain ⟨pn1, pn2⟩ := HR.nn hB24 hoi
  refine rg (fun q26 => [.m (ls 4 ([.int .i64 r, .int .i64 s, .int .i64 n, .int .i64 m, .int .i64 c, .int .i64 mode, v6, v7, v8])),
   .v (.pointer (some ⟨(q1 1).blk 0, 1, none⟩)),
   .m (ld 5 (.int .i64 o.index)),
   .c [1, 2, 3] [3] (rwent r s n m c mode v6 v7 v8 x.cl x.la x.co o.index HR.pl),
   .v (.tuple #[.agg #[.int .i64 r, .int .i64 s, .int .i64 n, .int .i64 m, .int .i64 c, .int .i64 mode, v6, v7, ((q26 3).val 0)], .int .i64 (rwent_0 x.co o.index), .bool (rwent_1 x.co)]),
   .v (.agg #[.int .i64 r, .int .i64 s, .int .i64 n, .int .i64 m, .int .i64 c, .int .i64 mode, v6, v7, ((q26 3).val 0)]),
   .v (.int .i64 (rwent_0 x.co o.index)),
   .v (.bool (rwent_1 x.co)),
   .m (al 9),
   .m (sv 9 ((q26 8).blk 0) 0 82 ([.int .i64 r, .int .i64 s, .int .i64 n, .int .i64 m, .int .i64 c, .int .i64 mode, v6, v7, ((q26 3).val 0)]) #[.int .i64 0, .int .i64 0, .int .i64 0, .int .i64 0, .int .i64 0, .int .i64 0, .slice none 0 0, .slice none 0 0, .slice none 0 0] #[.int .i64 r, .int .i64 s, .int .i64 n, .int .i64 m, .int .i64 c, .int .i64 mode, v6, v7, ((q26 3).val 0)] [(1, .p (SqE eCe v6 x.cl)), (2, .p (SqE eFa v7 x.la)), (3, .p (SqE eFa ((q26 3).val 0) (rwent_2 x.co)))] (by kernel_rfl) (Nat.le_of_ble_eq_true rfl) (fun c5 hc5 => (oc rfl (oc rfl (oc rfl (oc rfl (oc rfl (oc rfl (oc (SqE.one (hc5 _ (.head _))) (oc (SqE.one (hc5 _ (.tail _ (.head _)))) (oc (SqE.one (hc5 _ (.tail _ (.tail _ (.head _))))) on0))))))))))),
   .v (.int .i64 (rwent_0 x.co o.index)),
   .v (.bool (rwent_1 x.co))]) (fun q26 L => L.set 3 (.p (SqE eFa ((q26 3).val 0) (rwent_2 x.co))) ++ [ob ((q26 8).blk 0) #[.int .i64 r, .int .i64 s, .int .i64 n, .int .i64 m, .int .i64 c, .int .i64 mode, v6, v7, ((q26 3).val 0)] 82]) OW ?_
  clear OW; intro q26 _ Wq26 OW; simp only [↓pc, ↓pn, vE, Hint.val, Act.put, eL]
  gi_upto_region 19 with fail
  refine rg (fun q27 => [.m (al 10)]) (fun q27 L => L ++ [ob ((q27 0).blk 0) (rB 72 (List.replicate 72 0)).toArray 40]) OW ?_
  clear OW; intro q27 _ Wq27 OW; simp only [↓pc, ↓pn, vE, Hint.val, Act.put, eL]
  gi_upto_region 20 with fail
  refine rg (fun q28 => [.v (.bool (rwent_1 x.co)),
   .v (.bool (!(rwent_1 x.co)))]) (fun _ L => L) OW ?_
  clear OW; intro q28 _ Wq28 OW; simp only [↓pc, ↓pn, vE, Hint.val, Act.put, eL]
  cases hB29 : (!(rwent_1 x.co))
  case true =>
   gi_upto_region 21 with fail
   refine rg (fun q30 => [.m (ls 9 ([.int .i64 r, .int .i64 s, .int .i64 n, .int .i64 m, .int .i64 c, .int .i64 mode, v6, v7, ((q26 3).val 0)])),
    .v (.int .i64 (rwent_0 x.co o.index)),
    .c [1, 2, 3] [] (rlook r s n m c mode v6 v7 ((q26 3).val 0) x.cl x.la (rwent_2 x.co) (rwent_0 x.co o.index) pn1 pn2 (by first | omega) h7 HR.cl HR.f1),
    .m (ss 10)]) (fun q30 L => L.set 10 (ob ((q27 0).blk 0) (rB 72 (ov11 x.la mode ((rwent_0 x.co o.index) / 1048576) ((rwent_0 x.co o.index) / 65536 % 16) ((rwent_0 x.co o.index) / 64 % 1024) ((rwent_0 x.co o.index) % 64) (getC x.cl (rwent_0 x.co o.index)) x.la.length)).toArray 40)) OW ?_
   clear OW; intro q30 _ Wq30 OW; simp only [↓pc, ↓pn, vE, Hint.val, Act.put, eL]
   gi_upto_region 22 with fail
   refine rg (fun q31 => [.m (ls 9 ([.int .i64 r, .int .i64 s, .int .i64 n, .int .i64 m, .int .i64 c, .int .i64 mode, v6, v7, ((q26 3).val 0)])),
    .v (.int .i64 (dRead_3 D o.index)),
    .v (.bool ((dRead_3 D o.index) == 0)),
    .v (.bool ((dRead_3 D o.index) == 0)),
    .m (ls 8 ([.int .i64 (dRead_1 D o.index), .bool (dRead_2 D o.index)])),
    .v (.int .i64 (rwent_0 x.co o.index)),
    .v (.bool (rwent_1 x.co)),
    .v (.agg #[.int .i64 (rwent_0 x.co o.index), .bool (rwent_1 x.co)]),
    .t (tbT 60 fun _ _ _ => bin_eqT (xs := [.int .i64 (dRead_1 D o.index), .bool (dRead_2 D o.index)]) (ys := [.int .i64 (rwent_0 x.co o.index), .bool (rwent_1 x.co)]) (by kernel_rfl) (show _ = ((((dRead_1 D o.index) == (rwent_0 x.co o.index)) && ((dRead_2 D o.index) == (rwent_1 x.co))) : Bool) from Eq.trans (b := ((dRead_1 D o.index) == (rwent_0 x.co o.index) && ((dRead_2 D o.index) == (rwent_1 x.co) && true))) (by rfl) (by simp only [Bool.and_true, beq_true, beq_false]))),
    .k (.bool (((dRead_3 D o.index) == 0) && (((dRead_1 D o.index) == (rwent_0 x.co o.index)) && ((dRead_2 D o.index) == (rwent_1 x.co))))),
    .v (.bool (((dRead_3 D o.index) == 0) && (((dRead_1 D o.index) == (rwent_0 x.co o.index)) && ((dRead_2 D o.index) == (rwent_1 x.co))))),
    .m (ls 7 (rB 72 (dRead_0 D o.index))),
    .m (ls 10 (rB 72 (ov11 x.la mode ((rwent_0 x.co o.index) / 1048576) ((rwent_0 x.co o.index) / 65536 % 16) ((rwent_0 x.co o.index) / 64 % 1024) ((rwent_0 x.co o.index) % 64) (getC x.cl (rwent_0 x.co o.index)) x.la.length))),
    .t (tbT 40 fun _ _ _ => bin_eqT (xs := rB 72 (dRead_0 D o.index)) (ys := rB 72 (ov11 x.la mode ((rwent_0 x.co o.index) / 1048576) ((rwent_0 x.co o.index) / 65536 % 16) ((rwent_0 x.co o.index) / 64 % 1024) ((rwent_0 x.co o.index) % 64) (getC x.cl (rwent_0 x.co o.index)) x.la.length)) (by kernel_rfl) (eqc_rB (show ((dRead_0 D o.index)).length = 72 by first | rfl | (simp only [List.length_set, List.length_append, List.length_replicate, List.length_cons, List.length_nil, List.length_map, List.length_range, List.length_take, List.length_drop, HOR, HRL, HGL, HOL]; done) | (simp only [List.length_set, List.length_append, List.length_replicate, List.length_cons, List.length_nil, List.length_map, List.length_range, List.length_take, List.length_drop, HOR, HRL, HGL, HOL]; omega)) (show (ov11 x.la mode ((rwent_0 x.co o.index) / 1048576) ((rwent_0 x.co o.index) / 65536 % 16) ((rwent_0 x.co o.index) / 64 % 1024) ((rwent_0 x.co o.index) % 64) (getC x.cl (rwent_0 x.co o.index)) x.la.length).length = 72 by first | rfl | (simp only [List.length_set, List.length_append, List.length_replicate, List.length_cons, List.length_nil, List.length_map, List.length_range, List.length_take, List.length_drop, HOR, HRL, HGL, HOL]; done) | (simp only [List.length_set, List.length_append, List.length_replicate, List.length_cons, List.length_nil, List.length_map, List.length_range, List.length_take, List.length_drop, HOR, HRL, HGL, HOL]; omega)))),
    .k (.bool ((((dRead_3 D o.index) == 0) && (((dRead_1 D o.index) == (rwent_0 x.co o.index)) && ((dRead_2 D o.index) == (rwent_1 x.co)))) && (decide ((dRead_0 D o.index) = ov11 x.la mode ((rwent_0 x.co o.index) / 1048576) ((rwent_0 x.co o.index) / 65536 % 16) ((rwent_0 x.co o.index) / 64 % 1024) ((rwent_0 x.co o.index) % 64) (getC x.cl (rwent_0 x.co o.index)) x.la.length)))),
    .m (sv 6 ((q1 2).blk 0) 0 82 ([.int .i64 r, .int .i64 s, .int .i64 n, .int .i64 m, .int .i64 c, .int .i64 mode, v6, v7, ((q26 3).val 0)]) #[.int .i64 0, .int .i64 0, .int .i64 0, .int .i64 0, .int .i64 0, .int .i64 0, .slice none 0 0, .slice none 0 0, .slice none 0 0] #[.int .i64 r, .int .i64 s, .int .i64 n, .int .i64 m, .int .i64 c, .int .i64 mode, v6, v7, ((q26 3).val 0)] [(1, .p (SqE eCe v6 x.cl)), (2, .p (SqE eFa v7 x.la)), (3, .p (SqE eFa ((q26 3).val 0) (rwent_2 x.co)))] (by kernel_rfl) (Nat.le_of_ble_eq_true rfl) (fun c5 hc5 => (oc rfl (oc rfl (oc rfl (oc rfl (oc rfl (oc rfl (oc (SqE.one (hc5 _ (.head _))) (oc (SqE.one (hc5 _ (.tail _ (.head _)))) (oc (SqE.one (hc5 _ (.tail _ (.tail _ (.head _))))) on0))))))))))),
    .v (.bool ((((dRead_3 D o.index) == 0) && (((dRead_1 D o.index) == (rwent_0 x.co o.index)) && ((dRead_2 D o.index) == (rwent_1 x.co)))) && (decide ((dRead_0 D o.index) = ov11 x.la mode ((rwent_0 x.co o.index) / 1048576) ((rwent_0 x.co o.index) / 65536 % 16) ((rwent_0 x.co o.index) / 64 % 1024) ((rwent_0 x.co o.index) % 64) (getC x.cl (rwent_0 x.co o.index)) x.la.length))))]) (fun q31 L => L.set 6 (ob ((q1 2).blk 0) #[.int .i64 r, .int .i64 s, .int .i64 n, .int .i64 m, .int .i64 c, .int .i64 mode, v6, v7, ((q26 3).val 0)] 82)) OW ?_
   clear OW; intro q31 _ Wq31 OW; simp only [↓pc, ↓pn, vE, Hint.val, Act.put, eL]
   gi_wp2
   exact leafE HS HH OW [.s ([.int .i64 r, .int .i64 s, .int .i64 n, .int .i64 m, .int .i64 c, .int .i64 mode, v6, v7, ((q26 3).val 0)]) 6, .t (.bool ((((dRead_3 D o.index) == 0) && (((dRead_1 D o.index) == (rwent_0 x.co o.index)) && ((dRead_2 D o.index) == (rwent_1 x.co)))) && (decide ((dRead_0 D o.index) = ov11 x.la mode ((rwent_0 x.co o.index) / 1048576) ((rwent_0 x.co o.index) / 65536 % 16) ((rwent_0 x.co o.index) / 64 % 1024) ((rwent_0 x.co o.index) % 64) (getC x.cl (rwent_0 x.co o.index)) x.la.length))))] (.l [] [] [v6, v7, ((q26 3).val 0), (q26 3).val 0]) [0, 1, 2, 3] [] (by (try simp only [dstep_0]); (repeat (first | rw [hB4] | rw [hB9] | rw [hB21] | rw [hB24] | rw [hB29] | rw [cond_true] | rw [cond_false])); first | rfl | kernel_rfl) (by kernel_rfl) (by simp only [psD, psC, psL, psO]; (try rw [HN.out]); (try simp only [dstep_0]); (repeat (first | rw [hB4] | rw [hB9] | rw [hB21] | rw [hB24] | rw [hB29] | rw [cond_true] | rw [cond_false])); kernel_rfl)
  gi_upto_region 22 with fail
  refine rg (fun q32 => [.m (ls 9 ([.int .i64 r, .int .i64 s, .int .i64 n, .int .i64 m, .int .i64 c, .int .i64 mode, v6, v7, ((q26 3).val 0)])),
   .v (.int .i64 (dRead_3 D o.index)),
   .v (.bool ((dRead_3 D o.index) == 0)),
   .v (.bool ((dRead_3 D o.index) == 0)),
   .m (ls 8 ([.int .i64 (dRead_1 D o.index), .bool (dRead_2 D o.index)])),
   .v (.int .i64 (rwent_0 x.co o.index)),
   .v (.bool (rwent_1 x.co)),
   .v (.agg #[.int .i64 (rwent_0 x.co o.index), .bool (rwent_1 x.co)]),
   .t (tbT 60 fun _ _ _ => bin_eqT (xs := [.int .i64 (dRead_1 D o.index), .bool (dRead_2 D o.index)]) (ys := [.int .i64 (rwent_0 x.co o.index), .bool (rwent_1 x.co)]) (by kernel_rfl) (show _ = ((((dRead_1 D o.index) == (rwent_0 x.co o.index)) && ((dRead_2 D o.index) == (rwent_1 x.co))) : Bool) from Eq.trans (b := ((dRead_1 D o.index) == (rwent_0 x.co o.index) && ((dRead_2 D o.index) == (rwent_1 x.co) && true))) (by rfl) (by simp only [Bool.and_true, beq_true, beq_false]))),
   .k (.bool (((dRead_3 D o.index) == 0) && (((dRead_1 D o.index) == (rwent_0 x.co o.index)) && ((dRead_2 D o.index) == (rwent_1 x.co))))),
   .v (.bool (((dRead_3 D o.index) == 0) && (((dRead_1 D o.index) == (rwent_0 x.co o.index)) && ((dRead_2 D o.index) == (rwent_1 x.co))))),
   .m (ls 7 (rB 72 (dRead_0 D o.index))),
   .m (ls 10 (rB 72 (List.replicate 72 0))),
   .t (tbT 40 fun _ _ _ => bin_eqT (xs := rB 72 (dRead_0 D o.index)) (ys := rB 72 (List.replicate 72 0)) (by kernel_rfl) (eqc_rB (show ((dRead_0 D o.index)).length = 72 by first | rfl | (simp only [List.length_set, List.length_append, List.length_replicate, List.length_cons, List.length_nil, List.length_map, List.length_range, List.length_take, List.length_drop, HOR, HRL, HGL, HOL]; done) | (simp only [List.length_set, List.length_append, List.length_replicate, List.length_cons, List.length_nil, List.length_map, List.length_range, List.length_take, List.length_drop, HOR, HRL, HGL, HOL]; omega)) List.length_replicate)),
   .k (.bool ((((dRead_3 D o.index) == 0) && (((dRead_1 D o.index) == (rwent_0 x.co o.index)) && ((dRead_2 D o.index) == (rwent_1 x.co)))) && (decide ((dRead_0 D o.index) = List.replicate 72 0)))),
   .m (sv 6 ((q1 2).blk 0) 0 82 ([.int .i64 r, .int .i64 s, .int .i64 n, .int .i64 m, .int .i64 c, .int .i64 mode, v6, v7, ((q26 3).val 0)]) #[.int .i64 0, .int .i64 0, .int .i64 0, .int .i64 0, .int .i64 0, .int .i64 0, .slice none 0 0, .slice none 0 0, .slice none 0 0] #[.int .i64 r, .int .i64 s, .int .i64 n, .int .i64 m, .int .i64 c, .int .i64 mode, v6, v7, ((q26 3).val 0)] [(1, .p (SqE eCe v6 x.cl)), (2, .p (SqE eFa v7 x.la)), (3, .p (SqE eFa ((q26 3).val 0) (rwent_2 x.co)))] (by kernel_rfl) (Nat.le_of_ble_eq_true rfl) (fun c5 hc5 => (oc rfl (oc rfl (oc rfl (oc rfl (oc rfl (oc rfl (oc (SqE.one (hc5 _ (.head _))) (oc (SqE.one (hc5 _ (.tail _ (.head _)))) (oc (SqE.one (hc5 _ (.tail _ (.tail _ (.head _))))) on0))))))))))),
   .v (.bool ((((dRead_3 D o.index) == 0) && (((dRead_1 D o.index) == (rwent_0 x.co o.index)) && ((dRead_2 D o.index) == (rwent_1 x.co)))) && (decide ((dRead_0 D o.index) = List.replicate 72 0))))]) (fun q32 L => L.set 6 (ob ((q1 2).blk 0) #[.int .i64 r, .int .i64 s, .int .i64 n, .int .i64 m, .int .i64 c, .int .i64 mode, v6, v7, ((q26 3).val 0)] 82)) OW ?_
  clear OW; intro q32 _ Wq32 OW; simp only [↓pc, ↓pn, vE, Hint.val, Act.put, eL]
  gi_wp2
  exact leafE HS HH OW [.s ([.int .i64 r, .int .i64 s, .int .i64 n, .int .i64 m, .int .i64 c, .int .i64 mode, v6, v7, ((q26 3).val 0)]) 6, .t (.bool ((((dRead_3 D o.index) == 0) && (((dRead_1 D o.index) == (rwent_0 x.co o.index)) && ((dRead_2 D o.index) == (rwent_1 x.co)))) && (decide ((dRead_0 D o.index) = List.replicate 72 0))))] (.l [] [] [v6, v7, ((q26 3).val 0), (q26 3).val 0]) [0, 1, 2, 3] [] (by (try simp only [dstep_0]); (repeat (first | rw [hB4] | rw [hB9] | rw [hB21] | rw [hB24] | rw [hB29] | rw [cond_true] | rw [cond_false])); first | rfl | kernel_rfl) (by kernel_rfl) (by simp only [psD, psC, psL, psO]; (try rw [HN.out]); (try simp only [dstep_0]); (repeat (first | rw [hB4] | rw [hB9] | rw [hB21] | rw [hB24] | rw [hB29] | rw [cond_true] | rw [cond_false])); kernel_rfl)
 have dhB21 := ne_of_beq_false hB21
 gi_upto_region 23 with fail
 refine rg (fun q33 => [.v (.bool (o.kind == 4)),
  .v (.bool (o.kind == 4))]) (fun _ L => L) OW ?_
 clear OW; intro q33 _ Wq33 OW; simp only [↓pc, ↓pn, vE, Hint.val, Act.put, eL]
 cases hB34 : (o.kind == 4)
 case true =>
  have dhB34 := Lib.hid (eq_of_beq hB34)
  gi_upto_region 24 with fail
  refine rg (fun q35 => [.v (.pointer (some ⟨(q1 1).blk 0, 2, none⟩)),
   .m (ld 5 (.int .i64 o.many)),
   .t (tv (Builtin.min_ #[3, 3] 3 #[.int .i64 o.many, .int .i64 300]) (fun _ => run_minI _ _ _ _)),
   .t (TH.cast (tv (Builtin.max_ #[3, 3] 3 #[.int .i64 (min (o.many) 300), .int .i64 0]) (fun _ => run_maxI _ _ _ _)) (congrArg (Value.int .i64) ((manyN_eq o).trans (congrArg Int.ofNat HN.out)))),
   .v (.int .i64 0)]) (fun _ L => L) OW ?_
  clear OW; intro q35 _ Wq35 OW; simp only [↓pc, ↓pn, vE, Hint.val, Act.put, eL]
  gi_wp2
  gi_loopw [157] (fun z157 wr => ∃ k : Nat, ∃ vC4_6 vC4_7 vC4_8 : Value, k ≤ N ∧ z157 = .int .i64 (k : Int) ∧ OwnE (ids cs.flatten) w [.p (PkE (DramS g (injN D o.fault k))), .p (SqE eCe vC4_6 ((rinN r s n m c mode x o.fault k).cl)), .p (SqE eFa vC4_7 ((rinN r s n m c mode x o.fault k).la)), .p (SqE eFa vC4_8 ((rinN r s n m c mode x o.fault k).co)), ob ((q1 0).blk 0) #[.int .i64 r, .int .i64 s, .int .i64 n, .int .i64 m, .int .i64 c, .int .i64 mode, vC4_6, vC4_7, vC4_8] 82, ob ((q1 1).blk 0) (([.int .i64 o.kind, .int .i64 o.index, .int .i64 o.many, .int .i64 o.fault.x0, .int .i64 o.fault.x1, .int .i64 o.fault.x2, .int .i64 o.fault.x3, .int .i64 o.fault.x4, .int .i64 o.fault.x5, .int .i64 o.fault.x6, .int .i64 o.fault.x7] : List Value) ++ rB 72 o.raw).toArray 64, ob ((q1 2).blk 0) #[.int .i64 0, .int .i64 0, .int .i64 0, .int .i64 0, .int .i64 0, .int .i64 0, .slice none 0 0, .slice none 0 0, .slice none 0 0] 82] wr) (fun z157 _ => N - (intOf (z157)).toNat)
  case atStart => exact ⟨0, v6, v7, v8, by omega, rfl, (by rw [rinN, injN]; exact OwnE.cast OW.out (by kernel_rfl))⟩
  case round =>
   obtain ⟨k, vC4_6, vC4_7, vC4_8, hk37, rfl, hO⟩ := hrel
   clear OW
   have HRK := HR.injN hof k
   have HLK := rinN_len r s n m c mode x o.fault k
   have OW := Lib.hid hO
   clear hO
   gi_upto_region 25 with fail
   refine rg (fun q38 => [.v (.bool (decide ((k : Int) < (N : Int))))]) (fun _ L => L) OW ?_
   clear OW; intro q38 _ Wq38 OW; simp only [↓pc, ↓pn, vE, Hint.val, Act.put, eL]
   cases hB39 : (decide ((k : Int) < (N : Int)))
   case true =>
    have dhB39 := of_decide_eq_true hB39
    gi_upto_region 26 with fail
    refine rg (fun q40 => [.v (.pointer (some ⟨g, 0, none⟩)),
     .v (.pointer (some ⟨(q1 1).blk 0, 3, none⟩)),
     .m (ls 5 ([.int .i64 o.fault.x0, .int .i64 o.fault.x1, .int .i64 o.fault.x2, .int .i64 o.fault.x3, .int .i64 o.fault.x4, .int .i64 o.fault.x5, .int .i64 o.fault.x6, .int .i64 o.fault.x7])),
     .c [0] [0] (dInject g (injN D o.fault k) o.fault (by first | exact HR.ok | exact HRK.ok) hof),
     .v (.int .i64 (dInject_0 (injN D o.fault k) o.fault))]) (fun q40 L => L.set 0 (.p (PkE (DramS g (injD (injN D o.fault k) o.fault))))) OW ?_
    clear OW; intro q40 _ Wq40 OW; simp only [↓pc, ↓pn, vE, Hint.val, Act.put, eL]
    gi_upto_region 27 with fail
    refine rg (fun q41 => [.m (ls 4 ([.int .i64 r, .int .i64 s, .int .i64 n, .int .i64 m, .int .i64 c, .int .i64 mode, vC4_6, vC4_7, vC4_8])),
     .v (.pointer (some ⟨(q1 1).blk 0, 3, none⟩)),
     .m (ls 5 ([.int .i64 o.fault.x0, .int .i64 o.fault.x1, .int .i64 o.fault.x2, .int .i64 o.fault.x3, .int .i64 o.fault.x4, .int .i64 o.fault.x5, .int .i64 o.fault.x6, .int .i64 o.fault.x7])),
     .c [] [] (dof o.fault.x0 o.fault.x1 o.fault.x2 o.fault.x3 o.fault.x4 o.fault.x5 o.fault.x6 o.fault.x7),
     .c [1, 2, 3] [1, 2, 3] (rinj r s n m c mode vC4_6 vC4_7 vC4_8 ((rinN r s n m c mode x o.fault k).cl) ((rinN r s n m c mode x o.fault k).la) ((rinN r s n m c mode x o.fault k).co) o.fault (by first | omega) (by first | exact h7 | exact HRK.l1) (by first | exact h8 | exact HRK.l2) (by first | exact HR.cl | exact HRK.cl) hof),
     .v (.tuple #[.agg #[.int .i64 r, .int .i64 s, .int .i64 n, .int .i64 m, .int .i64 c, .int .i64 mode, ((q41 4).val 0), ((q41 4).val 1), ((q41 4).val 2)], .int .i64 (rinj_0 r s n m c mode ((rinN r s n m c mode x o.fault k).la) ((rinN r s n m c mode x o.fault k).co) o.fault)]),
     .v (.agg #[.int .i64 r, .int .i64 s, .int .i64 n, .int .i64 m, .int .i64 c, .int .i64 mode, ((q41 4).val 0), ((q41 4).val 1), ((q41 4).val 2)]),
     .v (.int .i64 (rinj_0 r s n m c mode ((rinN r s n m c mode x o.fault k).la) ((rinN r s n m c mode x o.fault k).co) o.fault)),
     .m (al 7),
     .m (sv 7 ((q41 8).blk 0) 0 82 ([.int .i64 r, .int .i64 s, .int .i64 n, .int .i64 m, .int .i64 c, .int .i64 mode, ((q41 4).val 0), ((q41 4).val 1), ((q41 4).val 2)]) #[.int .i64 0, .int .i64 0, .int .i64 0, .int .i64 0, .int .i64 0, .int .i64 0, .slice none 0 0, .slice none 0 0, .slice none 0 0] #[.int .i64 r, .int .i64 s, .int .i64 n, .int .i64 m, .int .i64 c, .int .i64 mode, ((q41 4).val 0), ((q41 4).val 1), ((q41 4).val 2)] [(1, .p (SqE eCe ((q41 4).val 0) (rinj_1 r s n m c mode ((rinN r s n m c mode x o.fault k).cl) o.fault))), (2, .p (SqE eFa ((q41 4).val 1) (rinj_2 r s n m c mode ((rinN r s n m c mode x o.fault k).la) o.fault))), (3, .p (SqE eFa ((q41 4).val 2) (rinj_3 r s n m c mode ((rinN r s n m c mode x o.fault k).co) o.fault)))] (by kernel_rfl) (Nat.le_of_ble_eq_true rfl) (fun c5 hc5 => (oc rfl (oc rfl (oc rfl (oc rfl (oc rfl (oc rfl (oc (SqE.one (hc5 _ (.head _))) (oc (SqE.one (hc5 _ (.tail _ (.head _)))) (oc (SqE.one (hc5 _ (.tail _ (.tail _ (.head _))))) on0))))))))))),
     .v (.int .i64 (rinj_0 r s n m c mode ((rinN r s n m c mode x o.fault k).la) ((rinN r s n m c mode x o.fault k).co) o.fault))]) (fun q41 L => ((L.set 1 (.p (SqE eCe ((q41 4).val 0) (rinj_1 r s n m c mode ((rinN r s n m c mode x o.fault k).cl) o.fault)))).set 2 (.p (SqE eFa ((q41 4).val 1) (rinj_2 r s n m c mode ((rinN r s n m c mode x o.fault k).la) o.fault)))).set 3 (.p (SqE eFa ((q41 4).val 2) (rinj_3 r s n m c mode ((rinN r s n m c mode x o.fault k).co) o.fault))) ++ [ob ((q41 8).blk 0) #[.int .i64 r, .int .i64 s, .int .i64 n, .int .i64 m, .int .i64 c, .int .i64 mode, ((q41 4).val 0), ((q41 4).val 1), ((q41 4).val 2)] 82]) OW ?_
    clear OW; intro q41 _ Wq41 OW; simp only [↓pc, ↓pn, vE, Hint.val, Act.put, eL]
    gi_upto_region 28 with fail
    refine rg (fun q42 => [.m (ls 7 ([.int .i64 r, .int .i64 s, .int .i64 n, .int .i64 m, .int .i64 c, .int .i64 mode, ((q41 4).val 0), ((q41 4).val 1), ((q41 4).val 2)])),
     .m (sv 4 ((q1 0).blk 0) 0 82 ([.int .i64 r, .int .i64 s, .int .i64 n, .int .i64 m, .int .i64 c, .int .i64 mode, ((q41 4).val 0), ((q41 4).val 1), ((q41 4).val 2)]) #[.int .i64 r, .int .i64 s, .int .i64 n, .int .i64 m, .int .i64 c, .int .i64 mode, vC4_6, vC4_7, vC4_8] #[.int .i64 r, .int .i64 s, .int .i64 n, .int .i64 m, .int .i64 c, .int .i64 mode, ((q41 4).val 0), ((q41 4).val 1), ((q41 4).val 2)] [(1, .p (SqE eCe ((q41 4).val 0) (rinj_1 r s n m c mode ((rinN r s n m c mode x o.fault k).cl) o.fault))), (2, .p (SqE eFa ((q41 4).val 1) (rinj_2 r s n m c mode ((rinN r s n m c mode x o.fault k).la) o.fault))), (3, .p (SqE eFa ((q41 4).val 2) (rinj_3 r s n m c mode ((rinN r s n m c mode x o.fault k).co) o.fault)))] (by kernel_rfl) (Nat.le_of_ble_eq_true rfl) (fun c5 hc5 => (oc rfl (oc rfl (oc rfl (oc rfl (oc rfl (oc rfl (oc (SqE.one (hc5 _ (.head _))) (oc (SqE.one (hc5 _ (.tail _ (.head _)))) (oc (SqE.one (hc5 _ (.tail _ (.tail _ (.head _))))) on0)))))))))))]) (fun q42 L => L.set 4 (ob ((q1 0).blk 0) #[.int .i64 r, .int .i64 s, .int .i64 n, .int .i64 m, .int .i64 c, .int .i64 mode, ((q41 4).val 0), ((q41 4).val 1), ((q41 4).val 2)] 82)) OW ?_
    clear OW; intro q42 _ Wq42 OW; simp only [↓pc, ↓pn, vE, Hint.val, Act.put, eL]
    gi_upto_region 29 with fail
    refine rg (fun q43 => [.v (.int .i64 (dInject_0 (injN D o.fault k) o.fault)),
     .v (.int .i64 (rinj_0 r s n m c mode ((rinN r s n m c mode x o.fault k).la) ((rinN r s n m c mode x o.fault k).co) o.fault)),
     .t (tk (show Value.bool ((dInject_0 (injN D o.fault k) o.fault) != (rinj_0 r s n m c mode ((rinN r s n m c mode x o.fault k).la) ((rinN r s n m c mode x o.fault k).co) o.fault)) = .bool false from congrArg Value.bool (by rw [(HRK.inj hof).2]; exact bne_self_eq_false _)))]) (fun _ L => L) OW ?_
    clear OW; intro q43 _ Wq43 OW; simp only [↓pc, ↓pn, vE, Hint.val, Act.put, eL]
    gi_upto_region 31 with fail
    refine rg (fun q44 => [.t (tb (a := .int .i64 (k : Int)) (b := .int .i64 1) fun _ _ _ _ => bin_add_nat (a := k) (b := 1) (by omega)),
     .v (.int .i64 ((k + 1 : Nat) : Int))]) (fun _ L => L) OW ?_
    clear OW; intro q44 _ Wq44 OW; simp only [↓pc, ↓pn, vE, Hint.val, Act.put, eL]
    gi_wp2
    go_roundw
    case rel => exact ⟨k + 1, ((q41 4).val 0), ((q41 4).val 1), ((q41 4).val 2), by omega, by go_num, (by rw [rinN, injN]; simp only [rinS]; exact OwnE.pick OW.out [0, 1, 2, 3, 4, 5, 6] _ (by kernel_rfl))⟩
    case measure => (simp [intOf] <;> omega)
   have dhB39 := of_decide_eq_false hB39
   obtain rfl : N = k := by omega
   gi_upto_region 32 with fail
   refine rg (fun q45 => [.m (ls 4 ([.int .i64 r, .int .i64 s, .int .i64 n, .int .i64 m, .int .i64 c, .int .i64 mode, vC4_6, vC4_7, vC4_8])),
    .m (sv 6 ((q1 2).blk 0) 0 82 ([.int .i64 r, .int .i64 s, .int .i64 n, .int .i64 m, .int .i64 c, .int .i64 mode, vC4_6, vC4_7, vC4_8]) #[.int .i64 0, .int .i64 0, .int .i64 0, .int .i64 0, .int .i64 0, .int .i64 0, .slice none 0 0, .slice none 0 0, .slice none 0 0] #[.int .i64 r, .int .i64 s, .int .i64 n, .int .i64 m, .int .i64 c, .int .i64 mode, vC4_6, vC4_7, vC4_8] [(1, .p (SqE eCe vC4_6 ((rinN r s n m c mode x o.fault N).cl))), (2, .p (SqE eFa vC4_7 ((rinN r s n m c mode x o.fault N).la))), (3, .p (SqE eFa vC4_8 ((rinN r s n m c mode x o.fault N).co)))] (by kernel_rfl) (Nat.le_of_ble_eq_true rfl) (fun c5 hc5 => (oc rfl (oc rfl (oc rfl (oc rfl (oc rfl (oc rfl (oc (SqE.one (hc5 _ (.head _))) (oc (SqE.one (hc5 _ (.tail _ (.head _)))) (oc (SqE.one (hc5 _ (.tail _ (.tail _ (.head _))))) on0))))))))))),
    .v (.bool true)]) (fun q45 L => L.set 6 (ob ((q1 2).blk 0) #[.int .i64 r, .int .i64 s, .int .i64 n, .int .i64 m, .int .i64 c, .int .i64 mode, vC4_6, vC4_7, vC4_8] 82)) OW ?_
   clear OW; intro q45 _ Wq45 OW; simp only [↓pc, ↓pn, vE, Hint.val, Act.put, eL]
   gi_wp2
   exact leafE HS HH OW [.s ([.int .i64 r, .int .i64 s, .int .i64 n, .int .i64 m, .int .i64 c, .int .i64 mode, vC4_6, vC4_7, vC4_8]) 6, .t (.bool true)] (.l [] [] [vC4_6, vC4_7, vC4_8]) [0, 1, 2, 3] [] (by (try simp only [dstep_0]); (repeat (first | rw [hB4] | rw [hB9] | rw [hB21] | rw [hB34] | rw [hB39] | rw [cond_true] | rw [cond_false])); first | rfl | kernel_rfl) (by kernel_rfl) (by simp only [psD, psC, psL, psO]; (try rw [HN.out]); (try simp only [dstep_0]); (repeat (first | rw [hB4] | rw [hB9] | rw [hB21] | rw [hB34] | rw [hB39] | rw [cond_true] | rw [cond_false])); kernel_rfl)
 have dhB34 := ne_of_beq_false hB34
 gi_upto_region 32 with fail
 refine rg (fun q46 => [.m (ls 4 ([.int .i64 r, .int .i64 s, .int .i64 n, .int .i64 m, .int .i64 c, .int .i64 mode, v6, v7, v8])),
  .m (sv 6 ((q1 2).blk 0) 0 82 ([.int .i64 r, .int .i64 s, .int .i64 n, .int .i64 m, .int .i64 c, .int .i64 mode, v6, v7, v8]) #[.int .i64 0, .int .i64 0, .int .i64 0, .int .i64 0, .int .i64 0, .int .i64 0, .slice none 0 0, .slice none 0 0, .slice none 0 0] #[.int .i64 r, .int .i64 s, .int .i64 n, .int .i64 m, .int .i64 c, .int .i64 mode, v6, v7, v8] [(1, .p (SqE eCe v6 x.cl)), (2, .p (SqE eFa v7 x.la)), (3, .p (SqE eFa v8 x.co))] (by kernel_rfl) (Nat.le_of_ble_eq_true rfl) (fun c5 hc5 => (oc rfl (oc rfl (oc rfl (oc rfl (oc rfl (oc rfl (oc (SqE.one (hc5 _ (.head _))) (oc (SqE.one (hc5 _ (.tail _ (.head _)))) (oc (SqE.one (hc5 _ (.tail _ (.tail _ (.head _))))) on0))))))))))),
  .v (.bool true)]) (fun q46 L => L.set 6 (ob ((q1 2).blk 0) #[.int .i64 r, .int .i64 s, .int .i64 n, .int .i64 m, .int .i64 c, .int .i64 mode, v6, v7, v8] 82)) OW ?_
 clear OW; intro q46 _ Wq46 OW; simp only [↓pc, ↓pn, vE, Hint.val, Act.put, eL]
 gi_wp2
 exact leafE HS HH OW [.s ([.int .i64 r, .int .i64 s, .int .i64 n, .int .i64 m, .int .i64 c, .int .i64 mode, v6, v7, v8]) 6, .t (.bool true)] (.l [] [] [v6, v7, v8]) [0, 1, 2, 3] [] (by (try simp only [dstep_0]); (repeat (first | rw [hB4] | rw [hB9] | rw [hB21] | rw [hB34] | rw [cond_true] | rw [cond_false])); first | rfl | kernel_rfl) (by kernel_rfl) (by simp only [psD, psC, psL, psO]; (try rw [HN.out]); (try simp only [dstep_0]); (repeat (first | rw [hB4] | rw [hB9] | rw [hB21] | rw [hB34] | rw [cond_true] | rw [cond_false])); kernel_rfl)
end Go.Proofs.Ytckhkagkpldoiaa.E
