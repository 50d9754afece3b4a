/- A calm device and the document's, plainly and walked: what a step does. -/
import Derived.Test.YtckhkagkpldoiaaRqA
import Derived.Test.YtckhkagkpldoiaaDvC
import Derived.Test.YtckhkagkpldoiaaDvF
import Derived.WalkKit
import Derived.Sort.CutIn
import Derived.IntWalk
namespace Go.Proofs.Ytckhkagkpldoiaa.E
open Go Go.RowKit Go.Shelf
attribute [local go_sem] Oper.semAt_some
set_option linter.unusedVariables false
set_option linter.unusedSimpArgs false

structure Oq where
  kind : Int
  index : Int
  fault : Fa
  raw : List UInt8
def eOq (o : Oq) : List Value := [.int .i64 o.kind, .int .i64 o.index, .int .i64 o.fault.x0, .int .i64 o.fault.x1, .int .i64 o.fault.x2, .int .i64 o.fault.x3, .int .i64 o.fault.x4, .int .i64 o.fault.x5, .int .i64 o.fault.x6, .int .i64 o.fault.x7] ++ rB 72 o.raw
def zOq : Oq := ⟨0, 0, zFa, zRw⟩
def zeOq : List Value := List.replicate 10 (.int .i64 0) ++ List.replicate 72 (.int .u8 0)
abbrev slOq (v : Value) (xs : List Oq) : Ent := .p (SlE eOq zeOq 105 v xs)
theorem slTOq : SlT Try.prog 103 105 zeOq := SlT.mk' (by kernel_rfl) (by kernel_rfl) rfl
theorem h1Oq : ∀ y, ∀ u ∈ eOq y, u.oneCell' = true := fun y u hu => by
  rcases List.mem_append.1 hu with h | h
  · simp only [List.mem_cons, List.not_mem_nil, or_false] at h
    rcases h with rfl | rfl | rfl | rfl | rfl | rfl | rfl | rfl | rfl | rfl <;> rfl
  · obtain ⟨j, _, hj⟩ := List.mem_flatMap.1 (show u ∈ (List.range 72).flatMap fun j => eB (y.raw.getD j 0) from h)
    rw [List.mem_singleton.1 (show u ∈ [_] from hj)]; rfl
def OqIn (o : Oq) : Prop := o.raw.length = 72 ∧ FaOk o.fault ∧ o.index ≤ 9223372036854775807
def oqsIn (ops : List Oq) : Prop := ∀ o ∈ ops, OqIn o
theorem zOq_in : OqIn zOq := ⟨List.length_replicate, ⟨by decide, by decide⟩, by decide⟩
theorem oqIn_at {ops : List Oq} (h : oqsIn ops) (k : Nat) : OqIn (ops.getD k zOq) := by
  rw [List.getD_eq_getElem?_getD]
  cases hx : ops[k]? with
  | none => exact zOq_in
  | some o => exact h o (List.mem_of_getElem? hx)
structure Vs where
  d : Rs
  g : Rs
  ma : List Int
  l : List Ac
def wrV (V : Dv) (o : Oq) : Dv := putV V o.index o.raw (bif o.kind == 4 then 1 else 0)
def qsV (V : Dv) (o : Oq) : Dv := bif o.kind == 2 then wrV V o else bif o.kind == 4 then wrV V o else bif o.kind == 3 then rdV V o.index else V
def qW (r s n m c : Int) (y : Vs) (o : Oq) : Vs := bif !rhas r s n m c o.index then y else ⟨⟨wrC y.d.cl y.d.co o.index o.raw, y.d.la, rwent_2 y.d.co⟩, ⟨putC y.g.cl o.index o.raw, y.g.la, y.g.co⟩, markT y.ma o.index (o.kind == 4), y.l ++ [⟨true, o.index, rwent_0 y.d.co o.index, rwent_1 y.d.co, 0, false⟩]⟩
def qRd (r s n m c mode : Int) (y : Vs) (o : Oq) : Vs := bif !rhas r s n m c o.index then y else ⟨⟨y.d.cl, y.d.la, rwent_2 y.d.co⟩, y.g, y.ma, y.l ++ [⟨false, o.index, rwent_0 y.d.co o.index, rwent_1 y.d.co, ((expo mode (rdT y.d.cl y.d.la y.d.co mode o.index) (getC y.g.cl (rwent_0 y.d.co o.index)) : Nat) : Int), (!rwent_1 y.d.co) && mkd y.ma (rwent_0 y.d.co o.index)⟩]⟩
def qsY (r s n m c mode : Int) (y : Vs) (o : Oq) : Vs := bif o.kind == 2 then qW r s n m c y o else bif o.kind == 4 then qW r s n m c y o else bif o.kind == 3 then qRd r s n m c mode y o else y
/-- A calm device is the document's. -/
structure QR (V : Dv) (r s n m c mode : Int) (y : Vs) (N : Nat) : Prop where
  rp : RpR V.D r s n m c mode y.d
  la : y.d.la = []
  co : y.d.co = []
  gh : ∀ i, V.ghost i = getC y.g.cl i
  gcl : ∀ e ∈ y.g.cl, e.r.length = 72
  n1 : y.d.cl.length ≤ N
  n2 : y.g.cl.length ≤ N
  n3 : y.ma.length ≤ N
  n4 : y.l.length ≤ N
  n5 : V.l.length ≤ N
  same : ∀ i, V.D.cells i = V.ghost i
  ac : ∀ a ∈ V.l, a.at_ = a.index ∧ a.drop = false ∧ a.expo = 0 ∧ rhas r s n m c a.index = true
section
variable {V : Dv} {r s n m c mode : Int} {y : Vs} {N : Nat}
theorem QR.ok (h : QR V r s n m c mode y N) (hN : N ≤ 100000) : DvOk V := ⟨h.rp.ok, fun k => by rw [h.gh]; exact getC_len h.gcl k, Nat.le_trans h.n5 hN⟩
theorem QR.wk (h : QR V r s n m c mode y N) : QR V r s n m c mode y (N + 1) := ⟨h.rp, h.la, h.co, h.gh, h.gcl, Nat.le_succ_of_le h.n1, Nat.le_succ_of_le h.n2, Nat.le_succ_of_le h.n3, Nat.le_succ_of_le h.n4, Nat.le_succ_of_le h.n5, h.same, h.ac⟩
theorem QR.dco (h : QR V r s n m c mode y N) : V.D.coming = [] := h.rp.co.trans h.co
theorem QR.dla (h : QR V r s n m c mode y N) : V.D.lasts = [] := h.rp.la.trans h.la
theorem QR.noput (h : QR V r s n m c mode y N) {i : Int} (hh : rhas r s n m c i = false) (b : List UInt8) (mz : Int) : vput_0 V i = 12 ∧ putV V i b mz = V := by
  have hg := h.rp.gat i
  rw [hh] at hg
  have e : dWrite_2 V.D i = 12 := by unfold dWrite_2; rw [hg]; rfl
  have e2 : wrD V.D i b = V.D := by unfold wrD; rw [hg]; rfl
  unfold vput_0 putV
  rw [e, e2]
  exact ⟨rfl, rfl⟩
theorem QR.put (h : QR V r s n m c mode y N) {i : Int} (hh : rhas r s n m c i = true) (b : List UInt8) (mz : Int) : vput_0 V i = 0 ∧ putV V i b mz = { V with D := { V.D with cells := upI V.D.cells i b }, ghost := upI V.ghost i b, marks := upI V.marks i mz, l := V.l ++ [⟨true, i, i, false, 0, false⟩] } := by
  have hg := h.rp.gat i
  rw [hh] at hg
  obtain ⟨h1, h2⟩ := wr_at h.dco hg b
  obtain ⟨h3, h4, h5⟩ := went_none h.dco
  have e0 : dWrite_0 V.D i = i := by unfold dWrite_0; rw [hg]; exact h5 i
  have e1 : dWrite_1 V.D i = false := by unfold dWrite_1; rw [hg]; exact h4
  unfold vput_0 putV
  rw [h2, h1, e0, e1]
  exact ⟨rfl, rfl⟩
theorem mark_len (mk : List Int) (i : Int) (on : Bool) : (markT mk i on).length ≤ mk.length + 1 := by
  have := markL_len mk i mk.length
  unfold markT
  cases on
  · exact Nat.le_succ_of_le this
  · show (markL mk i mk.length ++ [i]).length ≤ _
    simp; omega
theorem upI_same {f g : Int → List UInt8} (h : ∀ i, f i = g i) (j : Int) (b : List UInt8) (i : Int) : upI f j b i = upI g j b i := by
  unfold upI
  split
  · rfl
  · exact h i
theorem QR.write (h : QR V r s n m c mode y N) {o : Oq} (ho : OqIn o) : QR (wrV V o) r s n m c mode (qW r s n m c y o) (N + 1) := by
  unfold wrV qW
  cases hh : rhas r s n m c o.index
  · rw [(h.noput hh o.raw _).2]
    exact h.wk
  · rw [(h.put hh o.raw _).2]
    have hp := h.rp.put o.index ho.1
    show QR _ r s n m c mode ⟨⟨wrC y.d.cl y.d.co o.index o.raw, y.d.la, rwent_2 y.d.co⟩, _, _, _⟩ (N + 1)
    rw [h.co]
    refine ⟨⟨hp.ok, hp.g0, hp.g1, hp.g2, hp.g3, hp.g4, hp.md, hp.la, h.dco, hp.ce, hp.cl, fun f hf => by simp [rwent_2] at hf⟩, h.la, rfl, fun j => ?_, putC_all ho.1 h.gcl, ?_, ?_, ?_, ?_, ?_, fun j => upI_same h.same _ _ _, fun a ha => ?_⟩
    · show upI V.ghost o.index o.raw j = getC (putC y.g.cl o.index o.raw) j
      rw [putC_get]
      unfold upI
      by_cases hj : j = o.index
      · rw [if_pos hj, hj, beq_self_eq_true]; rfl
      · rw [if_neg hj, h.gh, show (o.index == j) = false from beq_false_of_ne fun e => hj e.symm]; rfl
    · exact Nat.le_trans (putC_len _ _ _) (Nat.succ_le_succ h.n1)
    · exact Nat.le_trans (putC_len _ _ _) (Nat.succ_le_succ h.n2)
    · exact Nat.le_trans (mark_len _ _ _) (Nat.succ_le_succ h.n3)
    · show (y.l ++ [_]).length ≤ _
      have := h.n4; simp; omega
    · show (V.l ++ [_]).length ≤ _
      have := h.n5; simp; omega
    · rcases List.mem_append.1 ha with ha | ha
      · exact h.ac a ha
      · rw [List.mem_singleton.1 ha]
        exact ⟨rfl, rfl, rfl, hh⟩
theorem QR.rd (h : QR V r s n m c mode y N) (i : Int) : (rhas r s n m c i = false → vRead_1 V i = 12 ∧ vRead_0 V i = List.replicate 72 0 ∧ rdV V i = V) ∧
    (rhas r s n m c i = true → vRead_1 V i = 0 ∧ vRead_0 V i = rdT y.d.cl y.d.la y.d.co mode i ∧ ∃ z, rdV V i = { V with l := V.l ++ [⟨false, i, i, false, ((expo mode (V.D.cells i) (V.ghost i) : Nat) : Int), z⟩] }) := by
  have hg := h.rp.gat i
  refine ⟨fun hh => ?_, fun hh => ?_⟩
  · rw [hh] at hg
    have e : dRead_3 V.D i = 12 := by unfold dRead_3; rw [hg]; rfl
    have e2 : rdD V.D i = V.D := by unfold rdD; rw [hg]; rfl
    unfold vRead_1 vRead_0 rdV
    rw [e, e2]
    exact ⟨rfl, rfl, rfl⟩
  · rw [hh] at hg
    obtain ⟨h1, h2, h3, h4⟩ := rd_at h.dco hg
    rw [h.dla] at h1
    have h1 : dRead_0 V.D i = V.D.cells i := h1
    have e : rdD V.D i = V.D := by unfold rdD; rw [hg]; exact (went_none h.dco).1
    unfold vRead_1 vRead_0 rdV rdT
    rw [h4, e, h1, h2, h3, h.rp.md, h.co, h.la, h.rp.ce]
    exact ⟨rfl, rfl, _, rfl⟩
theorem QR.read (h : QR V r s n m c mode y N) (hm : mode = 1 ∨ mode = 2) (o : Oq) : QR (rdV V o.index) r s n m c mode (qRd r s n m c mode y o) (N + 1) := by
  unfold qRd
  obtain ⟨h1, h2⟩ := h.rd o.index
  cases hh : rhas r s n m c o.index
  · rw [(h1 hh).2.2]
    exact h.wk
  · obtain ⟨_, _, z, e⟩ := h2 hh
    rw [e]
    show QR _ r s n m c mode ⟨⟨y.d.cl, y.d.la, rwent_2 y.d.co⟩, y.g, y.ma, _⟩ (N + 1)
    have hr : (⟨y.d.cl, y.d.la, rwent_2 y.d.co⟩ : Rs) = y.d := by rw [h.co]; show (⟨y.d.cl, y.d.la, []⟩ : Rs) = y.d; rw [← h.co]
    rw [hr]
    refine ⟨h.rp, h.la, h.co, h.gh, h.gcl, Nat.le_succ_of_le h.n1, Nat.le_succ_of_le h.n2, Nat.le_succ_of_le h.n3, ?_, ?_, h.same, fun a ha => ?_⟩
    · show (y.l ++ [_]).length ≤ _
      have := h.n4; simp; omega
    · show (V.l ++ [_]).length ≤ _
      have := h.n5; simp; omega
    · rcases List.mem_append.1 ha with ha | ha
      · exact h.ac a ha
      · rw [List.mem_singleton.1 ha]
        refine ⟨rfl, rfl, ?_, hh⟩
        show ((expo mode (V.D.cells o.index) (V.ghost o.index) : Nat) : Int) = 0
        rw [← h.same, (expo_zero hm (h.rp.ok.cl _) (h.rp.ok.cl _)).2 rfl]; rfl
theorem QR.step (h : QR V r s n m c mode y N) (hm : mode = 1 ∨ mode = 2) {o : Oq} (ho : OqIn o) : QR (qsV V o) r s n m c mode (qsY r s n m c mode y o) (N + 1) := by
  unfold qsV qsY
  cases o.kind == 2
  · cases o.kind == 4
    · cases o.kind == 3
      · exact h.wk
      · exact h.read hm o
    · exact h.write ho
  · exact h.write ho
end
/-- Both, behind k steps. -/
def qV (V : Dv) (ops : List Oq) : Nat → Dv
  | 0 => V
  | k + 1 => qsV (qV V ops k) (ops.getD k zOq)
def qY (r s n m c mode : Int) (y : Vs) (ops : List Oq) : Nat → Vs
  | 0 => y
  | k + 1 => qsY r s n m c mode (qY r s n m c mode y ops k) (ops.getD k zOq)
theorem QR.play {V : Dv} {r s n m c mode : Int} {y : Vs} (h : QR V r s n m c mode y 0) (hm : mode = 1 ∨ mode = 2) {ops : List Oq} (ho : oqsIn ops) : ∀ k, QR (qV V ops k) r s n m c mode (qY r s n m c mode y ops k) k
  | 0 => h
  | k + 1 => (h.play hm ho k).step hm (oqIn_at ho k)
def Vs0 : Vs := ⟨⟨[], [], []⟩, ⟨[], [], []⟩, [], []⟩
theorem Vs0_qr (r s n m c mode : Int) : QR (V0 r s n m c mode) r s n m c mode Vs0 0 := ⟨D0_rp r s n m c mode, rfl, rfl, fun _ => rfl, fun e he => by simp [Vs0] at he, Nat.le_refl _, Nat.le_refl _, Nat.le_refl _, Nat.le_refl _, Nat.le_refl _, fun _ => rfl, fun a ha => by simp [V0] at ha⟩
/-- What would be read is the ghost's. -/
theorem QR.lk {V : Dv} {r s n m c mode : Int} {y : Vs} {N : Nat} (h : QR V r s n m c mode y N) {i : Int} (hh : rhas r s n m c i = true) : dLook_1 V.D i = 0 ∧ dLook_0 V.D i = V.ghost i := by
  have hg := h.rp.gat i
  rw [hh] at hg
  obtain ⟨h1, h2⟩ := look_at hg
  rw [h.dla] at h1
  exact ⟨h2, h1.trans (h.same i)⟩
attribute [local irreducible] putV vput_0
set_option maxRecDepth 100000 in
set_option maxHeartbeats 1000000 in
theorem qwr (g : Nat) (V : Dv) (o : Oq) (hV : DvOk V) (lo : o.raw.length = 72) : Con Try.prog 90 #[.pointer (some ⟨g, 0, none⟩), .agg (([.int .i64 o.kind, .int .i64 o.index, .int .i64 o.fault.x0, .int .i64 o.fault.x1, .int .i64 o.fault.x2, .int .i64 o.fault.x3, .int .i64 o.fault.x4, .int .i64 o.fault.x5, .int .i64 o.fault.x6, .int .i64 o.fault.x7] : List Value) ++ rB 72 o.raw).toArray] [.p (PkE (DevS g V))] [0] (fun _ => [.p (PkE (DevS g (wrV V o)))]) (fun _ => .int .i64 (vput_0 V o.index)) := by
 refine Con.of (enters_of Try.func90 (by kernel_rfl) rfl) fun w cs HS HH OW => ?_
 refine (callsIn_wide (n := 6)).1 ?_
 refine callsIn_of_wp_marks Try.func90 rfl trivial ?_ rfl
 simp only [Try.ntmps90, eF, Nat.reduceAdd, Nat.reduceSub]
 gi_upto_region 0 with fail
 refine rg (fun q1 => [.m (bx 1),
  .v (.int .i64 0)]) (fun q1 L => L ++ [ob ((q1 0).blk 0) (([.int .i64 o.kind, .int .i64 o.index, .int .i64 o.fault.x0, .int .i64 o.fault.x1, .int .i64 o.fault.x2, .int .i64 o.fault.x3, .int .i64 o.fault.x4, .int .i64 o.fault.x5, .int .i64 o.fault.x6, .int .i64 o.fault.x7] : List Value) ++ rB 72 o.raw).toArray 105]) OW ?_
 clear OW; intro q1 _ Wq1 OW; simp only [↓pc, ↓pn, vE, Hint.val, Act.put, eL]
 gi_upto_region 1 with fail
 refine rg (fun q2 => [.v (.pointer (some ⟨(q1 0).blk 0, 0, none⟩)),
  .m (ld 1 (.int .i64 o.kind)),
  .v (.bool (o.kind == 4))]) (fun _ L => L) OW ?_
 clear OW; intro q2 _ Wq2 OW; simp only [↓pc, ↓pn, vE, Hint.val, Act.put, eL]
 cases hB3 : (o.kind == 4)
 case true =>
  have dhB3 := Lib.hid (eq_of_beq hB3)
  gi_upto_region 2 with fail
  refine rg (fun q4 => [.v (.pointer (some ⟨g, 0, none⟩)),
   .v (.pointer (some ⟨(q1 0).blk 0, 1, none⟩)),
   .m (ld 1 (.int .i64 o.index)),
   .v (.pointer (some ⟨(q1 0).blk 0, 10, none⟩)),
   .m (ls 1 (rB 72 o.raw)),
   .c [0] [0] (vMark g V o.index o.raw (by first | rfl | (simp only [List.length_set, List.length_append, List.length_replicate, List.length_cons, List.length_nil, List.length_map, List.length_range, List.length_take, List.length_drop, lo]; done) | (simp only [List.length_set, List.length_append, List.length_replicate, List.length_cons, List.length_nil, List.length_map, List.length_range, List.length_take, List.length_drop, lo]; omega)) hV),
   .v (.int .i64 (vput_0 V o.index))]) (fun q4 L => L.set 0 (.p (PkE (DevS g (putV V o.index o.raw 1))))) OW ?_
  clear OW; intro q4 _ Wq4 OW; simp only [↓pc, ↓pn, vE, Hint.val, Act.put, eL]
  gi_wp2
  exact leafE HS HH OW [.t (.int .i64 (vput_0 V o.index))] Env.zero [0] [] rfl (by kernel_rfl) (by simp only [wrV]; (repeat (first | rw [hB3] | rw [cond_true] | rw [cond_false])); kernel_rfl)
 have dhB3 := ne_of_beq_false hB3
 gi_upto_region 3 with fail
 refine rg (fun q5 => [.v (.pointer (some ⟨g, 0, none⟩)),
  .v (.pointer (some ⟨(q1 0).blk 0, 1, none⟩)),
  .m (ld 1 (.int .i64 o.index)),
  .v (.pointer (some ⟨(q1 0).blk 0, 10, none⟩)),
  .m (ls 1 (rB 72 o.raw)),
  .c [0] [0] (vWrite g V o.index o.raw (by first | rfl | (simp only [List.length_set, List.length_append, List.length_replicate, List.length_cons, List.length_nil, List.length_map, List.length_range, List.length_take, List.length_drop, lo]; done) | (simp only [List.length_set, List.length_append, List.length_replicate, List.length_cons, List.length_nil, List.length_map, List.length_range, List.length_take, List.length_drop, lo]; omega)) hV),
  .v (.int .i64 (vput_0 V o.index))]) (fun q5 L => L.set 0 (.p (PkE (DevS g (putV V o.index o.raw 0))))) OW ?_
 clear OW; intro q5 _ Wq5 OW; simp only [↓pc, ↓pn, vE, Hint.val, Act.put, eL]
 gi_wp2
 exact leafE HS HH OW [.t (.int .i64 (vput_0 V o.index))] Env.zero [0] [] rfl (by kernel_rfl) (by simp only [wrV]; (repeat (first | rw [hB3] | rw [cond_true] | rw [cond_false])); kernel_rfl)
set_option maxRecDepth 100000 in
set_option maxHeartbeats 1000000 in
theorem qastray (a : Ac) : Con Try.prog 58 #[.agg #[.bool a.wr, .int .i64 a.index, .int .i64 a.at_, .bool a.drop, .int .i64 a.expo, .bool a.mark]] [] [] (fun _ => []) (fun _ => .bool (a.drop || (a.at_ != a.index))) := by
 refine Con.of (enters_of Try.func58 (by kernel_rfl) rfl) fun w cs HS HH OW => ?_
 refine (callsIn_wide (n := 6)).1 ?_
 refine callsIn_of_wp_marks Try.func58 rfl trivial ?_ rfl
 simp only [Try.ntmps58, eF, Nat.reduceAdd, Nat.reduceSub]
 gi_upto_region 0 with fail
 refine rg (fun q1 => [.m (bx 0),
  .v (.bool false)]) (fun q1 L => L ++ [ob ((q1 0).blk 0) #[.bool a.wr, .int .i64 a.index, .int .i64 a.at_, .bool a.drop, .int .i64 a.expo, .bool a.mark] 101]) OW ?_
 clear OW; intro q1 _ Wq1 OW; simp only [↓pc, ↓pn, vE, Hint.val, Act.put, eL]
 gi_upto_region 1 with fail
 refine rg (fun q2 => [.v (.pointer (some ⟨(q1 0).blk 0, 2, none⟩)),
  .v (.pointer (some ⟨(q1 0).blk 0, 3, none⟩)),
  .m (ld 0 (.bool a.drop)),
  .v (.bool a.drop),
  .v (.pointer (some ⟨(q1 0).blk 0, 2, none⟩)),
  .v (.pointer (some ⟨(q1 0).blk 0, 2, none⟩)),
  .m (ld 0 (.int .i64 a.at_)),
  .v (.pointer (some ⟨(q1 0).blk 0, 1, none⟩)),
  .m (ld 0 (.int .i64 a.index)),
  .v (.bool (a.at_ != a.index)),
  .k (.bool (a.drop || (a.at_ != a.index))),
  .v (.bool (a.drop || (a.at_ != a.index)))]) (fun _ L => L) OW ?_
 clear OW; intro q2 _ Wq2 OW; simp only [↓pc, ↓pn, vE, Hint.val, Act.put, eL]
 gi_wp2
 exact leafE HS HH OW [.t (.bool (a.drop || (a.at_ != a.index)))] Env.zero [] [] rfl
set_option maxRecDepth 100000 in
set_option maxHeartbeats 1000000 in
theorem qdram (g dg gm gk : Nat) (v : Value) : Con Try.prog 59 #[.pointer (some ⟨g, 0, none⟩)] [ob g #[.pointer (some ⟨dg, 0, none⟩), .map (some gm), .map (some gk), v] 141] [] (fun _ => []) (fun _ => .pointer (some ⟨dg, 0, none⟩)) := by
 refine Con.of (enters_of Try.func59 (by kernel_rfl) rfl) fun w cs HS HH OW => ?_
 refine (callsIn_wide (n := 6)).1 ?_
 refine callsIn_of_wp_marks Try.func59 rfl trivial ?_ rfl
 simp only [Try.ntmps59, eF, Nat.reduceAdd, Nat.reduceSub]
 gi_upto_region 0 with fail
 refine rg (fun q1 => [.v (.pointer none)]) (fun _ L => L) OW ?_
 clear OW; intro q1 _ Wq1 OW; simp only [↓pc, ↓pn, vE, Hint.val, Act.put, eL]
 gi_upto_region 1 with fail
 refine rg (fun q2 => [.v (.pointer (some ⟨g, 0, none⟩)),
  .v (.pointer (some ⟨g, 0, none⟩)),
  .v (.pointer (some ⟨g, 0, none⟩)),
  .m (ld 0 (.pointer (some ⟨dg, 0, none⟩))),
  .v (.pointer (some ⟨dg, 0, none⟩))]) (fun _ L => L) OW ?_
 clear OW; intro q2 _ Wq2 OW; simp only [↓pc, ↓pn, vE, Hint.val, Act.put, eL]
 gi_wp2
 exact leafE HS HH OW [.t (.pointer (some ⟨dg, 0, none⟩))] Env.zero [] [(0, 0)] rfl
set_option maxRecDepth 100000 in
set_option maxHeartbeats 1000000 in
theorem qghostO (g gk dg gm : Nat) (v : Value) (f : Int → List UInt8) (i : Int) (bk : Objs) (hk : MpE mRw zRw f gm bk) : Con Try.prog 55 #[.pointer (some ⟨g, 0, none⟩), .int .i64 i] [ob g #[.pointer (some ⟨dg, 0, none⟩), .map (some gm), .map (some gk), v] 141, .c bk] [] (fun _ => []) (fun _ => .agg (rB 72 (f i)).toArray) := by
 refine Con.of (enters_of Try.func55 (by kernel_rfl) rfl) fun w cs HS HH OW => ?_
 refine (callsIn_wide (n := 6)).1 ?_
 refine callsIn_of_wp_marks Try.func55 rfl trivial ?_ rfl
 simp only [Try.ntmps55, eF, Nat.reduceAdd, Nat.reduceSub]
 gi_upto_region 0 with fail
 refine rg (fun q1 => [.m (al 2)]) (fun q1 L => L ++ [ob ((q1 0).blk 0) (rB 72 (List.replicate 72 0)).toArray 41]) OW ?_
 clear OW; intro q1 _ Wq1 OW; simp only [↓pc, ↓pn, vE, Hint.val, Act.put, eL]
 gi_upto_region 1 with fail
 refine rg (fun q2 => [.v (.pointer (some ⟨g, 0, none⟩)),
  .v (.pointer (some ⟨g, 0, none⟩)),
  .v (.pointer (some ⟨g, 1, none⟩)),
  .m (ld 0 (.map (some gm))),
  .v (.int .i64 i),
  .m (mg 1 (.c bk) gm i (cP hk)),
  .m (ss 2)]) (fun q2 L => L.set 2 (ob ((q1 0).blk 0) (rB 72 (f i)).toArray 41)) OW ?_
 clear OW; intro q2 _ Wq2 OW; simp only [↓pc, ↓pn, vE, Hint.val, Act.put, eL]
 gi_wp2
 exact leafE HS HH OW [.s (rB 72 (f i)) 2] Env.zero [] [(0, 0), (1, 1)] rfl
theorem qghostP (g gk dg gm : Nat) (v : Value) (f : Int → List UInt8) (i : Int) : Con Try.prog 55 #[.pointer (some ⟨g, 0, none⟩), .int .i64 i] [ob g #[.pointer (some ⟨dg, 0, none⟩), .map (some gm), .map (some gk), v] 141, mpRw f gm] [] (fun _ => []) (fun _ => .agg (rB 72 (f i)).toArray) :=
  Con.ro 1 rfl (fun bs h => qghostO g gk dg gm v f i bs h) (enters_of Try.func55 (by kernel_rfl) rfl)
end Go.Proofs.Ytckhkagkpldoiaa.E
