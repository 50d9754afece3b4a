/- The codec: its parts' contracts; decoding a word; a new codec. -/
import Derived.Test.YtkeheickaogpiaaCdC
import Derived.Test.YtkeheickaogpiaaHsA
import Derived.Test.YtkeheickaogpiaaRsR
import Derived.WalkKit
import Derived.Sort.CutIn
import Derived.IntWalk
namespace Go.Proofs.Ytkeheickaogpiaa
open Go Go.RowKit Go.Shelf
attribute [local go_sem] Oper.semAt_some
set_option linter.unusedVariables false
set_option linter.unusedSimpArgs false


/-- What the words' code tells. -/
def hck (d : Nat) (a p : Int) : UInt8 := UInt8.ofNat (Hs.chk d (Hs.low a) (Hs.low p))
def hsS (d : Nat) (k : UInt8) (a : Int) : Nat := Hs.chk d (Hs.low a) 0 ^^^ k.toNat
def hsD (d : Nat) (k : UInt8) (a : Int) : Nat := Hs.decD d (Hs.verdict (hsS d k a))
def hsK (d : Nat) (k : UInt8) (a : Int) : Nat := (Hs.verdict (hsS d k a)).1
def hsP (d : Nat) (k : UInt8) (a : Int) : Int := (Hs.verdict (hsS d k a)).2
theorem hck_nat (d : Nat) (a p : Int) : (hck d a p).toNat = Hs.chk d (Hs.low a) (Hs.low p) := by
  unfold hck
  rw [UInt8.toNat_ofNat']
  exact Nat.mod_eq_of_lt (Hs.chk_lt _ _ _)
abbrev hsN : Array Value := Hs.codeCells (Hs.hC 10)
theorem hcheck_any (g d : Nat) (ld : d < 18446744073709551616) (a p : Int) (w : World) (H : Has [(g, Obj.cells hsN 102 (0, 0))] w) :
    Calls Try.prog 27 #[.pointer (some ⟨g, 0, none⟩), .int .u64 (d : Int), .int .i64 a, .int .i64 p] w fun e w' => e = .returned (.int .u8 ((hck d a p).toNat : Int)) ∧ Below w.heap.size w w' := by
  rw [hck_nat]
  exact Hs.check_any g d ld a p w (H.obj (g, _) (by simp))
theorem hdecode_any (g d : Nat) (k : UInt8) (ld : d < 18446744073709551616) (a : Int) (w : World) (H : Has [(g, Obj.cells hsN 102 (0, 0))] w) :
    Calls Try.prog 82 #[.pointer (some ⟨g, 0, none⟩), .int .u64 (d : Int), .int .u8 (k.toNat : Int), .int .i64 a] w fun e w' => e = .returned (.tuple #[.int .u64 (hsD d k a : Int), .int .i64 (hsK d k a : Int), .int .i64 (hsP d k a)]) ∧ Below w.heap.size w w' :=
  Hs.decode_any g d k.toNat ld k.toNat_lt a w (H.obj (g, _) (by simp))
theorem hnew_any (w : World) : Calls Try.prog 46 #[] w fun e w' => ∃ E : Env, e = .returned (.pointer (some ⟨E.blk 0, 0, none⟩)) ∧ Step [] [(E.blk 0, Obj.cells hsN 102 (0, 0))] w w' := by
  refine (Hs.new_any w).mono ?_
  rintro e w' ⟨rfl, h1, h2⟩
  refine ⟨⟨fun _ => w.heap.size, fun _ => [], fun _ => 0⟩, rfl, h2.os, h2.tape, h2.output, h2.size, ?_, ?_, List.pairwise_singleton _ _, fun b hb _ => h2.block b hb⟩
  · intro x hx
    obtain rfl := List.mem_singleton.1 hx
    exact h1
  · intro x hx
    obtain rfl := List.mem_singleton.1 hx
    exact .inr (Nat.le_refl _)
theorem gnew_any (w : World) : Calls Try.prog 48 #[] w fun e w' => ∃ E : Env, e = .returned (.pointer (some ⟨E.blk 0, 0, none⟩)) ∧ Step [] [(E.blk 0, Obj.cells fieldCells 137 (0, 0))] w w' := by
  refine (new_any w).mono ?_
  rintro e w' ⟨rfl, rfl⟩
  exact ⟨⟨fun _ => w.heap.size, fun _ => [], fun _ => 0⟩, rfl, Step.alloc w _⟩
theorem rsnew_any (fb : Nat) (w : World) (H : Has [(fb, Obj.cells fieldCells 137 (0, 0))] w) : Calls Try.prog 47 #[.pointer (some ⟨fb, 0, none⟩)] w fun e w' => ∃ E : Env, e = .returned (.pointer (some ⟨E.blk 0, 0, none⟩)) ∧
    Step [] [(E.blk 0, Obj.cells #[.pointer (some ⟨fb, 0, none⟩), .slice (some ⟨E.blk 1, 0, none⟩) 5 (5 + (E.rest 0).length)] 109 (0, 0)), (E.blk 1, Obj.cells (rowV genL (E.rest 0)) 5 (0, 0))] w w' := by
  refine (rsNew_own fb w (H.obj (fb, _) (by simp))).mono ?_
  rintro e w' ⟨cb, gb, rest, rfl, h⟩
  have h2 := Step.ofOwn h
  refine ⟨⟨fun k => ([cb, gb] : List Nat).getD k 0, fun _ => rest, fun _ => 0⟩, rfl, h2.os, h2.tape, h2.output, h2.size, ?_, ?_, ?_, h2.far⟩
  · intro x hx
    refine h2.obj x ?_
    simp only [List.mem_cons, List.not_mem_nil, or_false] at hx ⊢
    exact hx.symm
  · intro x hx
    refine h2.new x ?_
    simp only [List.mem_cons, List.not_mem_nil, or_false] at hx ⊢
    exact hx.symm
  · have := h2.nd
    simp only [List.pairwise_cons, List.mem_singleton, forall_eq, List.not_mem_nil, false_implies, implies_true, List.Pairwise.nil, and_true] at this ⊢
    exact Ne.symm this
theorem rsAt {fb gb cb : Nat} {rest : List Value} {w : World} (H : Has [(cb, Obj.cells #[.pointer (some ⟨fb, 0, none⟩), .slice (some ⟨gb, 0, none⟩) 5 (5 + rest.length)] 109 (0, 0)), (fb, Obj.cells fieldCells 137 (0, 0)), (gb, Obj.cells (rowV genL rest) 5 (0, 0))] w) : CodeAt w cb fb := by
  have ho : Own 0 w [(fb, Obj.cells fieldCells 137 (0, 0)), (gb, Obj.cells (rowV genL rest) 5 (0, 0)), (cb, Obj.cells #[.pointer (some ⟨fb, 0, none⟩), .slice (some ⟨gb, 0, none⟩) 5 (5 + rest.length)] 109 (0, 0))] w := by
    have hn := H.nd
    simp only [List.pairwise_cons, List.mem_cons, List.not_mem_nil, or_false, forall_eq_or_imp, forall_eq, false_implies, implies_true, List.Pairwise.nil, and_true] at hn
    refine ⟨fun x hx => H.obj x ?_, ?_, fun _ _ => Nat.zero_le _, rfl, rfl, rfl, Nat.le_refl _, fun _ _ _ => rfl⟩
    · simp only [List.mem_cons, List.not_mem_nil, or_false] at hx ⊢
      rcases hx with h | h | h
      · exact .inr (.inl h)
      · exact .inr (.inr h)
      · exact .inl h
    · simp only [List.pairwise_cons, List.mem_cons, List.not_mem_nil, or_false, forall_eq_or_imp, forall_eq, false_implies, implies_true, List.Pairwise.nil, and_true]
      exact ⟨⟨hn.2, Ne.symm hn.1.1⟩, Ne.symm hn.1.2⟩
  exact CodeAt.mk3 (k := 0) ho rfl rfl rfl
theorem rchecks_any (cb fb gb : Nat) (rest : List Value) (d v : List UInt8) (hd : d.length = 32) (hv : v.length = 3) (w : World) (H : Has [(cb, Obj.cells #[.pointer (some ⟨fb, 0, none⟩), .slice (some ⟨gb, 0, none⟩) 5 (5 + rest.length)] 109 (0, 0)), (fb, Obj.cells fieldCells 137 (0, 0)), (gb, Obj.cells (rowV genL rest) 5 (0, 0))] w) :
    Calls Try.prog 31 #[.pointer (some ⟨cb, 0, none⟩), .agg (rB 32 d).toArray, .agg (rB 3 v).toArray] w fun e w' => e = .returned (.agg (rB 4 (chkL d v)).toArray) ∧ Below w.heap.size w w' := by
  rw [rB_raw hd, rB_raw hv, rB_raw (chkL_len d v)]
  exact checks_any cb fb d v hd hv w (rsAt H)
theorem decL_len {d v : List UInt8} (hd : d.length = 36) : (decL d v).length = 32 := by
  unfold decL
  cases ((locF (co (synL d v))).kind : Int) == 1 <;> simp [hd]
/-- What the chips' code tells. -/
def rsK (d v : List UInt8) : Nat := (locF (co (synL d v))).kind
def rsP (d v : List UInt8) : Int := (locF (co (synL d v))).place
def rsA (d v : List UInt8) : UInt8 := (locF (co (synL d v))).val
theorem rdecode_any (cb fb gb : Nat) (rest : List Value) (d v : List UInt8) (hd : d.length = 36) (hv : v.length = 3) (w : World) (H : Has [(cb, Obj.cells #[.pointer (some ⟨fb, 0, none⟩), .slice (some ⟨gb, 0, none⟩) 5 (5 + rest.length)] 109 (0, 0)), (fb, Obj.cells fieldCells 137 (0, 0)), (gb, Obj.cells (rowV genL rest) 5 (0, 0))] w) :
    Calls Try.prog 84 #[.pointer (some ⟨cb, 0, none⟩), .agg (rB 36 d).toArray, .agg (rB 3 v).toArray] w fun e w' => e = .returned (.tuple #[.agg (rB 32 (decL d v)).toArray, .agg #[.int .i64 (rsK d v : Int), .int .i64 (rsP d v), .int .u8 ((rsA d v).toNat : Int)]]) ∧ Below w.heap.size w w' := by
  rw [rB_raw hd, rB_raw hv, rB_raw (decL_len hd)]
  exact decode_any cb fb d v hd hv w (rsAt H)
set_option maxRecDepth 100000 in
set_option maxHeartbeats 1000000 in
theorem dnew_any  (w : World) (H : Has [] w) : Calls Try.prog 22 #[] w fun e w' => ∃ E : Env, e = .returned (.pointer (some ⟨E.blk 0, 0, none⟩)) ∧ Step [] [(E.blk 0, Obj.cells #[.pointer (some ⟨E.blk 1, 0, none⟩), .pointer (some ⟨E.blk 2, 0, none⟩)] 61 (0, 0)), (E.blk 1, Obj.cells hsN 102 (0, 0)), (E.blk 2, Obj.cells #[.pointer (some ⟨E.blk 3, 0, none⟩), .slice (some ⟨E.blk 4, 0, none⟩) 5 (5 + (E.rest 0).length)] 109 (0, 0)), (E.blk 3, Obj.cells fieldCells 137 (0, 0)), (E.blk 4, Obj.cells (rowV genL (E.rest 0)) 5 (0, 0))] w w' := by
  have OW : Hid (OwnS [] w [] w) := Lib.hid (OwnS.start H)
  refine (callsIn_wide (n := 6)).1 ?_
  refine callsIn_of_wp_marks Try.func22 rfl trivial ?_ rfl
  simp only [Try.ntmps22, List.size_toArray, List.length_cons, List.length_nil, Nat.reduceAdd, Nat.reduceSub, Array.replicate_succ, Array.replicate_zero, List.push_toArray, List.append_toArray, List.nil_append, List.cons_append]
  gi_upto_region 0 with fail
  refine wpIn_region_re 0 (fun ηq1 => [.pv (.pointer none)])
    (fun ηq1 L => L) (by kernel_rfl) OW (fun _ => by kernel_rfl) ?_
  clear OW; intro ηq1 ysq1 Wq1 OW
  simp only [↓putE_cons, ↓putE_nil, valE, Hint.val, Act.put, List.setIfInBounds_toArray, List.set_cons_succ, List.set_cons_zero]
  gi_upto_region 1 with fail
  refine wpIn_region_re 5 (fun ηq2 => [.cl 46 #[] (fun E => .pointer (some ⟨E.blk 0, 0, none⟩)) [] [] (fun E => [(0, (E.blk 0, Obj.cells hsN 102 (0, 0)))]) (enters_of Try.func46 (by kernel_rfl) rfl) (fun w' H => callsIn_wide.2 (hnew_any w')),
      .cl 48 #[] (fun E => .pointer (some ⟨E.blk 0, 0, none⟩)) [] [] (fun E => [(1, (E.blk 0, Obj.cells fieldCells 137 (0, 0)))]) (enters_of Try.func48 (by kernel_rfl) rfl) (fun w' H => callsIn_wide.2 (gnew_any w')),
      .cl 47 #[.pointer (some ⟨(ηq2 1).blk 0, 0, none⟩)] (fun E => .pointer (some ⟨E.blk 0, 0, none⟩)) [(1, ((ηq2 1).blk 0, Obj.cells fieldCells 137 (0, 0)))] [] (fun E => [(2, (E.blk 0, Obj.cells #[.pointer (some ⟨(ηq2 1).blk 0, 0, none⟩), .slice (some ⟨E.blk 1, 0, none⟩) 5 (5 + (E.rest 0).length)] 109 (0, 0))), (3, (E.blk 1, Obj.cells (rowV genL (E.rest 0)) 5 (0, 0)))]) (enters_of Try.func47 (by kernel_rfl) rfl) (fun w' H => callsIn_wide.2 (rsnew_any ((ηq2 1).blk 0) w' H)),
      .pv (.agg #[.pointer (some ⟨(ηq2 0).blk 0, 0, none⟩), .pointer (some ⟨(ηq2 2).blk 0, 0, none⟩)]),
      .bx 4 61 (.agg #[.pointer (some ⟨(ηq2 0).blk 0, 0, none⟩), .pointer (some ⟨(ηq2 2).blk 0, 0, none⟩)]),
      .pv (.pointer (some ⟨(ηq2 4).blk 0, 0, none⟩))])
    (fun ηq2 L => L ++ [((ηq2 0).blk 0, Obj.cells hsN 102 (0, 0)), ((ηq2 1).blk 0, Obj.cells fieldCells 137 (0, 0)), ((ηq2 2).blk 0, Obj.cells #[.pointer (some ⟨(ηq2 1).blk 0, 0, none⟩), .slice (some ⟨(ηq2 2).blk 1, 0, none⟩) 5 (5 + ((ηq2 2).rest 0).length)] 109 (0, 0)), ((ηq2 2).blk 1, Obj.cells (rowV genL ((ηq2 2).rest 0)) 5 (0, 0)), ((ηq2 4).blk 0, Obj.cells #[.pointer (some ⟨(ηq2 0).blk 0, 0, none⟩), .pointer (some ⟨(ηq2 2).blk 0, 0, none⟩)] 61 (0, 0))]) (by kernel_rfl) OW (fun _ => by kernel_rfl) ?_
  clear OW; intro ηq2 ysq2 Wq2 OW
  simp only [↓putE_cons, ↓putE_nil, valE, Hint.val, Act.put, List.setIfInBounds_toArray, List.set_cons_succ, List.set_cons_zero]
  gi_wp2
  exact leavesS OW [.t (.pointer (some ⟨(ηq2 4).blk 0, 0, none⟩))] (by kernel_rfl) fun hO => ⟨⟨fun k => ([(ηq2 4).blk 0, (ηq2 0).blk 0, (ηq2 2).blk 0, (ηq2 1).blk 0, (ηq2 2).blk 1] : List Nat).getD k 0, fun k => ([(ηq2 2).rest 0] : List (List Value)).getD k [], fun k => ([] : List Nat).getD k 0⟩, rfl, OwnS.fin H hO [] [((ηq2 4).blk 0, Obj.cells #[.pointer (some ⟨(ηq2 0).blk 0, 0, none⟩), .pointer (some ⟨(ηq2 2).blk 0, 0, none⟩)] 61 (0, 0)), ((ηq2 0).blk 0, Obj.cells hsN 102 (0, 0)), ((ηq2 2).blk 0, Obj.cells #[.pointer (some ⟨(ηq2 1).blk 0, 0, none⟩), .slice (some ⟨(ηq2 2).blk 1, 0, none⟩) 5 (5 + ((ηq2 2).rest 0).length)] 109 (0, 0)), ((ηq2 1).blk 0, Obj.cells fieldCells 137 (0, 0)), ((ηq2 2).blk 1, Obj.cells (rowV genL ((ηq2 2).rest 0)) 5 (0, 0))] [4, 0, 2, 1, 3] [] (by kernel_rfl)⟩
end Go.Proofs.Ytkeheickaogpiaa
