/- Several texts in one: BinI Sto Sx RsC RsS. -/
import Derived.Test.YtkeheickaogpiaaOwA
import Derived.IntWalk
import Derived.Laws.StructEq
import Derived.Test.YtkeheickaogpiaaRsP
import Derived.Laws.CopyRow
import Derived.Laws.IdiomCopy
import Derived.ChangeKeysEq
namespace Go.Proofs.Ytkeheickaogpiaa
open Go Go.RowKit
section
variable {P : Program} {T : TypeId} {x y : Operand} {a b : Int} {w : World}
theorem bin_add_in (h0 : -9223372036854775808 ≤ a + b) (h1 : a + b ≤ 9223372036854775807) : (do eqGuard .add T x y (.int .i64 a) (.int .i64 b); Go.binOp .add T (.int .i64 a) (.int .i64 b) : Sem Value).run P w = .ok (.int .i64 (a + b)) w := by
  simp [eqGuard, Go.binOp, Op.intArith, IntWalk.i64_in _ (And.intro h0 h1)]
theorem bin_sub_in (h0 : -9223372036854775808 ≤ a - b) (h1 : a - b ≤ 9223372036854775807) : (do eqGuard .sub T x y (.int .i64 a) (.int .i64 b); Go.binOp .sub T (.int .i64 a) (.int .i64 b) : Sem Value).run P w = .ok (.int .i64 (a - b)) w := by
  simp [eqGuard, Go.binOp, Op.intArith, IntWalk.i64_in _ (And.intro h0 h1)]
theorem bin_mul_in (h0 : -9223372036854775808 ≤ a * b) (h1 : a * b ≤ 9223372036854775807) : (do eqGuard .mul T x y (.int .i64 a) (.int .i64 b); Go.binOp .mul T (.int .i64 a) (.int .i64 b) : Sem Value).run P w = .ok (.int .i64 (a * b)) w := by
  simp [eqGuard, Go.binOp, Op.intArith, IntWalk.i64_in _ (And.intro h0 h1)]
end
section
variable {P : Program} {d : Nat} {xs ys : Array Value} {f : Field} {fs : List Field} {w : World} {r e : Bool} {a b : Int}
end
section
variable {P : Program} {w : World} {o : Oper} {ρ : Operand → Value}
def u8I (x : Int) : UInt8 := UInt8.ofNat (x % 256).toNat
theorem u8I_toNat (x : Int) : ((u8I x).toNat : Int) = x % 256 := by
  unfold u8I
  rw [UInt8.toNat_ofNat']
  omega
theorem cvt_u8 {S T : TypeId} (hS : P.underlying S = some (.int .i64)) (hT : P.underlying T = some (.int .u8)) {x : Int} : (convert S T (.int .i64 x)).run P w = .ok (.int .u8 ((u8I x).toNat : Int)) w := by
  rw [u8I_toNat]
  simp [convert, run_underlying hS, run_underlying hT, Sem.run_bind, Conv.intToInt, IntKind.wrap, IntKind.bits, IntKind.signed]
end
end Go.Proofs.Ytkeheickaogpiaa
namespace Go.Proofs.Ytkeheickaogpiaa
open Go Go.RowKit

/-- All blocks but g are kept; a cell of g is as it was, or holds what ws says. -/
structure StR (g : Nat) (ws : List (Nat × Value)) (x y : World) : Prop where
  os : y.os = x.os
  tape : y.tape = x.tape
  output : y.output = x.output
  size : x.heap.size ≤ y.heap.size
  far : ∀ b, b < x.heap.size → b ≠ g → y.heap[b]? = x.heap[b]?
  ch : ∀ t cs, x.heap[g]? = some (.cells cs t (0, 0)) → ∃ cs', y.heap[g]? = some (.cells cs' t (0, 0)) ∧ cs'.size = cs.size ∧ ∀ i : Nat, cs'[i]? = cs[i]? ∨ ∃ v, (i, v) ∈ ws ∧ cs'[i]? = some v
section
variable {g : Nat} {ws : List (Nat × Value)} {x y z w w' W W' : World} {B : Nat} {base : World} {L L' : Objs}
theorem StR.trans (x y z : World) (h : StR g ws x y) (k : StR g ws y z) : StR g ws x z :=
  ⟨k.os.trans h.os, k.tape.trans h.tape, k.output.trans h.output, Nat.le_trans h.size k.size, fun b hb hg => (k.far b (Nat.lt_of_lt_of_le hb h.size) hg).trans (h.far b hb hg),
    fun t cs hx => by
      obtain ⟨c1, h1, h2, h3⟩ := h.ch t cs hx
      obtain ⟨c2, k1, k2, k3⟩ := k.ch t c1 h1
      refine ⟨c2, k1, k2.trans h2, fun i => ?_⟩
      rcases k3 i with e | e
      · rcases h3 i with e2 | ⟨v, m, e2⟩
        · exact .inl (e.trans e2)
        · exact .inr ⟨v, m, e.trans e2⟩
      · exact .inr e⟩
theorem StR.refl (x : World) : StR g ws x x := ⟨rfl, rfl, rfl, Nat.le_refl _, fun _ _ _ => rfl, fun _ cs h => ⟨cs, h, rfl, fun _ => .inl rfl⟩⟩
theorem StR.drew (x : World) : StR g ws x x.drew := ⟨rfl, rfl, rfl, Nat.le_refl _, fun _ _ _ => rfl, fun _ cs h => ⟨cs, h, rfl, fun _ => .inl rfl⟩⟩
theorem StR.below (h : Below x.heap.size x y) : StR g ws x y :=
  have hs := fun b (hb : b < x.heap.size) => h.block b hb
  ⟨h.os, h.tape, h.output, h.size, fun b hb _ => hs b hb, fun _ cs hx => ⟨cs, (hs g (Array.getElem?_eq_some_iff.1 hx).1).trans hx, rfl, fun _ => .inl rfl⟩⟩
/-- A cell that stands as it was told. -/
def CellIs (g i : Nat) (v : Value) (w : World) : Prop := ∃ t cs, w.heap[g]? = some (.cells cs t (0, 0)) ∧ cs[i]? = some v
theorem StR.keeps {i : Nat} {v : Value} (hu : ∀ u, (i, u) ∈ ws → u = v) (h : CellIs g i v x) (k : StR g ws x y) : CellIs g i v y := by
  obtain ⟨t, cs, h1, h2⟩ := h
  obtain ⟨c1, k1, _, k3⟩ := k.ch t cs h1
  rcases k3 i with e | ⟨u, m, e⟩
  · exact ⟨t, c1, k1, e.trans h2⟩
  · exact ⟨t, c1, k1, by rw [← hu u m]; exact e⟩
theorem StR.cell {k i : Nat} {t : TypeId} {cs : Array Value} {v : Value} (OW : Own B base L w) (hk : L[k]? = some (g, .cells cs t (0, 0))) (hv : cs[i]? = some v) (hu : ∀ u, (i, u) ∈ ws → u = v) (h : StR g ws w w') : w'.cell? ⟨g, i, none⟩ = some v := by
  obtain ⟨t2, c2, h1, h2⟩ := h.keeps hu ⟨t, cs, OW.get hk, hv⟩
  rw [cell_of_row w' g i c2 t2 (0, 0) h1]
  exact h2
theorem StR.get {k : Nat} {o : Nat × Obj} (OW : Own B base L w) (hk : L[k]? = some o) (hne : o.1 ≠ g) (h : StR g ws w w') : w'.heap[o.1]? = some o.2 :=
  (h.far _ (OW.lt (List.mem_of_getElem? hk)) hne).trans (OW.get hk)
theorem Own.apart (OW : Own B base L w) {j k : Nat} {x y : Nat × Obj} (hj : L[j]? = some x) (hk : L[k]? = some y) (hne : j ≠ k) : x.1 ≠ y.1 := by
  obtain ⟨h1, rfl⟩ := List.getElem?_eq_some_iff.1 hj
  obtain ⟨h2, rfl⟩ := List.getElem?_eq_some_iff.1 hk
  have hp := List.pairwise_iff_getElem.1 OW.nd
  rcases Nat.lt_or_gt_of_ne hne with h | h
  · exact hp j k h1 h2 h
  · exact Ne.symm (hp k j h2 h1 h)
/-- One object is another one now; new blocks may have come. -/
theorem Own.putG (h : Own B base L W) {k g : Nat} {o o' : Obj} (hk : L[k]? = some (g, o)) (hos : W'.os = W.os) (htp : W'.tape = W.tape) (hout : W'.output = W.output) (hsz : W.heap.size ≤ W'.heap.size)
    (hg : W'.heap[g]? = some o') (hf : ∀ b, b < W.heap.size → b ≠ g → W'.heap[b]? = W.heap[b]?) : Own B base (L.set k (g, o')) W' := by
  have hkl : k < L.length := (List.getElem?_eq_some_iff.1 hk).1
  have hke : L[k] = (g, o) := (List.getElem?_eq_some_iff.1 hk).2
  have hne : ∀ j (hj : j < L.length), j ≠ k → L[j].1 ≠ g := fun j hj hjk => by
    have hp := List.pairwise_iff_getElem.1 h.nd
    rcases Nat.lt_or_gt_of_ne hjk with h1 | h1
    · have := hp j k hj hkl h1; rwa [hke] at this
    · have := hp k j hkl hj h1; rw [hke] at this; exact Ne.symm this
  have hmem : ∀ x ∈ L.set k (g, o'), x = (g, o') ∨ (x ∈ L ∧ x.1 ≠ g) := fun x hx => by
    obtain ⟨j, hj, rfl⟩ := List.getElem_of_mem hx
    rw [List.length_set] at hj
    rw [List.getElem_set]
    split
    · exact .inl rfl
    · rename_i e
      exact .inr ⟨List.getElem_mem hj, hne j hj (Ne.symm e)⟩
  refine ⟨?_, ?_, ?_, hos.trans h.os, htp.trans h.tape, hout.trans h.output, Nat.le_trans h.size hsz, ?_⟩
  · intro x hx
    rcases hmem x hx with rfl | ⟨h1, h2⟩
    · exact hg
    · exact (hf _ (h.lt h1) h2).trans (h.obj x h1)
  · rw [List.pairwise_iff_getElem]
    intro i j hi hj hij
    have hp := List.pairwise_iff_getElem.1 h.nd
    rw [List.length_set] at hi hj
    have e : ∀ m (hm : m < (L.set k (g, o')).length), ((L.set k (g, o'))[m]).1 = (L[m]'(by rw [List.length_set] at hm; exact hm)).1 := fun m hm => by
      rw [List.getElem_set]
      split
      · rename_i e; subst e; rw [hke]
      · rfl
    rw [e, e]
    exact hp i j hi hj hij
  · intro x hx
    rcases hmem x hx with rfl | ⟨h1, _⟩
    · exact h.lo (g, o) (List.mem_of_getElem? hk)
    · exact h.lo x h1
  · intro b hb hn
    have hbg : b ≠ g := fun e => by
      subst e
      exact hn (b, o') (List.mem_of_getElem? (by rw [List.getElem?_set_self hkl])) rfl
    rw [hf b (Nat.lt_of_lt_of_le hb h.size) hbg]
    refine h.far b hb fun x hx e => ?_
    obtain ⟨j, hj, rfl⟩ := List.getElem_of_mem hx
    by_cases hjk : j = k
    · subst hjk; rw [hke] at e; exact hbg e.symm
    · refine hn L[j] (List.mem_of_getElem? (i := j) ?_) e
      rw [List.getElem?_set_ne (Ne.symm hjk), List.getElem?_eq_getElem hj]
/-- Behind the region: each cell of ws holds what it says. -/
theorem Own.stored {k : Nat} {t : TypeId} {cs : Array Value} (OW : Own B base L w) (hk : L[k]? = some (g, .cells cs t (0, 0))) (h : StR g ws w w') (hv : ∀ p ∈ ws, CellIs g p.1 p.2 w') (cs2 : Array Value) (hs : cs2.size = cs.size)
    (hc : ∀ i, i < cs.size → (∃ v, (i, v) ∈ ws ∧ cs2[i]? = some v) ∨ ((∀ v, (i, v) ∉ ws) ∧ cs2[i]? = cs[i]?)) : Own B base (L.set k (g, .cells cs2 t (0, 0))) w' := by
  obtain ⟨c1, k1, k2, k3⟩ := h.ch t cs (OW.get hk)
  have e : c1 = cs2 := by
    refine Array.ext_getElem? fun i => ?_
    by_cases hi : i < cs.size
    · rcases hc i hi with ⟨v, hm, h2⟩ | ⟨hn, h2⟩
      · obtain ⟨t3, c3, h3, h4⟩ := hv _ hm
        have h5 := k1.symm.trans h3
        simp only [Option.some.injEq, Obj.cells.injEq] at h5
        rw [h2, ← h4, h5.1]
      · rcases k3 i with e | ⟨v, hm, _⟩
        · rw [h2, e]
        · exact absurd hm (hn v)
    · rw [Array.getElem?_eq_none (by omega), Array.getElem?_eq_none (by omega)]
  subst e
  exact OW.putG hk h.os h.tape h.output h.size k1 h.far
end

section
variable {F : Fence} {n : Nat} {P : Program} {L : List Oper} {N : Nat} {Q : Exit → Act → World → Prop} {V : Nat → Value → World → Prop} {D : Nat → List Nat} {a : Act} {w : World} {k : Nat} {o : Oper} {g : Nat} {ws : List (Nat × Value)}
end
end Go.Proofs.Ytkeheickaogpiaa
namespace Go.Proofs.Ytkeheickaogpiaa
open Go Go.RowKit
section
variable {xs : Nat → Value} {l : List Oper} {a : Act} {t : Nat} {v : Value}
theorem pT (i : Nat) (h : whoPuts t l 0 = some i) (ht : Nat.blt t a.tmps.size = true) (hv : xs i = v) : (putsH xs l 0 a).eval (.tmp t) = v := (putsH_tmp h ht).trans hv
theorem pO (h : whoPuts t l 0 = none) (hv : a.eval (.tmp t) = v) : (putsH xs l 0 a).eval (.tmp t) = v := (putsH_old h).trans hv
variable {P : Program} {W w' : World} {B : Nat} {base : World} {L : Objs} {g off : Nat} {T ty : TypeId} {cs : Array Value}
/-- Loads of own blocks, at a world that a region has reached. -/
theorem ldC (OW : Hid (Own B base L W)) (hR : BelowR W w') (k : Nat) (hk : L[k]? = some (g, .cells cs T (0, 0))) (hv : cs[off]? = some v) (hna : ∀ w, (isAgg ty).run P w = .ok false w) : (loadVar ty ⟨g, off, none⟩).run P w' = .ok v w' :=
  run_loadVar_cell (hna w') ((((OW.out.step hR).blk hk).cell off).trans hv)
theorem ldR (OW : Hid (Own B base L W)) (hR : BelowR W w') (k : Nat) (hk : L[k]? = some (g, .cells cs T (0, 0))) {d : TypeDesc} (hu : P.underlying ty = some d) (hd : (match d with | .struct _ | .array _ _ => true | _ => false) = true) (hi : (P.info? ty).map (·.size) = some cs.size) : (loadVar ty ⟨g, 0, none⟩).run P w' = .ok (.agg cs) w' :=
  run_loadVar_row w' g T ty cs (0, 0) d ((OW.out.step hR).get hk) hu hd hi
end
end Go.Proofs.Ytkeheickaogpiaa
namespace Go.Proofs.Ytkeheickaogpiaa
open Go.RowKit Go.Shelf
set_option linter.unusedVariables false
attribute [local go_sem] Oper.semAt_some

theorem RdB.raw {w : World} {g : Nat} {t : TypeId} {xs : List UInt8} (h : Blk w g t (rawV xs)) : RdB w (some ⟨g, 0, none⟩) xs := RdB.ofBlk h fun k hk => rawV_get xs hk
section
variable {F : Fence} {n : Nat} {P : Program} {L : List Oper} {N : Nat} {Q : Exit → Act → World → Prop} {V : Nat → Value → World → Prop} {R : World → World → Prop} {D : Nat → List Nat} {a : Act} {w : World} {k : Nat} {o : Oper}
/-- An operation that makes memory. -/
theorem held_valW (hF : Fence.free F) (hg : o.guard = none) (hnd : noDefer o = true)
    (h : ∀ (xs : Nat → Value) (w' : World), (∀ j ∈ D k, V j (xs j) w') → R w w' → ∃ v w2, (execOp (putsH xs (L.take N) 0 a).eval o).run P w' = .ok (.value v) w2 ∧ V k v w2 ∧ R w' w2) : HeldOp F n P L N Q V R D a w k o := by
  refine ⟨?_⟩
  intro xs w' hk hR K hK
  rw [if_pos (by simp [Region.wanted, hg])]
  obtain ⟨v, w2, h1, h2, h3⟩ := h xs w' hk hR
  unfold Oper.wpIn
  refine ⟨fun f _ => hF.2 f, ?_⟩
  rw [Oper.semAt_plain F _ o (noDefer_spec hnd), h1]
  exact ⟨v, rfl, hK _ _ h2 h3⟩
end
section
variable {P : Program} {w w2 : World} {o : Oper} {ρ : Operand → Value}
theorem run_nilO {x : Operand} (ho : o.op = .nilCheck x) {p : Addr} (hx : ρ x = .pointer (some p)) : (execOp ρ o).run P w = .ok (.value (.pointer (some p))) w := by
  unfold execOp
  simp only [ho, hx, Sem.run_pure]
theorem run_appO {T : TypeId} {s x : Operand} (ho : o.op = .call { callee := .builtin .append, args := #[s, x], argTypes := #[T, T] }) {v u v' : Value} (hs : ρ s = v) (hx : ρ x = u) (hr : ∀ ty, (Builtin.append_ #[T, T] ty #[v, u]).run P w = .ok v' w2) : (execOp ρ o).run P w = .ok (.value v') w2 := by
  simp [execOp, ho, resolve, invoke, builtin, hs, hx, hr, Result.andThen]
theorem run_makeO {T : TypeId} {x : Operand} (ho : o.op = .makeSlice T x x) {v v' : Value} (hx : ρ x = v) (hr : (Instr.makeSlice T v v).run P w = .ok v' w2) : (execOp ρ o).run P w = .ok (.value v') w2 := by
  unfold execOp
  simp only [ho, hx, Sem.run_bind, hr, Result.andThen_ok, Sem.run_pure]
theorem bin_xor8 {T : TypeId} {x y : Operand} {a b : UInt8} : (do eqGuard .xor T x y (.int .u8 (a.toNat : Int)) (.int .u8 (b.toNat : Int)); Go.binOp .xor T (.int .u8 (a.toNat : Int)) (.int .u8 (b.toNat : Int)) : Sem Value).run P w = .ok (.int .u8 ((a ^^^ b).toNat : Int)) w := by
  rw [← u8_xorP]; rfl
theorem run_extO {x : Operand} {i : Nat} (ho : o.op = .extract x i) {vs : Array Value} (hx : ρ x = .tuple vs) {v : Value} (hv : vs[i]? = some v) : (execOp ρ o).run P w = .ok (.value v) w := by
  unfold execOp
  simp only [ho, hx, Sem.run_bind]
  simp [Instr.extract, hv, Sem.run_pure]
end
theorem results_two {P : Program} {fn : Func} {tmps : Array Value} {W : World} {p q : Tmp} {ty ty2 : TypeId} {a b : Addr} {v1 v2 : Value} (h : fn.results = #[.cell p ty, .cell q ty2]) (hp : tmps.getD p undef = .pointer (some a)) (hq : tmps.getD q undef = .pointer (some b))
    (r1 : (loadVar ty a).run P W = .ok v1 W) (r2 : (loadVar ty2 b).run P W = .ok v2 W) : (results fn tmps).run P W = .ok (.tuple #[v1, v2]) W := by
  have hp' : tmps[p]?.getD undef = .pointer (some a) := by simpa using hp
  have hq' : tmps[q]?.getD undef = .pointer (some b) := by simpa using hq
  simp [results, h, hp', hq', asAddr, r1, r2, Sem.run_bind]
theorem addr_addZ (g m : Nat) : (⟨g, 0, none⟩ : Addr).add m = ⟨g, m, none⟩ := by unfold Addr.add; split <;> simp_all
theorem eqIt_any (xs ys : List UInt8) (N : Nat) (hl : xs.length = N) (hm : ys.length = N) (w : World) : ∀ is : List Nat, (∀ i ∈ is, i < N) →
    (Op.eqItems 9999 5 1 (rawV xs) (rawV ys) is).run Try.prog w = .ok (is.all fun i => xs.getD i 0 == ys.getD i 0) w
  | [], _ => by simp [Op.eqItems]
  | i :: is, h => by
    have hi := h i (List.mem_cons_self ..)
    have ih := eqIt_any xs ys N hl hm w is fun j hj => h j (List.mem_cons_of_mem _ hj)
    have ha : ∀ w, (isAgg 5).run Try.prog w = .ok false w := fun w => by kernel_rfl
    have h1 := rawV_get xs (i := i) (by omega)
    have h2 := rawV_get ys (i := i) (by omega)
    have he : ∀ w, (Op.equalIn 9999 5 (.int .u8 ((xs.getD i 0).toNat : Int)) (.int .u8 ((ys.getD i 0).toNat : Int))).run Try.prog w = .ok (((xs.getD i 0).toNat : Int) == ((ys.getD i 0).toNat : Int)) w := fun w => run_equalIn_int w 9998 5 .u8 .u8 _ _ Try.underlying5
    have hb : (((xs.getD i 0).toNat : Int) == ((ys.getD i 0).toNat : Int)) = (xs.getD i 0 == ys.getD i 0) := by
      rw [Bool.eq_iff_iff, beq_iff_eq, beq_iff_eq, ← UInt8.toNat_inj]
      exact Int.natCast_inj
    simp only [Op.eqItems, Sem.run_bind, part, ha, Result.andThen_ok, Nat.mul_one, h1, h2, Bool.false_eq_true, if_false, Sem.run_pure, he, hb, List.all_cons]
    cases xs.getD i 0 == ys.getD i 0
    · simp
    · simpa using ih
theorem all_eqN (xs ys : List UInt8) (N : Nat) (hl : xs.length = N) (hm : ys.length = N) : ((List.range N).all fun i => xs.getD i 0 == ys.getD i 0) = decide (xs = ys) := by
  rw [Bool.eq_iff_iff, List.all_eq_true, decide_eq_true_eq]
  constructor
  · intro h
    refine List.ext_getElem (by rw [hl, hm]) fun i h1 h2 => ?_
    have h3 := h i (List.mem_range.2 (by omega))
    rw [beq_iff_eq, List.getD_eq_getElem?_getD, List.getD_eq_getElem?_getD, List.getElem?_eq_getElem h1, List.getElem?_eq_getElem h2] at h3
    simpa using h3
  · rintro rfl i _
    exact beq_self_eq_true _
theorem arL3 : Try.prog.arrayLen 43 = 3 := by kernel_rfl
theorem arZ3 (W : World) : (sizeOf (Try.prog.elem 43)).run Try.prog W = .ok 1 W := by kernel_rfl
theorem arS3 (g : Nat) (W : World) : (Instr.sliceAt 43 (.pointer (some ⟨g, 0, none⟩)) none none none).run Try.prog W = .ok (.slice (some ⟨g, 0, none⟩) 3 3) W := by
  rw [run_sliceAt_array_all (P := Try.prog) (w := W) (t := 43) (a := ⟨g, 0, none⟩) (by kernel_rfl), arZ3, Result.andThen_ok]
  unfold slicedAt
  rw [arL3, Nat.zero_mul, addr_addZ, if_neg (by omega)]
theorem arX3 (g k : Nat) (hk : k < 3) (W : World) : (Instr.indexAt 43 (.pointer (some ⟨g, 0, none⟩)) (.int .i64 (k : Int))).run Try.prog W = .ok (.pointer (some ⟨g, k, none⟩)) W := by
  rw [run_indexAt_array (P := Try.prog) (w := W) 43 ⟨g, 0, none⟩ .i64 (k : Int) (by kernel_rfl), arL3, if_pos (by omega), arZ3, Result.andThen_ok, Int.toNat_natCast, Nat.mul_one, addr_addZ]
theorem arI3 : (Try.prog.info? 43).map (·.size) = some 3 := by kernel_rfl
theorem arJ3 {xs : List UInt8} (h : xs.length = 3) : (Try.prog.info? 43).map (·.size) = some (rawV xs).size := by rw [rawV_size, h]; exact arI3
theorem arL4 : Try.prog.arrayLen 68 = 4 := by kernel_rfl
theorem arZ4 (W : World) : (sizeOf (Try.prog.elem 68)).run Try.prog W = .ok 1 W := by kernel_rfl
theorem arS4 (g : Nat) (W : World) : (Instr.sliceAt 68 (.pointer (some ⟨g, 0, none⟩)) none none none).run Try.prog W = .ok (.slice (some ⟨g, 0, none⟩) 4 4) W := by
  rw [run_sliceAt_array_all (P := Try.prog) (w := W) (t := 68) (a := ⟨g, 0, none⟩) (by kernel_rfl), arZ4, Result.andThen_ok]
  unfold slicedAt
  rw [arL4, Nat.zero_mul, addr_addZ, if_neg (by omega)]
theorem arX4 (g k : Nat) (hk : k < 4) (W : World) : (Instr.indexAt 68 (.pointer (some ⟨g, 0, none⟩)) (.int .i64 (k : Int))).run Try.prog W = .ok (.pointer (some ⟨g, k, none⟩)) W := by
  rw [run_indexAt_array (P := Try.prog) (w := W) 68 ⟨g, 0, none⟩ .i64 (k : Int) (by kernel_rfl), arL4, if_pos (by omega), arZ4, Result.andThen_ok, Int.toNat_natCast, Nat.mul_one, addr_addZ]
theorem arI4 : (Try.prog.info? 68).map (·.size) = some 4 := by kernel_rfl
theorem al4 : ∀ w : World, (Instr.alloc 68 true (.tuple #[])).run Try.prog w = .ok (.pointer (some ⟨w.heap.size, 0, none⟩)) (w.alloc (.cells (rawV (List.replicate 4 0)) 68)) := fun _ => by kernel_rfl
theorem eqIt4 (xs ys : List UInt8) (hl : xs.length = 4) (hm : ys.length = 4) (w : World) : ∀ is : List Nat, (∀ i ∈ is, i < 4) →
    (Op.eqItems 9999 5 1 (rawV xs) (rawV ys) is).run Try.prog w = .ok (is.all fun i => xs.getD i 0 == ys.getD i 0) w := eqIt_any xs ys 4 hl hm w
theorem eqR4 (xs ys : List UInt8) (hl : xs.length = 4) (hm : ys.length = 4) (w : World) : (Op.equalIn 10000 68 (.agg (rawV xs)) (.agg (rawV ys))).run Try.prog w = .ok (decide (xs = ys)) w := by
  obtain ⟨i, hi⟩ : ∃ i, Try.prog.info? 5 = some i := Option.isSome_iff_exists.1 (by kernel_rfl)
  rw [run_equalIn_array w 9999 (rawV xs) (rawV ys) Try.underlying68 hi, show Try.prog.cellsOf 5 = 1 by kernel_rfl, eqIt4 xs ys hl hm w _ fun i hi => List.mem_range.1 hi, all_eqN xs ys 4 hl hm]
theorem eq_ar4 (xs ys : List UInt8) (hl : xs.length = 4) (hm : ys.length = 4) (x y : Operand) (w : World) : (do eqGuard .eql 68 x y (.agg (rawV xs)) (.agg (rawV ys)); Go.binOp .eql 68 (.agg (rawV xs)) (.agg (rawV ys)) : Sem Value).run Try.prog w = .ok (.bool (decide (xs = ys))) w := by
  have h := eqR4 xs ys hl hm w
  have g : Try.prog.eqGuardType Try.prog.depth 68 = false := by kernel_rfl
  simp [eqGuard, Go.binOp, Op.equal, Op.maxDepth, Sem.run_bind, g, h]
theorem arJ4 {xs : List UInt8} (h : xs.length = 4) : (Try.prog.info? 68).map (·.size) = some (rawV xs).size := by rw [rawV_size, h]; exact arI4
theorem arL32 : Try.prog.arrayLen 67 = 32 := by kernel_rfl
theorem arZ32 (W : World) : (sizeOf (Try.prog.elem 67)).run Try.prog W = .ok 1 W := by kernel_rfl
theorem arS32 (g : Nat) (W : World) : (Instr.sliceAt 67 (.pointer (some ⟨g, 0, none⟩)) none none none).run Try.prog W = .ok (.slice (some ⟨g, 0, none⟩) 32 32) W := by
  rw [run_sliceAt_array_all (P := Try.prog) (w := W) (t := 67) (a := ⟨g, 0, none⟩) (by kernel_rfl), arZ32, Result.andThen_ok]
  unfold slicedAt
  rw [arL32, Nat.zero_mul, addr_addZ, if_neg (by omega)]
theorem arI32 : (Try.prog.info? 67).map (·.size) = some 32 := by kernel_rfl
theorem al32 : ∀ w : World, (Instr.alloc 67 true (.tuple #[])).run Try.prog w = .ok (.pointer (some ⟨w.heap.size, 0, none⟩)) (w.alloc (.cells (rawV (List.replicate 32 0)) 67)) := fun _ => by kernel_rfl
theorem arJ32 {xs : List UInt8} (h : xs.length = 32) : (Try.prog.info? 67).map (·.size) = some (rawV xs).size := by rw [rawV_size, h]; exact arI32
theorem arL36 : Try.prog.arrayLen 79 = 36 := by kernel_rfl
theorem arZ36 (W : World) : (sizeOf (Try.prog.elem 79)).run Try.prog W = .ok 1 W := by kernel_rfl
theorem arS36 (g : Nat) (W : World) : (Instr.sliceAt 79 (.pointer (some ⟨g, 0, none⟩)) none none none).run Try.prog W = .ok (.slice (some ⟨g, 0, none⟩) 36 36) W := by
  rw [run_sliceAt_array_all (P := Try.prog) (w := W) (t := 79) (a := ⟨g, 0, none⟩) (by kernel_rfl), arZ36, Result.andThen_ok]
  unfold slicedAt
  rw [arL36, Nat.zero_mul, addr_addZ, if_neg (by omega)]
theorem arX36 (g k : Nat) (hk : k < 36) (W : World) : (Instr.indexAt 79 (.pointer (some ⟨g, 0, none⟩)) (.int .i64 (k : Int))).run Try.prog W = .ok (.pointer (some ⟨g, k, none⟩)) W := by
  rw [run_indexAt_array (P := Try.prog) (w := W) 79 ⟨g, 0, none⟩ .i64 (k : Int) (by kernel_rfl), arL36, if_pos (by omega), arZ36, Result.andThen_ok, Int.toNat_natCast, Nat.mul_one, addr_addZ]
theorem arI36 : (Try.prog.info? 79).map (·.size) = some 36 := by kernel_rfl
theorem arJ36 {xs : List UInt8} (h : xs.length = 36) : (Try.prog.info? 79).map (·.size) = some (rawV xs).size := by rw [rawV_size, h]; exact arI36
theorem arL39 : Try.prog.arrayLen 81 = 39 := by kernel_rfl
theorem arZ39 (W : World) : (sizeOf (Try.prog.elem 81)).run Try.prog W = .ok 1 W := by kernel_rfl
theorem arX39 (g k : Nat) (hk : k < 39) (W : World) : (Instr.indexAt 81 (.pointer (some ⟨g, 0, none⟩)) (.int .i64 (k : Int))).run Try.prog W = .ok (.pointer (some ⟨g, k, none⟩)) W := by
  rw [run_indexAt_array (P := Try.prog) (w := W) 81 ⟨g, 0, none⟩ .i64 (k : Int) (by kernel_rfl), arL39, if_pos (by omega), arZ39, Result.andThen_ok, Int.toNat_natCast, Nat.mul_one, addr_addZ]
theorem arI39 : (Try.prog.info? 81).map (·.size) = some 39 := by kernel_rfl
theorem al39 : ∀ w : World, (Instr.alloc 81 true (.tuple #[])).run Try.prog w = .ok (.pointer (some ⟨w.heap.size, 0, none⟩)) (w.alloc (.cells (rawV (List.replicate 39 0)) 81)) := fun _ => by kernel_rfl
theorem arJ39 {xs : List UInt8} (h : xs.length = 39) : (Try.prog.info? 81).map (·.size) = some (rawV xs).size := by rw [rawV_size, h]; exact arI39
section
variable {P : Program} {d : Nat} {xs ys : Array Value} {f : Field} {fs : List Field} {w : World} {r e : Bool} {a b : Int}
end
section
variable {F : Fence} {n : Nat} {P : Program} {ops : Array Oper} {Q : Exit → Act → World → Prop} {a : Act} {W W' : World} {rest : List Oper} {o : Oper}
theorem op_copy [FreeF F] (T : TypeId) (s x : Operand) (ho : o.op = .call { callee := .builtin .copy, args := #[s, x], argTypes := #[T, T] }) (hw : Region.wanted o (yielded ops a.tmps) = true) (v u v' : Value) (hs : a.eval s = v) (hx : a.eval x = u)
    (hr : ∀ ty, (Builtin.copy_ #[T, T] ty #[v, u]).run P W = .ok v' W') (h : wpListIn F n P ops Q rest (a.put o.dst v') W') : wpListIn F n P ops Q (o :: rest) a W :=
  wpListIn_val hw (by unfold noDefer; rw [ho]) v' (by simp [execOp, ho, resolve, invoke, builtin, hs, hx, hr, Result.andThen]) h
end
/-- A copy into the start of an own row of bytes. -/
theorem copy_own {B : Nat} {base W : World} {L : Objs} {k g : Nat} {t : TypeId} {zs xs : List UInt8} {v : Value} {B' : Nat} (hO : Own B base L W) (hk : L[k]? = some (g, .cells (rawV zs) t (0, 0))) (hf : Fr B' W v xs) (hl : xs.length ≤ zs.length) :
    ∃ u W', (∀ ty, (Builtin.copy_ #[56, 56] ty #[.slice (some ⟨g, 0, none⟩) zs.length zs.length, v]).run Try.prog W = .ok u W') ∧ Own B base (L.set k (g, .cells (rawV (xs ++ zs.drop xs.length)) t (0, 0))) W' ∧ W'.heap.size = W.heap.size := by
  rcases hf.2 with ⟨rfl, h0⟩ | ⟨g2, cap, cur, rfl, hg, hh, h1, h2, h3, h4⟩
  · obtain rfl : xs = [] := List.length_eq_zero_iff.1 h0
    refine ⟨_, W, fun ty => run_copy_nil (P := Try.prog) W 56 56 ty 5 ⟨g, 0, none⟩ zs.length zs.length Try.underlying56 (by kernel_rfl), ?_, rfl⟩
    have e : L.set k (g, .cells (rawV ([] ++ zs.drop ([] : List UInt8).length)) t (0, 0)) = L := by
      rw [List.nil_append, List.length_nil, List.drop_zero]
      refine List.ext_getElem? fun i => ?_
      rw [List.getElem?_set]
      split
      · rename_i e; subst e
        obtain ⟨hlt, _⟩ := List.getElem?_eq_some_iff.1 hk
        rw [if_pos hlt, hk]
      · rfl
    rw [e]; exact hO
  · have hr : RdB W (some ⟨g2, 0, none⟩) xs := by
      obtain ⟨A, c, e, _, _, hr⟩ := hf.open
      injection e with e
      rw [e]; exact hr
    have h := fun ty => run_copy_row (P := Try.prog) W 56 56 ty 5 g 0 zs.length zs.length ⟨g2, 0, none⟩ xs.length cap (rawV zs) t (xs.map vU) Try.underlying56 szU8 (hO.get hk) (by rw [List.length_map]; exact (Nat.min_eq_left hl).symm) (rd_cells hr) (by rw [List.length_map, rawV_size]; omega) (vU_one xs)
    refine ⟨_, _, h, ?_, by simp⟩
    have e : ((rawV zs).toList.take 0 ++ xs.map vU ++ (rawV zs).toList.drop (0 + (xs.map vU).length)).toArray = rawV (xs ++ zs.drop xs.length) := by
      unfold rawV
      simp [List.map_append, List.map_drop]
    rw [e]
    exact hO.setRow hk _

/-- All symbols ahead of the division: noughts, data, virtual ones. -/
def msgL (d v : List UInt8) : List UInt8 := List.replicate 4 0 ++ d ++ v
def modG (d v : List UInt8) : List UInt8 := modL (msgL d v) genL (gi (co genL (tlL genL - 1)))
/-- The checks of data. -/
def chkL (d v : List UInt8) : List UInt8 := ofF 4 (co (modG d v))
theorem chkL_len (d v : List UInt8) : (chkL d v).length = 4 := ofF_len _ _
theorem genL_tl : tlL genL = 5 := by
  have h := rtTo_tl [1, 2, 4, 8] 4
  exact h
theorem genL_len : genL.length = 5 := by rw [genL_eq]; rfl
theorem modG_le (d v : List UInt8) : (modG d v).length ≤ 4 := by
  have h := (modL_spec (p := msgL d v) (q := genL) (t := gi (co genL (tlL genL - 1))) (by rw [genL_tl]; omega) (gm_gi (tlL_top genL (t := tlL genL - 1) (by rw [genL_tl])))).2
  rw [modL_trimmed, genL_tl] at h
  exact Nat.le_of_lt_succ h
theorem chkL_copy (d v : List UInt8) : modG d v ++ (List.replicate 4 (0 : UInt8)).drop (modG d v).length = chkL d v := by
  have hl := modG_le d v
  refine list_ext (by rw [chkL_len]; simp; omega) fun i hi => ?_
  have hi4 : i < 4 := by simp at hi; omega
  unfold chkL
  rw [co_ofF, if_pos hi4]
  unfold co
  rw [List.getD_eq_getElem?_getD, List.getD_eq_getElem?_getD]
  by_cases h : i < (modG d v).length
  · rw [List.getElem?_append_left h]
  · rw [List.getElem?_append_right (by omega), List.getElem?_eq_none (l := modG d v) (by omega), List.getElem?_drop]
    rw [show (modG d v).length + (i - (modG d v).length) = i by omega, List.getElem?_replicate, if_pos hi4]
    rfl

set_option maxRecDepth 100000 in
set_option maxHeartbeats 1000000 in
theorem checks_any (cb fb : Nat) (d v : List UInt8) (hd : d.length = 32) (hv : v.length = 3) (w : World) (hC : CodeAt w cb fb) :
    Calls Try.prog 31 #[.pointer (some ⟨cb, 0, none⟩), .agg (rawV d), .agg (rawV v)] w fun e w' => e = .returned (.agg (rawV (chkL d v))) ∧ Below w.heap.size w w' := by
  have HC := Lib.hid hC
  have HLA := Lib.hid hd
  have HLV := Lib.hid hv
  obtain ⟨b0, hb0⟩ : ∃ b0, w.heap.size = b0 := ⟨_, rfl⟩
  have HB0 := Lib.hid hb0
  have OW := Lib.hid (Own.start b0 w)
  have OZ := Lib.hid (And.intro hb0 (Nat.le_refl b0))
  clear hb0
  clear hC hd hv
  refine (callsIn_wide (n := 6)).1 ?_
  refine callsIn_of_wp_marks Try.func31 rfl trivial ?_ rfl
  simp only [Try.ntmps31, List.size_toArray, List.length_cons, List.length_nil, Nat.reduceAdd, Nat.reduceSub, Array.replicate_succ, Array.replicate_zero, List.push_toArray, List.append_toArray, List.nil_append, List.cons_append]
  gi_wp2_with (first
    | (refine own_box 67 (.tmp 1) rfl rfl (.agg (rawV d)) rfl (rawV d) rfl OW OZ ?_; clear OW OZ; intro W OW OZ)
    | (refine own_box 43 (.tmp 2) rfl rfl (.agg (rawV v)) rfl (rawV v) rfl OW OZ ?_; clear OW OZ; intro W OW OZ)
    | (refine own_alloc 68 rfl rfl _ al4 OW OZ ?_; clear OW OZ; intro W OW OZ))
  refine wpIn_region_held 4 (atD [[], [], [0, 1], []]) (atV [fun v W => ∃ g, v = .slice (some ⟨g, 0, none⟩) 4 4 ∧ b0 ≤ g ∧ Blk W g 5 (rowV (List.replicate 4 (0 : UInt8)) []), fun v _ => v = .slice (some ⟨b0, 0, none⟩) 32 32,
    fun v W => ∃ g rest, v = .slice (some ⟨g, 0, none⟩) 36 (36 + rest.length) ∧ b0 + 1 + 1 + 1 + 1 ≤ g ∧ 36 + rest.length ≤ maxLen ∧ Blk W g 5 (rowV ((List.replicate 4 (0 : UInt8)) ++ d) rest), fun v _ => v = .slice (some ⟨(b0 + 1), 0, none⟩) 3 3]) BelowR (by kernel_rfl) (by kernel_rfl) BelowR.trans (BelowR.drew _)
    (StV.atV (.cons (fun v x y ⟨g, h1, h2, h3⟩ hb => ⟨g, h1, h2, h3.below hb h3.lt⟩) (.const _ (.cons (fun v x y ⟨g, r, h1, h2, h3, h4⟩ hb => ⟨g, r, h1, h2, h3, h4.below hb h4.lt⟩) (.const _ .nil)))))
    ⟨?o0, ?o1, ?o2, ?o3, trivial⟩ ?hend
  case o0 => exact held_valW free_wide rfl (by rfl) fun xH w' kH hR => ⟨_, _, run_makeO rfl rfl (makeRow 4 (by omega) w'), ⟨_, rfl, Nat.le_trans OZ.out.2 (by rw [← OZ.out.1]; exact hR.size), Blk.new w' _ _⟩, (Below.refl _ w').alloc (Nat.le_refl _) _⟩
  case o1 => exact held_run free_wide rfl (by rfl) BelowR.refl fun xH w' kH hR => ⟨_, run_sliceO rfl (by rw [show (putsH xH _ 0 _).eval (.tmp 4) = .pointer (some ⟨b0, 0, none⟩) from (putsH_old (by kernel_rfl)).trans rfl]; exact arS32 b0 w'), rfl⟩
  case o3 => exact held_run free_wide rfl (by rfl) BelowR.refl fun xH w' kH hR => ⟨_, run_sliceO rfl (by rw [show (putsH xH _ 0 _).eval (.tmp 5) = .pointer (some ⟨(b0 + 1), 0, none⟩) from (putsH_old (by kernel_rfl)).trans rfl]; exact arS3 (b0 + 1) w'), rfl⟩
  case o2 =>
    refine held_valW free_wide rfl (by rfl) fun xH w' kH hR => ?_
    obtain ⟨g, hg1, hg2, hg3⟩ : ∃ g, xH 0 = .slice (some ⟨g, 0, none⟩) 4 4 ∧ b0 ≤ g ∧ Blk w' g 5 (rowV (List.replicate 4 (0 : UInt8)) []) := kH 0 (by decide)
    have h1 : xH 1 = .slice (some ⟨b0, 0, none⟩) 32 32 := kH 1 (by decide)
    have hr : RdB w' (some ⟨b0, 0, none⟩) d := RdB.raw ((OW.out.step hR).blk (k := 0) rfl)
    obtain ⟨rest', hm, hrun⟩ := run_app_grow (xs := (List.replicate 4 (0 : UInt8))) (rest := []) (c := 32) hg3 hr (by rw [HLA.out]; decide) (by rw [HLA.out]; decide)
    rw [HLA.out] at hrun hm
    refine ⟨_, _, run_appO rfl (by rw [putsH_tmp (i := 0) (by kernel_rfl) (by kernel_rfl)]; exact hg1) (by rw [putsH_tmp (i := 1) (by kernel_rfl) (by kernel_rfl)]; exact h1) hrun, ⟨_, rest', rfl, (by rw [← OZ.out.1]; exact hR.size), hm, Blk.new w'.drew _ _⟩, ?_⟩
    exact Below.alloc (⟨rfl, rfl, rfl, Nat.le_refl _, fun _ _ => rfl⟩ : Below w'.heap.size w' w'.drew) (Nat.le_refl _) _
  intro xH w' hv hR
  obtain ⟨g0, h0, _, _⟩ : ∃ g, xH 0 = .slice (some ⟨g, 0, none⟩) 4 4 ∧ b0 ≤ g ∧ Blk w' g 5 (rowV (List.replicate 4 (0 : UInt8)) []) := hv 0 (by omega)
  have h1 : xH 1 = .slice (some ⟨b0, 0, none⟩) 32 32 := hv 1 (by omega)
  obtain ⟨g, rest, h2, hg, hm, hblk⟩ : ∃ (g : Nat) (rest : List Value), xH 2 = .slice (some ⟨g, 0, none⟩) 36 (36 + rest.length) ∧ b0 + 1 + 1 + 1 + 1 ≤ g ∧ 36 + rest.length ≤ maxLen ∧ Blk w' g 5 (rowV ((List.replicate 4 (0 : UInt8)) ++ d) rest) := hv 2 (by omega)
  have h3 : xH 3 = .slice (some ⟨(b0 + 1), 0, none⟩) 3 3 := hv 3 (by omega)
  simp only [List.take_succ_cons, List.take_zero, List.drop_succ_cons, List.drop_zero, putsH, Act.put, List.setIfInBounds_toArray, List.set_cons_succ, List.set_cons_zero, h0, h1, h2, h3]
  have hl36 : ((List.replicate 4 (0 : UInt8)) ++ d : List UInt8).length = 36 := by rw [List.length_append, HLA.out]; rfl
  have hfr := Fr.ofBlk (B := b0 + 1 + 1 + 1 + 1) hblk hg (by rw [hl36]; exact hm)
  have hrv : RdB w' (some ⟨(b0 + 1), 0, none⟩) v := RdB.raw ((OW.out.step hR).blk (k := 1) rfl)
  obtain ⟨v', w2, hrun, hfr2, hb2⟩ := run_app (ys := v) (c := 3) hfr hrv (fun h => by cases h) (by rw [← OZ.out.1]; exact hR.size) (by rw [hl36, HLV.out]; decide)
  rw [hl36, HLV.out] at hrun
  have hl39 : ((List.replicate 4 (0 : UInt8)) ++ d ++ v : List UInt8).length = 39 := by rw [List.length_append, hl36, HLV.out]
  obtain ⟨g9, rest9, rfl, hg9, hm9, hblk9⟩ := hfr2.row (by rw [hl39]; decide)
  rw [hl39] at hrun hm9
  have OW2 := Lib.hid (Own.add OW.out (Below.trans (show Below W.heap.size W w' from hR) (by rw [OZ.out.1]; exact hb2)) (by rw [OZ.out.1]; exact OZ.out.2) (by rw [OZ.out.1]; exact hg9) hblk9)
  obtain ⟨G2, OZ2⟩ := own_size OW2 HB0
  have HRUN := Lib.hid hrun
  have HL39 := Lib.hid hl39
  clear hv hR OW OZ hrun hfr2 hb2 hfr hrv hblk hl36 hblk9 hl39 hm9 hg9
  have OW := OW2
  have OZ := OZ2
  clear OW2 OZ2
  gi_wp2_with (refine op_append 56 (.tmp 13) (.tmp 14) rfl rfl (.slice (some ⟨g, 0, none⟩) 36 (36 + rest.length)) (.slice (some ⟨(b0 + 1), 0, none⟩) 3 3) (.slice (some ⟨g9, 0, none⟩) 39 (39 + rest9.length)) rfl rfl HRUN.out ?_)
  obtain ⟨A5, c5, hcb, hcf, hcg, hc5⟩ := HC.out
  have HCB := Lib.hid (show cb < b0 by rw [← HB0.out]; exact hcb.lt)
  have HCD := Lib.hid (And.intro hcb (And.intro hcf hcg))
  clear hcb hcf hcg HRUN
  have hmod : ∀ W, Below w2.heap.size w2 W → Calls Try.prog 57 #[.pointer (some ⟨fb, 0, none⟩), .slice (some ⟨g9, 0, none⟩) 39 (39 + rest9.length), .slice A5 5 c5] W fun r W' => ∃ u, r = .returned (.tuple #[u, .int .i64 0]) ∧ Fr W.heap.size W' u (modG d v) ∧ Below W.heap.size W W' := fun W hb => by
    have h1 := (OW.out.step hb).below (Nat.le_of_eq HB0.out.symm)
    exact pmod_any fb (some ⟨g9, 0, none⟩) A5 39 5 (39 + rest9.length) c5 (msgL d v) genL HL39.out genL_len (by omega) (by omega) (by rw [genL_tl]; omega) W ((h1.block fb (by rw [← HB0.out]; exact (Array.getElem?_eq_some_iff.1 HCD.out.2.1).1)).trans HCD.out.2.1) (RdB.row ((OW.out.step hb).blk (k := 4) rfl)) (HCD.out.2.2.below (HB0.out ▸ h1))
  have hld : ∀ W i u, Below w2.heap.size w2 W → (#[Value.pointer (some ⟨fb, 0, none⟩), .slice A5 5 c5] : Array Value)[i]? = some u → W.cell? ⟨cb, i, none⟩ = some u := fun W i u hb hi => by
    have h1 := (OW.out.step hb).below (Nat.le_of_eq HB0.out.symm)
    exact ((HCD.out.1.below h1 HCB.out).cell i).trans hi
  have HMOD := Lib.hid hmod
  have HLD := Lib.hid hld
  clear hmod hld
  gi_upto_region 3 with fail
  refine wpIn_region_held 15 (atD [[], [0], [1], [2], [], [], [5], [6], [7], [3, 4, 8], [9], [10], [10], [11], [12]]) (atV [fun v _ => v = .pointer (some ⟨cb, 0, none⟩), fun v _ => v = .pointer (some ⟨cb, 0, none⟩), fun v _ => v = .pointer (some ⟨cb, 0, none⟩), fun v _ => v = .pointer (some ⟨fb, 0, none⟩), fun u _ => u = .slice (some ⟨g9, 0, none⟩) 39 (39 + rest9.length),
    fun v _ => v = .pointer (some ⟨cb, 0, none⟩), fun v _ => v = .pointer (some ⟨cb, 0, none⟩), fun v _ => v = .pointer (some ⟨cb, 1, none⟩), fun v _ => v = .slice A5 5 c5,
    fun t W => ∃ u, t = .tuple #[u, .int .i64 0] ∧ Fr G2 W u (modG d v), fun t W => ∃ u, t = .tuple #[u, .int .i64 0] ∧ Fr G2 W u (modG d v), fun u W => Fr G2 W u (modG d v), fun u _ => u = .int .i64 0, fun u W => Fr G2 W u (modG d v), fun u _ => u = .int .i64 0]) BelowR (by kernel_rfl) (by kernel_rfl) BelowR.trans (BelowR.drew _)
    (StV.atV (.const _ (.const _ (.const _ (.const _ (.const _ (.const _ (.const _ (.const _ (.const _ (.cons (fun t x y ⟨u, h1, h2⟩ hb => ⟨u, h1, h2.below hb⟩) (.cons (fun t x y ⟨u, h1, h2⟩ hb => ⟨u, h1, h2.below hb⟩) (.cons (fun t x y h hb => h.below hb) (.const _ (.cons (fun t x y h hb => h.below hb) (.const _ .nil))))))))))))))))
    ⟨?p0, ?p1, ?p2, ?p3, ?p4, ?p5, ?p6, ?p7, ?p8, ?p9, ?p10, ?p11, ?p12, ?p13, ?p14, trivial⟩ ?pend
  case p0 => exact held_move free_wide rfl BelowR.refl (.tmp 0) (.inl rfl) fun xH w' _ _ => (putsH_old (by kernel_rfl)).trans rfl
  case p5 => exact held_move free_wide rfl BelowR.refl (.tmp 0) (.inl rfl) fun xH w' _ _ => (putsH_old (by kernel_rfl)).trans rfl
  case p4 => exact held_move free_wide rfl BelowR.refl (.tmp 8) (.inl rfl) fun xH w' _ _ => (putsH_old (by kernel_rfl)).trans rfl
  case p1 => exact held_run free_wide rfl (by rfl) BelowR.refl fun xH w' kH hR => ⟨.pointer (some ⟨cb, 0, none⟩), run_nilO (p := ⟨cb, 0, none⟩) rfl (by rw [putsH_tmp (i := 0) (by kernel_rfl) (by kernel_rfl)]; exact kH 0 (by decide)), rfl⟩
  case p6 => exact held_run free_wide rfl (by rfl) BelowR.refl fun xH w' kH hR => ⟨.pointer (some ⟨cb, 0, none⟩), run_nilO (p := ⟨cb, 0, none⟩) rfl (by rw [putsH_tmp (i := 5) (by kernel_rfl) (by kernel_rfl)]; exact kH 5 (by decide)), rfl⟩
  case p2 => exact held_run free_wide rfl (by rfl) BelowR.refl fun xH w' kH hR => ⟨.pointer (some ⟨cb, 0, none⟩), run_fldO (vx := .pointer (some ⟨cb, 0, none⟩)) rfl (by rw [putsH_tmp (i := 1) (by kernel_rfl) (by kernel_rfl)]; exact kH 1 (by decide)) (by kernel_rfl), rfl⟩
  case p7 => exact held_run free_wide rfl (by rfl) BelowR.refl fun xH w' kH hR => ⟨.pointer (some ⟨cb, 1, none⟩), run_fldO (vx := .pointer (some ⟨cb, 0, none⟩)) rfl (by rw [putsH_tmp (i := 6) (by kernel_rfl) (by kernel_rfl)]; exact kH 6 (by decide)) (by kernel_rfl), rfl⟩
  case p3 => exact held_load free_wide rfl BelowR.refl 93 (.tmp 19) rfl fun xH w' kH hR => ⟨⟨cb, 0, none⟩, .pointer (some ⟨fb, 0, none⟩), (by rw [putsH_tmp (i := 2) (by kernel_rfl) (by kernel_rfl)]; exact kH 2 (by decide)), run_loadVar_cell (naF w') (HLD.out w' 0 _ hR rfl), rfl⟩
  case p8 => exact held_load free_wide rfl BelowR.refl 56 (.tmp 24) rfl fun xH w' kH hR => ⟨⟨cb, 1, none⟩, .slice A5 5 c5, (by rw [putsH_tmp (i := 7) (by kernel_rfl) (by kernel_rfl)]; exact kH 7 (by decide)), run_loadVar_cell (naS w') (HLD.out w' 1 _ hR rfl), rfl⟩
  case p9 =>
    refine held_call free_wide rfl 57 _ _ rfl (enters_of Try.func57 (by kernel_rfl) rfl) fun xH w' kH hR => ⟨#[.pointer (some ⟨fb, 0, none⟩), .slice (some ⟨g9, 0, none⟩) 39 (39 + rest9.length), .slice A5 5 c5], mapE3 (by rw [putsH_tmp (i := 3) (by kernel_rfl) (by kernel_rfl)]; exact kH 3 (by decide)) (by rw [putsH_tmp (i := 4) (by kernel_rfl) (by kernel_rfl)]; exact kH 4 (by decide)) (by rw [putsH_tmp (i := 8) (by kernel_rfl) (by kernel_rfl)]; exact kH 8 (by decide)), ?_⟩
    refine (callsIn_wide.2 (HMOD.out w' hR)).mono ?_
    rintro r w3 ⟨u, rfl, h1, h2⟩
    exact ⟨_, rfl, ⟨u, rfl, h1.lower (by rw [← OZ.out.1]; exact hR.size)⟩, h2⟩
  case p10 => exact held_move free_wide rfl BelowR.refl (.tmp 26) (.inl rfl) fun xH w' kH _ => by rw [putsH_tmp (i := 9) (by kernel_rfl) (by kernel_rfl)]; exact kH 9 (by decide)
  case p11 =>
    refine held_run free_wide rfl (by rfl) BelowR.refl fun xH w' kH hR => ?_
    obtain ⟨u, h1, h2⟩ : ∃ u, xH 10 = .tuple #[u, .int .i64 0] ∧ Fr G2 w' u (modG d v) := kH 10 (by decide)
    exact ⟨u, run_extO rfl (by rw [putsH_tmp (i := 10) (by kernel_rfl) (by kernel_rfl)]; exact h1) rfl, h2⟩
  case p12 =>
    refine held_run free_wide rfl (by rfl) BelowR.refl fun xH w' kH hR => ?_
    obtain ⟨u, h1, h2⟩ : ∃ u, xH 10 = .tuple #[u, .int .i64 0] ∧ Fr G2 w' u (modG d v) := kH 10 (by decide)
    exact ⟨_, run_extO rfl (by rw [putsH_tmp (i := 10) (by kernel_rfl) (by kernel_rfl)]; exact h1) rfl, rfl⟩
  case p13 => exact held_move free_wide rfl BelowR.refl (.tmp 27) (.inr rfl) fun xH w' kH _ => by rw [putsH_tmp (i := 11) (by kernel_rfl) (by kernel_rfl)]; exact kH 11 (by decide)
  case p14 => exact held_move free_wide rfl BelowR.refl (.tmp 28) (.inr rfl) fun xH w' kH _ => by rw [putsH_tmp (i := 12) (by kernel_rfl) (by kernel_rfl)]; exact kH 12 (by decide)
  case pend =>
    intro xH w' hv hR
    have h13 : Fr G2 w' (xH 13) (modG d v) := hv 13 (by omega)
    have h14 : xH 14 = .int .i64 0 := hv 14 (by omega)
    obtain ⟨u, hu⟩ : ∃ u, xH 13 = u := ⟨_, rfl⟩
    rw [hu] at h13
    simp only [List.take_succ_cons, List.take_zero, List.drop_succ_cons, List.drop_zero, putsH, Act.put, List.setIfInBounds_toArray, List.set_cons_succ, List.set_cons_zero, hu, h14]
    have OW2 := Lib.hid (OW.out.step hR)
    obtain ⟨U, W3, hcp, hO3, hz3⟩ := copy_own (k := 3) (zs := List.replicate 4 0) OW2.out rfl h13 (by have := modG_le d v; simpa using this)
    rw [List.length_replicate] at hcp
    rw [chkL_copy] at hO3
    have HCP := Lib.hid hcp
    have OW3 := Lib.hid hO3
    obtain ⟨G3, OZ3⟩ := own_size OW3 HB0
    have hs4 := arS4 (b0 + 1 + 1 + 1)
    clear hv hR OW OZ hcp hO3 hz3 h13 hu HMOD HLD OW2
    gi_wp2_with (first
      | (refine op_copy 56 (.tmp 31) (.tmp 32) rfl rfl (.slice (some ⟨b0 + 1 + 1 + 1, 0, none⟩) 4 4) u U rfl rfl HCP.out ?_)
      | (refine own_loadRow 3 68 (.tmp 7) rfl rfl rfl rfl _ Try.underlying68 rfl (arJ4 (chkL_len d v)) OW3 ?_)
      | (refine own_storeRow 2 68 (.tmp 6) (.tmp 34) rfl rfl rfl rfl (rawV (chkL d v)) rfl (by rw [rawV_size, rawV_size, chkL_len]; rfl) (rawV_one _) (arJ4 (chkL_len d v)) _ rfl OW3 OZ3 ?_; clear OW3 OZ3; intro W3 OW3 OZ3))
    refine leaves_own [] _ (Nat.le_of_eq HB0.out) (by simpa using OW3.out) ?_
    intro W' hO
    exact ⟨_, results_ownRow hO 2 rfl rfl rfl Try.underlying68 rfl (arJ4 (chkL_len d v)), rfl, hO.done HB0⟩
end Go.Proofs.Ytkeheickaogpiaa
namespace Go.Proofs.Ytkeheickaogpiaa
open Go.RowKit Go.Shelf
set_option linter.unusedVariables false
attribute [local go_sem] Oper.semAt_some

section
variable {P : Program} {w w2 : World} {o : Oper} {ρ : Operand → Value}
theorem run_bslO {T : TypeId} {len : Nat} (ho : o.op = .buildSlice T len #[]) {v' : Value} (hr : (Instr.buildSlice T len #[]).run P w = .ok v' w2) : (execOp ρ o).run P w = .ok (.value v') w2 := by
  unfold execOp
  simp only [ho, Array.map_empty, Sem.run_bind, hr, Result.andThen_ok, Sem.run_pure]
end
theorem build0 (w : World) : (Instr.buildSlice 56 0 #[]).run Try.prog w = .ok (.slice (some ⟨w.heap.size, 0, none⟩) 0 0) (w.alloc (.cells (rowV [] []) 5)) := by kernel_rfl
/-- The value of all symbols at the root number j. -/
def synF (w v : List UInt8) (j : Nat) : UInt8 := evalL (w ++ v) (pw 2 j)
def synL (w v : List UInt8) : List UInt8 := ofF 4 (synF w v)
theorem synL_len (w v : List UInt8) : (synL w v).length = 4 := ofF_len _ _
def syTo (w v : List UInt8) (k : Nat) : List UInt8 := ofF 4 fun j => if j < k then synF w v j else 0
theorem syTo_len (w v : List UInt8) (k : Nat) : (syTo w v k).length = 4 := ofF_len _ _
theorem syTo_zero (w v : List UInt8) : syTo w v 0 = List.replicate 4 0 := ofF_zero _ _ fun i _ => if_neg (by omega)
theorem syTo_all (w v : List UInt8) : syTo w v 4 = synL w v := ofF_congr fun i hi => if_pos hi
theorem syTo_set (w v : List UInt8) (k : Nat) : (syTo w v k).set k (synF w v k) = syTo w v (k + 1) :=
  ofF_succ_set _ _ _ _ _ fun i _ => by
    by_cases e : i = k
    · subst e; rw [if_pos (by omega), if_pos rfl]
    · rw [if_neg e]
      by_cases h : i < k
      · rw [if_pos (by omega), if_pos h]
      · rw [if_neg (by omega), if_neg h]
theorem fexp_any (b k : Nat) (hk : k < 255) (w : World) (hF : FieldAt w b) :
    Calls Try.prog 72 #[.pointer (some ⟨b, 0, none⟩), .int .i64 (k : Int)] w fun e w' => e = .returned (.int .u8 ((pw 2 k).toNat : Int)) ∧ ∃ q, w' = w.drewN q := by
  rw [pw2_gE, Nat.mod_eq_of_lt hk]
  exact exp_any b _ k (by omega) w hF

set_option maxRecDepth 100000 in
set_option maxHeartbeats 1000000 in
theorem synd_any (cb fb : Nat) (d v : List UInt8) (hd : d.length = 36) (hv : v.length = 3) (w : World) (hC : CodeAt w cb fb) :
    Calls Try.prog 96 #[.pointer (some ⟨cb, 0, none⟩), .agg (rawV d), .agg (rawV v)] w fun e w' => e = .returned (.agg (rawV (synL d v))) ∧ Below w.heap.size w w' := by
  have HC := Lib.hid hC
  have HLA := Lib.hid hd
  have HLV := Lib.hid hv
  obtain ⟨b0, hb0⟩ : ∃ b0, w.heap.size = b0 := ⟨_, rfl⟩
  have HB0 := Lib.hid hb0
  have OW := Lib.hid (Own.start b0 w)
  have OZ := Lib.hid (And.intro hb0 (Nat.le_refl b0))
  clear hb0
  clear hC hd hv
  refine (callsIn_wide (n := 6)).1 ?_
  refine callsIn_of_wp_marks Try.func96 rfl trivial ?_ rfl
  simp only [Try.ntmps96, List.size_toArray, List.length_cons, List.length_nil, Nat.reduceAdd, Nat.reduceSub, Array.replicate_succ, Array.replicate_zero, List.push_toArray, List.append_toArray, List.nil_append, List.cons_append]
  gi_wp2_with (first
    | (refine own_box 79 (.tmp 1) rfl rfl (.agg (rawV d)) rfl (rawV d) rfl OW OZ ?_; clear OW OZ; intro W OW OZ)
    | (refine own_box 43 (.tmp 2) rfl rfl (.agg (rawV v)) rfl (rawV v) rfl OW OZ ?_; clear OW OZ; intro W OW OZ)
    | (refine own_alloc 68 rfl rfl _ al4 OW OZ ?_; clear OW OZ; intro W OW OZ))
  refine wpIn_region_held 4 (atD [[], [], [0, 1], []]) (atV [fun v W => ∃ g, v = .slice (some ⟨g, 0, none⟩) 0 0 ∧ b0 ≤ g ∧ Blk W g 5 (rowV ([] : List UInt8) []), fun v _ => v = .slice (some ⟨b0, 0, none⟩) 36 36,
    fun v W => ∃ g rest, v = .slice (some ⟨g, 0, none⟩) 36 (36 + rest.length) ∧ b0 + 1 + 1 + 1 + 1 ≤ g ∧ 36 + rest.length ≤ maxLen ∧ Blk W g 5 (rowV (([] : List UInt8) ++ d) rest), fun v _ => v = .slice (some ⟨(b0 + 1), 0, none⟩) 3 3]) BelowR (by kernel_rfl) (by kernel_rfl) BelowR.trans (BelowR.drew _)
    (StV.atV (.cons (fun v x y ⟨g, h1, h2, h3⟩ hb => ⟨g, h1, h2, h3.below hb h3.lt⟩) (.const _ (.cons (fun v x y ⟨g, r, h1, h2, h3, h4⟩ hb => ⟨g, r, h1, h2, h3, h4.below hb h4.lt⟩) (.const _ .nil)))))
    ⟨?o0, ?o1, ?o2, ?o3, trivial⟩ ?hend
  case o0 => exact held_valW free_wide rfl (by rfl) fun xH w' kH hR => ⟨_, _, run_bslO rfl (build0 w'), ⟨_, rfl, Nat.le_trans OZ.out.2 (by rw [← OZ.out.1]; exact hR.size), Blk.new w' _ _⟩, (Below.refl _ w').alloc (Nat.le_refl _) _⟩
  case o1 => exact held_run free_wide rfl (by rfl) BelowR.refl fun xH w' kH hR => ⟨_, run_sliceO rfl (by rw [show (putsH xH _ 0 _).eval (.tmp 4) = .pointer (some ⟨b0, 0, none⟩) from (putsH_old (by kernel_rfl)).trans rfl]; exact arS36 b0 w'), rfl⟩
  case o3 => exact held_run free_wide rfl (by rfl) BelowR.refl fun xH w' kH hR => ⟨_, run_sliceO rfl (by rw [show (putsH xH _ 0 _).eval (.tmp 5) = .pointer (some ⟨(b0 + 1), 0, none⟩) from (putsH_old (by kernel_rfl)).trans rfl]; exact arS3 (b0 + 1) w'), rfl⟩
  case o2 =>
    refine held_valW free_wide rfl (by rfl) fun xH w' kH hR => ?_
    obtain ⟨g, hg1, hg2, hg3⟩ : ∃ g, xH 0 = .slice (some ⟨g, 0, none⟩) 0 0 ∧ b0 ≤ g ∧ Blk w' g 5 (rowV ([] : List UInt8) []) := kH 0 (by decide)
    have h1 : xH 1 = .slice (some ⟨b0, 0, none⟩) 36 36 := kH 1 (by decide)
    have hr : RdB w' (some ⟨b0, 0, none⟩) d := RdB.raw ((OW.out.step hR).blk (k := 0) rfl)
    obtain ⟨rest', hm, hrun⟩ := run_app_grow (xs := ([] : List UInt8)) (rest := []) (c := 36) hg3 hr (by rw [HLA.out]; decide) (by rw [HLA.out]; decide)
    rw [HLA.out] at hrun hm
    refine ⟨_, _, run_appO rfl (by rw [putsH_tmp (i := 0) (by kernel_rfl) (by kernel_rfl)]; exact hg1) (by rw [putsH_tmp (i := 1) (by kernel_rfl) (by kernel_rfl)]; exact h1) hrun, ⟨_, rest', rfl, (by rw [← OZ.out.1]; exact hR.size), hm, Blk.new w'.drew _ _⟩, ?_⟩
    exact Below.alloc (⟨rfl, rfl, rfl, Nat.le_refl _, fun _ _ => rfl⟩ : Below w'.heap.size w' w'.drew) (Nat.le_refl _) _
  intro xH w' hv hR
  obtain ⟨g0, h0, _, _⟩ : ∃ g, xH 0 = .slice (some ⟨g, 0, none⟩) 0 0 ∧ b0 ≤ g ∧ Blk w' g 5 (rowV ([] : List UInt8) []) := hv 0 (by omega)
  have h1 : xH 1 = .slice (some ⟨b0, 0, none⟩) 36 36 := hv 1 (by omega)
  obtain ⟨g, rest, h2, hg, hm, hblk⟩ : ∃ (g : Nat) (rest : List Value), xH 2 = .slice (some ⟨g, 0, none⟩) 36 (36 + rest.length) ∧ b0 + 1 + 1 + 1 + 1 ≤ g ∧ 36 + rest.length ≤ maxLen ∧ Blk w' g 5 (rowV (([] : List UInt8) ++ d) rest) := hv 2 (by omega)
  have h3 : xH 3 = .slice (some ⟨(b0 + 1), 0, none⟩) 3 3 := hv 3 (by omega)
  simp only [List.take_succ_cons, List.take_zero, List.drop_succ_cons, List.drop_zero, putsH, Act.put, List.setIfInBounds_toArray, List.set_cons_succ, List.set_cons_zero, h0, h1, h2, h3]
  have hl36 : (([] : List UInt8) ++ d : List UInt8).length = 36 := by rw [List.length_append, HLA.out]; rfl
  have hfr := Fr.ofBlk (B := b0 + 1 + 1 + 1 + 1) hblk hg (by rw [hl36]; exact hm)
  have hrv : RdB w' (some ⟨(b0 + 1), 0, none⟩) v := RdB.raw ((OW.out.step hR).blk (k := 1) rfl)
  obtain ⟨v', w2, hrun, hfr2, hb2⟩ := run_app (ys := v) (c := 3) hfr hrv (fun h => by cases h) (by rw [← OZ.out.1]; exact hR.size) (by rw [hl36, HLV.out]; decide)
  rw [hl36, HLV.out] at hrun
  have hl39 : (([] : List UInt8) ++ d ++ v : List UInt8).length = 39 := by rw [List.length_append, hl36, HLV.out]
  obtain ⟨g9, rest9, rfl, hg9, hm9, hblk9⟩ := hfr2.row (by rw [hl39]; decide)
  rw [hl39] at hrun hm9
  have OW2 := Lib.hid (Own.add OW.out (Below.trans (show Below W.heap.size W w' from hR) (by rw [OZ.out.1]; exact hb2)) (by rw [OZ.out.1]; exact OZ.out.2) (by rw [OZ.out.1]; exact hg9) hblk9)
  obtain ⟨G2, OZ2⟩ := own_size OW2 HB0
  have HRUN := Lib.hid hrun
  have HL39 := Lib.hid hl39
  clear hv hR OW OZ hrun hfr2 hb2 hfr hrv hblk hl36 hblk9 hl39 hm9 hg9
  have OW := OW2
  have OZ := OZ2
  clear OW2 OZ2
  gi_wp2_with (refine op_append 56 (.tmp 12) (.tmp 13) rfl rfl (.slice (some ⟨g, 0, none⟩) 36 (36 + rest.length)) (.slice (some ⟨(b0 + 1), 0, none⟩) 3 3) (.slice (some ⟨g9, 0, none⟩) 39 (39 + rest9.length)) rfl rfl HRUN.out ?_)
  obtain ⟨A5, c5, hcb, hcf, hcg, hc5⟩ := HC.out
  have HCB := Lib.hid (show cb < b0 by rw [← HB0.out]; exact hcb.lt)
  have HCD := Lib.hid (And.intro hcb hcf)
  clear hcb hcf hcg HRUN
  gi_loopw [15] (fun i wr => ∃ k : Nat, k ≤ 4 ∧ i = .int .i64 k ∧ Own b0 w [cellsO b0 79 (rawV d), cellsO (b0 + 1) 43 (rawV v), cellsO (b0 + 1 + 1) 68 (rawV (List.replicate 4 0)), cellsO (b0 + 1 + 1 + 1) 68 (rawV (syTo d v k)), cellsO g9 5 (rowV (d ++ v) rest9)] wr) (fun i _ => 4 - (intOf i).toNat)
  case atStart => exact ⟨0, by omega, rfl, by rw [syTo_zero]; exact OW.out⟩
  case round =>
    obtain ⟨k, hk, rfl, hO⟩ := hrel
    clear OW OZ
    have OW := Lib.hid hO
    obtain ⟨G, OZ⟩ := own_size OW HB0
    clear hO
    by_cases h1 : k < 4
    · have i0 : (0 : Int) ≤ (k : Int) := by omega
      have i1 : (k : Int) < 4 := by omega
      have hmod : ∀ W, Below wr.heap.size wr W → FieldAt W fb := fun W hb => by
        have h1 := (OW.out.step hb).below (Nat.le_of_eq HB0.out.symm)
        exact (h1.block fb (by rw [← HB0.out]; exact (Array.getElem?_eq_some_iff.1 HCD.out.2).1)).trans HCD.out.2
      have hld : ∀ W, Below wr.heap.size wr W → W.cell? ⟨cb, 0, none⟩ = some (.pointer (some ⟨fb, 0, none⟩)) := fun W hb => by
        have h1 := (OW.out.step hb).below (Nat.le_of_eq HB0.out.symm)
        exact ((HCD.out.1.below h1 HCB.out).cell 0).trans rfl
      have HMOD := Lib.hid hmod
      have HLD := Lib.hid hld
      have HS := Lib.hid (show (rawV (syTo d v k)).setIfInBounds k (vU (synF d v k)) = rawV (syTo d v (k + 1)) by rw [rawV_set, syTo_set])
      have HL := Lib.hid (show k < (rawV (syTo d v k)).size by rw [rawV_size, syTo_len]; exact h1)
      have HIX := Lib.hid (fun (W : World) => (show (Instr.indexAt 68 (.pointer (some ⟨b0 + 1 + 1 + 1, 0, none⟩)) (.int .i64 (k : Int))).run Try.prog W = .ok (.pointer (some ⟨b0 + 1 + 1 + 1, k, none⟩)) W from arX4 _ k h1 W))
      clear hmod hld
      gi_upto_region 6 with fail
      refine wpIn_region_held 14 (atD [[], [], [1], [2], [3], [], [], [6], [7], [8], [], [9, 10], [4, 5, 11], [0]]) (atV [fun v _ => v = .int .i64 (k : Int), fun v _ => v = .pointer (some ⟨cb, 0, none⟩), fun v _ => v = .pointer (some ⟨cb, 0, none⟩), fun v _ => v = .pointer (some ⟨cb, 0, none⟩), fun v _ => v = .pointer (some ⟨fb, 0, none⟩), fun v _ => v = .slice (some ⟨g9, 0, none⟩) 39 (39 + rest9.length),
        fun v _ => v = .pointer (some ⟨cb, 0, none⟩), fun v _ => v = .pointer (some ⟨cb, 0, none⟩), fun v _ => v = .pointer (some ⟨cb, 0, none⟩), fun v _ => v = .pointer (some ⟨fb, 0, none⟩), fun v _ => v = .int .i64 (k : Int), fun v _ => v = vU (pw 2 k), fun u _ => u = vU (synF d v k), fun v _ => v = .pointer (some ⟨b0 + 1 + 1 + 1, k, none⟩)]) BelowR (by kernel_rfl) (by kernel_rfl) BelowR.trans (BelowR.drew _)
        (StV.atV (.const _ (.const _ (.const _ (.const _ (.const _ (.const _ (.const _ (.const _ (.const _ (.const _ (.const _ (.const _ (.const _ (.const _ .nil)))))))))))))))
        ⟨?p0, ?p1, ?p2, ?p3, ?p4, ?p5, ?p6, ?p7, ?p8, ?p9, ?p10, ?p11, ?p12, ?p13, trivial⟩ ?pend
      case p0 => exact held_move free_wide rfl BelowR.refl (.tmp 9) (.inl rfl) fun xH w' _ _ => (putsH_old (by kernel_rfl)).trans rfl
      case p1 => exact held_move free_wide rfl BelowR.refl (.tmp 0) (.inl rfl) fun xH w' _ _ => (putsH_old (by kernel_rfl)).trans rfl
      case p5 => exact held_move free_wide rfl BelowR.refl (.tmp 8) (.inl rfl) fun xH w' _ _ => (putsH_old (by kernel_rfl)).trans rfl
      case p6 => exact held_move free_wide rfl BelowR.refl (.tmp 0) (.inl rfl) fun xH w' _ _ => (putsH_old (by kernel_rfl)).trans rfl
      case p10 => exact held_move free_wide rfl BelowR.refl (.tmp 9) (.inl rfl) fun xH w' _ _ => (putsH_old (by kernel_rfl)).trans rfl
      case p2 => exact held_run free_wide rfl (by rfl) BelowR.refl fun xH w' kH hR => ⟨.pointer (some ⟨cb, 0, none⟩), run_nilO (p := ⟨cb, 0, none⟩) rfl (by rw [putsH_tmp (i := 1) (by kernel_rfl) (by kernel_rfl)]; exact kH 1 (by decide)), rfl⟩
      case p7 => exact held_run free_wide rfl (by rfl) BelowR.refl fun xH w' kH hR => ⟨.pointer (some ⟨cb, 0, none⟩), run_nilO (p := ⟨cb, 0, none⟩) rfl (by rw [putsH_tmp (i := 6) (by kernel_rfl) (by kernel_rfl)]; exact kH 6 (by decide)), rfl⟩
      case p3 => exact held_run free_wide rfl (by rfl) BelowR.refl fun xH w' kH hR => ⟨.pointer (some ⟨cb, 0, none⟩), run_fldO (vx := .pointer (some ⟨cb, 0, none⟩)) rfl (by rw [putsH_tmp (i := 2) (by kernel_rfl) (by kernel_rfl)]; exact kH 2 (by decide)) (by kernel_rfl), rfl⟩
      case p8 => exact held_run free_wide rfl (by rfl) BelowR.refl fun xH w' kH hR => ⟨.pointer (some ⟨cb, 0, none⟩), run_fldO (vx := .pointer (some ⟨cb, 0, none⟩)) rfl (by rw [putsH_tmp (i := 7) (by kernel_rfl) (by kernel_rfl)]; exact kH 7 (by decide)) (by kernel_rfl), rfl⟩
      case p4 => exact held_load free_wide rfl BelowR.refl 93 (.tmp 21) rfl fun xH w' kH hR => ⟨⟨cb, 0, none⟩, .pointer (some ⟨fb, 0, none⟩), (by rw [putsH_tmp (i := 3) (by kernel_rfl) (by kernel_rfl)]; exact kH 3 (by decide)), run_loadVar_cell (naF w') (HLD.out w' hR), rfl⟩
      case p9 => exact held_load free_wide rfl BelowR.refl 93 (.tmp 26) rfl fun xH w' kH hR => ⟨⟨cb, 0, none⟩, .pointer (some ⟨fb, 0, none⟩), (by rw [putsH_tmp (i := 8) (by kernel_rfl) (by kernel_rfl)]; exact kH 8 (by decide)), run_loadVar_cell (naF w') (HLD.out w' hR), rfl⟩
      case p11 =>
        refine held_call free_wide rfl 72 _ _ rfl (enters_of Try.func72 (by kernel_rfl) rfl) fun xH w' kH hR => ⟨#[.pointer (some ⟨fb, 0, none⟩), .int .i64 (k : Int)], mapE2 (by rw [putsH_tmp (i := 9) (by kernel_rfl) (by kernel_rfl)]; exact kH 9 (by decide)) (by rw [putsH_tmp (i := 10) (by kernel_rfl) (by kernel_rfl)]; exact kH 10 (by decide)), ?_⟩
        refine (callsIn_wide.2 (fexp_any fb k (by omega) w' (HMOD.out w' hR))).mono ?_
        rintro r w3 ⟨rfl, q, hq⟩
        exact ⟨_, rfl, rfl, by rw [hq]; exact below_self_drewN w' q⟩
      case p12 =>
        refine held_call free_wide rfl 100 _ _ rfl (enters_of Try.func100 (by kernel_rfl) rfl) fun xH w' kH hR => ⟨#[.pointer (some ⟨fb, 0, none⟩), .slice (some ⟨g9, 0, none⟩) 39 (39 + rest9.length), vU (pw 2 k)], mapE3 (by rw [putsH_tmp (i := 4) (by kernel_rfl) (by kernel_rfl)]; exact kH 4 (by decide)) (by rw [putsH_tmp (i := 5) (by kernel_rfl) (by kernel_rfl)]; exact kH 5 (by decide)) (by rw [putsH_tmp (i := 11) (by kernel_rfl) (by kernel_rfl)]; exact kH 11 (by decide)), ?_⟩
        refine (callsIn_wide.2 (peval_any fb (some ⟨g9, 0, none⟩) 39 (39 + rest9.length) (d ++ v) (pw 2 k) HL39.out (by omega) w' (HMOD.out w' hR) (RdB.row ((OW.out.step hR).blk (k := 4) rfl)))).mono ?_
        rintro r w3 ⟨rfl, hb⟩
        exact ⟨_, rfl, rfl, hb⟩
      case p13 => exact held_run free_wide rfl (by rfl) BelowR.refl fun xH w' kH hR => ⟨.pointer (some ⟨b0 + 1 + 1 + 1, k, none⟩), run_idxO (vx := .pointer (some ⟨b0 + 1 + 1 + 1, 0, none⟩)) (vi := .int .i64 (k : Int)) rfl ((putsH_old (by kernel_rfl)).trans rfl) (by rw [putsH_tmp (i := 0) (by kernel_rfl) (by kernel_rfl)]; exact kH 0 (by decide)) (HIX.out w'), rfl⟩
      case pend =>
        intro xH w' hv hR
        have e12 : xH 12 = vU (synF d v k) := hv 12 (by omega)
        have e13 : xH 13 = .pointer (some ⟨b0 + 1 + 1 + 1, k, none⟩) := hv 13 (by omega)
        simp only [List.take_succ_cons, List.take_zero, List.drop_succ_cons, List.drop_zero, putsH, Act.put, List.setIfInBounds_toArray, List.set_cons_succ, List.set_cons_zero, e12, e13]
        have OW2 := Lib.hid (OW.out.step hR)
        obtain ⟨G2, OZ2⟩ := own_size OW2 HB0
        clear hv hR OW OZ HMOD HLD
        gi_wp2_with (refine own_store 3 5 (.tmp 31) (.tmp 30) rfl rfl rfl rfl (vU (synF d v k)) rfl _ HS.out HL.out rfl szU8 _ rfl OW2 OZ2 ?_; clear OW2 OZ2; intro W OW2 OZ2)
        go_roundw
        case rel => exact ⟨k + 1, by omega, by go_num, OW2.out⟩
        case measure => simp [intOf]; omega
    · obtain rfl : k = 4 := by omega
      rw [syTo_all] at OW
      gi_wp2_with (first
        | (refine own_loadRow 3 68 (.tmp 7) rfl rfl rfl rfl _ Try.underlying68 rfl (arJ4 (synL_len d v)) OW ?_)
        | (refine own_storeRow 2 68 (.tmp 6) (.tmp 33) rfl rfl rfl rfl (rawV (synL d v)) rfl (by rw [rawV_size, rawV_size, synL_len]; rfl) (rawV_one _) (arJ4 (synL_len d v)) _ rfl OW OZ ?_; clear OW OZ; intro W3 OW OZ))
      refine leaves_own [] _ (Nat.le_of_eq HB0.out) (by simpa using OW.out) ?_
      intro W' hO
      exact ⟨_, results_ownRow hO 2 rfl rfl rfl Try.underlying68 rfl (arJ4 (synL_len d v)), rfl, hO.done HB0⟩
end Go.Proofs.Ytkeheickaogpiaa
