/- The blocks that a call has made, as one list: what lies in each; and all else as it was. Rules for operations that make, read and write them. No program in sight. -/
import Derived.Test.YtckhkagkpldoiaaHeld
import Derived.Test.YtckhkagkpldoiaaArr
import Derived.Test.YtckhkagkpldoiaaGrw
import Derived.Lib.Hide
namespace Go.Proofs.Ytckhkagkpldoiaa
open Go Go.RowKit

abbrev Objs := List (Nat × Obj)
abbrev cellsO (g : Nat) (t : TypeId) (cs : Array Value) : Nat × Obj := (g, .cells cs t (0, 0))

/-- The objects L lie as told, each a block from B on; beside them the world base is as it was. -/
structure Own (B : Nat) (base : World) (L : Objs) (W : World) : Prop where
  obj : ∀ x ∈ L, W.heap[x.1]? = some x.2
  nd : L.Pairwise (fun x y => x.1 ≠ y.1)
  lo : ∀ x ∈ L, B ≤ x.1
  os : W.os = base.os
  tape : W.tape = base.tape
  output : W.output = base.output
  size : base.heap.size ≤ W.heap.size
  far : ∀ b, b < base.heap.size → (∀ x ∈ L, x.1 ≠ b) → W.heap[b]? = base.heap[b]?

section
variable {B : Nat} {base W W' : World} {L L' : Objs}
theorem Own.start (B : Nat) (W : World) : Own B W [] W :=
  ⟨fun _ h => by simp at h, List.Pairwise.nil, fun _ h => by simp at h, rfl, rfl, rfl, Nat.le_refl _, fun _ _ _ => rfl⟩
theorem Own.lt (h : Own B base L W) {x : Nat × Obj} (hx : x ∈ L) : x.1 < W.heap.size := (Array.getElem?_eq_some_iff.1 (h.obj x hx)).1
theorem Own.get (h : Own B base L W) {k : Nat} {x : Nat × Obj} (hk : L[k]? = some x) : W.heap[x.1]? = some x.2 := h.obj x (List.mem_of_getElem? hk)
theorem Own.blk (h : Own B base L W) {k g : Nat} {t : TypeId} {cs : Array Value} (hk : L[k]? = some (g, .cells cs t (0, 0))) : Blk W g t cs := h.get hk
theorem Own.mem (h : Own B base L W) {g : Nat} {t : TypeId} {cs : Array Value} (hk : (g, Obj.cells cs t (0, 0)) ∈ L) : Blk W g t cs := h.obj _ hk
theorem Own.below (h : Own B base L W) (hB : B ≤ base.heap.size) : Below B base W :=
  ⟨h.os, h.tape, h.output, h.size, fun b hb => h.far b (by omega) (fun x hx e => by have := h.lo x hx; omega)⟩
theorem Own.rebase (h : Own B base L W) : Own B W L W := ⟨h.obj, h.nd, h.lo, rfl, rfl, rfl, Nat.le_refl _, fun _ _ _ => rfl⟩
theorem Own.trans (h : Own B base L W) (k : Own B W L' W') (hs : ∀ x ∈ L, ∃ y ∈ L', y.1 = x.1) : Own B base L' W' :=
  ⟨k.obj, k.nd, k.lo, k.os.trans h.os, k.tape.trans h.tape, k.output.trans h.output, Nat.le_trans h.size k.size, fun b hb hn =>
    (k.far b (Nat.lt_of_lt_of_le hb h.size) hn).trans (h.far b hb (fun x hx e => by obtain ⟨y, hy, he⟩ := hs x hx; exact hn y hy (he.trans e)))⟩
/-- A step that keeps all blocks. -/
theorem Own.step (h : Own B base L W) (hb : Below W.heap.size W W') : Own B base L W' :=
  ⟨fun x hx => (hb.block _ (h.lt hx)).trans (h.obj x hx), h.nd, h.lo, hb.os.trans h.os, hb.tape.trans h.tape, hb.output.trans h.output, Nat.le_trans h.size hb.size,
    fun b h1 h2 => (hb.block b (Nat.lt_of_lt_of_le h1 h.size)).trans (h.far b h1 h2)⟩
theorem below_self_drewN (W : World) (n : Nat) : Below W.heap.size W (W.drewN n) := ⟨rfl, rfl, rfl, Nat.le_refl _, fun _ _ => rfl⟩
theorem Own.drewN (h : Own B base L W) (n : Nat) : Own B base L (W.drewN n) := h.step (below_self_drewN W n)
theorem Own.drew (h : Own B base L W) : Own B base L W.drew := h.step ⟨rfl, rfl, rfl, Nat.le_refl _, fun _ _ => rfl⟩
/-- An object that has come since. -/
theorem Own.add (h : Own B base L W) (hb : Below W.heap.size W W') {g : Nat} {o : Obj} (hB : B ≤ W.heap.size) (hg : W.heap.size ≤ g) (ho : W'.heap[g]? = some o) : Own B base (L ++ [(g, o)]) W' := by
  have h2 := h.step hb
  refine ⟨?_, ?_, ?_, h2.os, h2.tape, h2.output, h2.size, fun b h1 hn => h2.far b h1 fun x hx => hn x (List.mem_append_left _ hx)⟩
  · intro x hx
    rcases List.mem_append.1 hx with hx | hx
    · exact h2.obj x hx
    · obtain rfl := List.mem_singleton.1 hx
      exact ho
  · refine List.pairwise_append.2 ⟨h2.nd, List.pairwise_singleton _ _, fun x hx y hy => ?_⟩
    obtain rfl := List.mem_singleton.1 hy
    have := h.lt hx
    show x.1 ≠ g
    omega
  · intro x hx
    rcases List.mem_append.1 hx with hx | hx
    · exact h2.lo x hx
    · obtain rfl := List.mem_singleton.1 hx
      exact Nat.le_trans hB hg
theorem Own.alloc (h : Own B base L W) (hB : B ≤ W.heap.size) (o : Obj) : Own B base (L ++ [(W.heap.size, o)]) (W.alloc o) :=
  h.add ((Below.refl _ W).alloc (Nat.le_refl _) o) hB (Nat.le_refl _) (World.alloc_heap_new W o)
/-- One object is another one now. -/
theorem Own.put (h : Own B base L W) {k g : Nat} {o o' : Obj} (hk : L[k]? = some (g, o)) (hos : W'.os = W.os) (htp : W'.tape = W.tape) (hout : W'.output = W.output) (hsz : W'.heap.size = W.heap.size)
    (hg : W'.heap[g]? = some o') (hf : ∀ b, b ≠ g → W'.heap[b]? = W.heap[b]?) : Own B base (L.set k (g, o')) W' := by
  have hkl : k < L.length := (List.getElem?_eq_some_iff.1 hk).1
  have hke : L[k] = (g, o) := (List.getElem?_eq_some_iff.1 hk).2
  have hne : ∀ j (hj : j < L.length), j ≠ k → L[j].1 ≠ g := fun j hj hjk => by
    have hp := List.pairwise_iff_getElem.1 h.nd
    rcases Nat.lt_or_gt_of_ne hjk with h1 | h1
    · have := hp j k hj hkl h1; rwa [hke] at this
    · have := hp k j hkl hj h1; rw [hke] at this; exact Ne.symm this
  have hmem : ∀ x ∈ L.set k (g, o'), x = (g, o') ∨ (x ∈ L ∧ x.1 ≠ g) := fun x hx => by
    obtain ⟨j, hj, rfl⟩ := List.getElem_of_mem hx
    rw [List.length_set] at hj
    rw [List.getElem_set]
    split
    · exact .inl rfl
    · rename_i e
      exact .inr ⟨List.getElem_mem hj, hne j hj (Ne.symm e)⟩
  refine ⟨?_, ?_, ?_, hos.trans h.os, htp.trans h.tape, hout.trans h.output, by rw [hsz]; exact h.size, ?_⟩
  · intro x hx
    rcases hmem x hx with rfl | ⟨h1, h2⟩
    · exact hg
    · exact (hf _ h2).trans (h.obj x h1)
  · rw [List.pairwise_iff_getElem]
    intro i j hi hj hij
    have hp := List.pairwise_iff_getElem.1 h.nd
    rw [List.length_set] at hi hj
    have e : ∀ m (hm : m < (L.set k (g, o')).length), ((L.set k (g, o'))[m]).1 = (L[m]'(by rw [List.length_set] at hm; exact hm)).1 := fun m hm => by
      rw [List.getElem_set]
      split
      · rename_i e; subst e; rw [hke]
      · rfl
    rw [e, e]
    exact hp i j hi hj hij
  · intro x hx
    rcases hmem x hx with rfl | ⟨h1, _⟩
    · exact h.lo (g, o) (List.mem_of_getElem? hk)
    · exact h.lo x h1
  · intro b hb hn
    have hbg : b ≠ g := fun e => by
      subst e
      exact hn (b, o') (List.mem_of_getElem? (by rw [List.getElem?_set_self hkl])) rfl
    rw [hf b hbg]
    refine h.far b hb fun x hx e => ?_
    obtain ⟨j, hj, rfl⟩ := List.getElem_of_mem hx
    by_cases hjk : j = k
    · subst hjk; rw [hke] at e; exact hbg e.symm
    · refine hn L[j] (List.mem_of_getElem? (i := j) ?_) e
      rw [List.getElem?_set_ne (Ne.symm hjk), List.getElem?_eq_getElem hj]
theorem Own.setc (h : Own B base L W) {k g i : Nat} {t : TypeId} {cs : Array Value} (hk : L[k]? = some (g, .cells cs t (0, 0))) (v : Value) : Own B base (L.set k (g, .cells (cs.setIfInBounds i v) t (0, 0))) (W.setCell ⟨g, i, none⟩ v) :=
  h.put hk rfl rfl rfl (by simp [World.setCell]) (heap_setCell_same W g i cs t v (h.get hk)) (fun b hb => heap_setCell_other W ⟨g, i, none⟩ b v hb)
theorem Own.setRow (h : Own B base L W) {k g : Nat} {t : TypeId} {cs : Array Value} (hk : L[k]? = some (g, .cells cs t (0, 0))) (cs' : Array Value) : Own B base (L.set k (g, .cells cs' t (0, 0))) (W.setRow g cs') :=
  h.put hk rfl rfl rfl (by simp) (setRow_heap W g cs cs' t (0, 0) (h.get hk)) (fun b hb => setRow_other W g b cs' hb)
theorem Own.putObj (h : Own B base L W) {k g : Nat} {o : Obj} (hk : L[k]? = some (g, o)) (o' : Obj) : Own B base (L.set k (g, o')) (W.putObj g o') :=
  h.put hk rfl rfl rfl (by simp [World.putObj]) (World.putObj_heap_same (h.lt (List.mem_of_getElem? hk))) (fun b hb => World.putObj_heap_other hb)
/-- The caller's blocks stand while the iterator turns others. -/
theorem Own.turn (h : Own B base L W) {O : Nat → Prop} (t : Turn (fun b => ¬ O b) W W') (hO : ∀ x ∈ L, O x.1) (hb : ∀ b, b < base.heap.size → O b) : Own B base L W' :=
  ⟨fun x hx => t.heap (fun e => e (hO x hx)) (h.obj x hx), h.nd, h.lo, t.os.trans h.os, t.tape.trans h.tape, t.output.trans h.output, Nat.le_trans h.size t.size,
    fun b h1 h2 => (t.same b (Nat.lt_of_lt_of_le h1 h.size) (fun e => e (hb b h1))).trans (h.far b h1 h2)⟩
/-- What a round of a range over a function has done: own blocks, and new ones. -/
theorem Own.grow (h : Own B W L' W') {m : Nat} {K : Nat → Prop} (hm : m ≤ W.heap.size) (hL : ∀ x ∈ L', x.1 < m ∨ W.heap.size ≤ x.1) (hK : ∀ b, K b → b < m → W'.heap[b]? = W.heap[b]?)
    (hC : ∀ x ∈ L', x.1 < m → x.2.isCells = false → ∃ o', W.heap[x.1]? = some o' ∧ o'.isCells = false) : Grow K (fun b => b < m) (fun b => b < m) W W' :=
  ⟨h.size, fun _ _ h => h, fun b hb => by have := h.size; omega, fun b o hb ho hc => by
      by_cases hx : ∃ x ∈ L', x.1 = b
      · obtain ⟨x, hx, rfl⟩ := hx
        have ho2 := (h.obj x hx).symm.trans ho
        cases ho2
        exact hC x hx hb hc
      · exact ⟨o, by rw [← h.far b (by omega) (fun x h1 h2 => hx ⟨x, h1, h2⟩)]; exact ho, hc⟩,
    fun b hb hk => by
      rcases hk with hk | hk
      · refine h.far b hb fun x hx e => ?_
        have := hL x hx
        omega
      · by_cases hbm : b < m
        · exact hK b hk hbm
        · refine h.far b hb fun x hx e => ?_
          have := hL x hx
          omega⟩
end

class FreeF (F : Fence) : Prop where
  out : Fence.free F
instance : FreeF Fence.wide := ⟨free_wide⟩
instance (l : Nat) : FreeF (Fence.wide.inRound l) := ⟨free_round l⟩

section
variable {F : Fence} {n : Nat} {P : Program} {ops : Array Oper} {Q : Exit → Act → World → Prop} {a : Act} {W W' : World} {rest : List Oper} {o : Oper} {B G : Nat} {base : World} {L : Objs}
/-- An operation by what it runs to. -/
theorem wpListIn_val [hF : FreeF F] (hw : Region.wanted o (yielded ops a.tmps) = true) (hnd : noDefer o = true) (v : Value) (hr : (execOp a.eval o).run P W = .ok (.value v) W') (h : wpListIn F n P ops Q rest (a.put o.dst v) W') : wpListIn F n P ops Q (o :: rest) a W := by
  refine wpListIn_step fun K hK => ?_
  rw [hw, if_pos rfl]
  unfold Oper.wpIn
  refine ⟨fun f _ => hF.out.2 f, ?_⟩
  rw [Oper.semAt_plain F a.eval o (noDefer_spec hnd), hr]
  exact hK _ _ h
theorem wpListIn_skp [hF : FreeF F] (hw : Region.wanted o (yielded ops a.tmps) = true) (hnd : noDefer o = true) (hr : (execOp a.eval o).run P W = .ok .skip W') (h : wpListIn F n P ops Q rest (a.put o.dst undef) W') : wpListIn F n P ops Q (o :: rest) a W := by
  refine wpListIn_step fun K hK => ?_
  rw [hw, if_pos rfl]
  unfold Oper.wpIn
  refine ⟨fun f _ => hF.out.2 f, ?_⟩
  rw [Oper.semAt_plain F a.eval o (noDefer_spec hnd), hr]
  exact hK _ _ h

theorem own_alloc [FreeF F] (T : TypeId) (ho : o.op = .alloc T) (hw : Region.wanted o (yielded ops a.tmps) = true) (cs : Array Value) (hr : ∀ w : World, (Instr.alloc T true (.tuple #[])).run P w = .ok (.pointer (some ⟨w.heap.size, 0, none⟩)) (w.alloc (.cells cs T)))
    (OW : Hid (Own B base L W)) (OZ : Hid (W.heap.size = G ∧ B ≤ G)) (h : ∀ W2 : World, Hid (Own B base (L ++ [(G, .cells cs T (0, 0))]) W2) → Hid (W2.heap.size = G + 1 ∧ B ≤ G + 1) → wpListIn F n P ops Q rest (a.put o.dst (.pointer (some ⟨G, 0, none⟩))) W2) : wpListIn F n P ops Q (o :: rest) a W := by
  obtain ⟨z1, z2⟩ := OZ
  subst z1
  refine wpListIn_val hw (by unfold noDefer; rw [ho]) (.pointer (some ⟨W.heap.size, 0, none⟩)) (W' := W.alloc (.cells cs T)) (by unfold execOp; simp only [ho, Sem.run_bind, hr, Result.andThen_ok, Sem.run_pure]) ?_
  exact h _ (OW.alloc z2 _) ⟨by simp, by omega⟩
theorem own_box [FreeF F] (T : TypeId) (x : Operand) (ho : o.op = .box T x) (hw : Region.wanted o (yielded ops a.tmps) = true) (v : Value) (hx : a.eval x = v) (cs : Array Value) (hv : v.cells = cs)
    (OW : Hid (Own B base L W)) (OZ : Hid (W.heap.size = G ∧ B ≤ G)) (h : ∀ W2 : World, Hid (Own B base (L ++ [(G, .cells cs T (0, 0))]) W2) → Hid (W2.heap.size = G + 1 ∧ B ≤ G + 1) → wpListIn F n P ops Q rest (a.put o.dst (.pointer (some ⟨G, 0, none⟩))) W2) : wpListIn F n P ops Q (o :: rest) a W := by
  obtain ⟨z1, z2⟩ := OZ
  subst z1
  subst hv
  refine wpListIn_val hw (by unfold noDefer; rw [ho]) (.pointer (some ⟨W.heap.size, 0, none⟩)) (W' := W.alloc (.cells v.cells T)) (by unfold execOp; simp only [ho, hx, Sem.run_bind, show (Instr.box T v).run P W = .ok (.pointer (some ⟨W.heap.size, 0, none⟩)) (W.alloc (.cells v.cells T)) from rfl, Result.andThen_ok, Sem.run_pure]) ?_
  exact h _ (OW.alloc z2 _) ⟨by simp, by omega⟩
theorem run_loadVar_cell {w : World} {T : TypeId} {p : Addr} {v : Value} (hna : (isAgg T).run P w = .ok false w) (hc : w.cell? p = some v) : (loadVar T p).run P w = .ok v w := by
  unfold loadVar
  rw [Sem.run_bind, hna, Result.andThen_ok]
  simp [hc]
theorem own_load [FreeF F] (k : Nat) (T : TypeId) (x : Operand) (ho : o.op = .load T x) (hw : Region.wanted o (yielded ops a.tmps) = true) {g i : Nat} {t : TypeId} {cs : Array Value} (hk : L[k]? = some (g, .cells cs t (0, 0))) (hx : a.eval x = .pointer (some ⟨g, i, none⟩)) (v : Value) (hv : cs[i]? = some v)
    (hna : ∀ w, (isAgg T).run P w = .ok false w) (OW : Hid (Own B base L W)) (h : wpListIn F n P ops Q rest (a.put o.dst v) W) : wpListIn F n P ops Q (o :: rest) a W :=
  wpListIn_val hw (by unfold noDefer; rw [ho]) v (W' := W) (by unfold execOp; simp only [ho, hx, Instr.loadAt, Instr.sureAddr, Sem.run_bind, Sem.run_pure, Result.andThen_ok, run_loadVar_cell (hna W) (((OW.out.blk hk).cell i).trans hv)]) h
theorem own_loadRow [FreeF F] (k : Nat) (T : TypeId) (x : Operand) (ho : o.op = .load T x) (hw : Region.wanted o (yielded ops a.tmps) = true) {g : Nat} {t : TypeId} {cs : Array Value} (hk : L[k]? = some (g, .cells cs t (0, 0))) (hx : a.eval x = .pointer (some ⟨g, 0, none⟩)) (d : TypeDesc)
    (hu : P.underlying T = some d) (hd : (match d with | .struct _ | .array _ _ => true | _ => false) = true) (hi : (P.info? T).map (·.size) = some cs.size) (OW : Hid (Own B base L W)) (h : wpListIn F n P ops Q rest (a.put o.dst (.agg cs)) W) : wpListIn F n P ops Q (o :: rest) a W :=
  wpListIn_val hw (by unfold noDefer; rw [ho]) (.agg cs) (W' := W) (by unfold execOp; simp only [ho, hx, Instr.loadAt, Instr.sureAddr, Sem.run_bind, Sem.run_pure, Result.andThen_ok, run_loadVar_row W g t T cs (0, 0) d (OW.out.get hk) hu hd hi]) h
theorem own_store [FreeF F] (k : Nat) (T : TypeId) (x y : Operand) (ho : o.op = .store T x y) (hw : Region.wanted o (yielded ops a.tmps) = true) {g i : Nat} {t : TypeId} {cs : Array Value} (hk : L[k]? = some (g, .cells cs t (0, 0))) (hx : a.eval x = .pointer (some ⟨g, i, none⟩)) (v : Value) (hy : a.eval y = v) (cs' : Array Value) (hcs : cs.setIfInBounds i v = cs')
    (hi : i < cs.size) (h1 : v.oneCell' = true) (hsz : (P.info? T).map (·.size) = some 1) (L' : Objs) (hL : L.set k (g, .cells cs' t (0, 0)) = L')
    (OW : Hid (Own B base L W)) (OZ : Hid (W.heap.size = G ∧ B ≤ G)) (h : ∀ W2 : World, Hid (Own B base L' W2) → Hid (W2.heap.size = G ∧ B ≤ G) → wpListIn F n P ops Q rest (a.put o.dst undef) W2) : wpListIn F n P ops Q (o :: rest) a W := by
  subst hcs
  subst hL
  have hb := OW.out.blk hk
  have hr : (storeVar T ⟨g, i, none⟩ v).run P W = .ok () (W.setCell ⟨g, i, none⟩ v) := by
    cases hq : P.info? T with
    | none => simp [hq] at hsz
    | some inf =>
      have hs : inf.size = 1 := by simpa [hq] using hsz
      have hc : v.cells = #[v] := by cases v <;> first | rfl | simp [Value.oneCell'] at h1
      have hst : (store ⟨g, i, none⟩ v).run P W = .ok () (W.setCell ⟨g, i, none⟩ v) := by
        rw [run_store P W ⟨g, i, none⟩ v .plain h1]
        have hcell : W.cell? ⟨g, i, none⟩ = some cs[i] := (hb.cell i).trans (Array.getElem?_eq_getElem hi)
        simp [hcell, hb.frozen i]
      unfold storeVar
      simp only [sizeOf, typeInfo, hc, Sem.run_bind]
      simp [hq, hs, storeCells, Addr.add, Sem.run_bind, hst]
  refine wpListIn_skp hw (by unfold noDefer; rw [ho]) (W' := W.setCell ⟨g, i, none⟩ v) (by unfold execOp; simp only [ho, hx, hy, Instr.storeAt, Instr.sureAddr, Sem.run_bind, Sem.run_pure, Result.andThen_ok, hr]) ?_
  exact h _ (OW.out.setc hk v) ⟨by simpa [World.setCell] using OZ.out.1, OZ.out.2⟩
theorem own_storeRow [FreeF F] (k : Nat) (T : TypeId) (x y : Operand) (ho : o.op = .store T x y) (hw : Region.wanted o (yielded ops a.tmps) = true) {g : Nat} {t : TypeId} {cs : Array Value} (hk : L[k]? = some (g, .cells cs t (0, 0))) (hx : a.eval x = .pointer (some ⟨g, 0, none⟩)) (cs' : Array Value) (hy : a.eval y = .agg cs')
    (hs : cs'.size = cs.size) (h1 : cs'.all (·.oneCell') = true) (hsz : (P.info? T).map (·.size) = some cs'.size) (L' : Objs) (hL : L.set k (g, .cells cs' t (0, 0)) = L')
    (OW : Hid (Own B base L W)) (OZ : Hid (W.heap.size = G ∧ B ≤ G)) (h : ∀ W2 : World, Hid (Own B base L' W2) → Hid (W2.heap.size = G ∧ B ≤ G) → wpListIn F n P ops Q rest (a.put o.dst undef) W2) : wpListIn F n P ops Q (o :: rest) a W := by
  subst hL
  have hr := run_storeVar_row (P := P) W g t T cs cs' (OW.out.get hk) hsz hs.symm h1
  refine wpListIn_skp hw (by unfold noDefer; rw [ho]) (W' := W.setRow g cs') (by unfold execOp; simp only [ho, hx, hy, Instr.storeAt, Instr.sureAddr, Sem.run_bind, Sem.run_pure, Result.andThen_ok, hr]) ?_
  exact h _ (OW.out.setRow hk cs') ⟨by simpa using OZ.out.1, OZ.out.2⟩
/-- Behind a store that the walk has made by itself. -/
theorem own_setcN {c : Code} {k g i : Nat} {t : TypeId} {cs : Array Value} {v : Value} (hk : L[k]? = some (g, .cells cs t (0, 0))) (OW : Hid (Own B base L W)) (OZ : Hid (W.heap.size = G ∧ B ≤ G))
    (h : ∀ W2 : World, Hid (Own B base (L.set k (g, .cells (cs.setIfInBounds i v) t (0, 0))) W2) → Hid (W2.heap.size = G ∧ B ≤ G) → c.wpIn F n P Q a W2) : c.wpIn F n P Q a (W.setCell ⟨g, i, none⟩ v) :=
  h _ (OW.out.setc hk v) (And.intro (by simpa [World.setCell] using OZ.out.1) OZ.out.2)
/-- How great the heap is. -/
theorem own_size (OW : Hid (Own B base L W)) (HB : Hid (base.heap.size = B)) : ∃ G, Hid (W.heap.size = G ∧ B ≤ G) := by
  have h1 := OW.out.size
  have h2 := HB.out
  exact ⟨W.heap.size, And.intro rfl (by omega)⟩
/-- Behind a call that keeps all blocks. -/
theorem own_call (OW : Hid (Own B base L W)) (OZ : Hid (W.heap.size = G ∧ B ≤ G)) (hb : Below W.heap.size W W') : ∃ G', Hid (Own B base L W') ∧ Hid (W'.heap.size = G' ∧ B ≤ G') :=
  ⟨_, OW.out.step hb, rfl, Nat.le_trans OZ.out.2 (by rw [← OZ.out.1]; exact hb.size)⟩
end
end Go.Proofs.Ytckhkagkpldoiaa
