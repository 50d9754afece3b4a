/- Drawn regions that store single cells of one block: the relation that holds between the worlds inside one. No program in sight. -/
import Derived.Test.YtckhkagkpldoiaaOwnV
namespace Go.Proofs.Ytckhkagkpldoiaa
open Go Go.RowKit

/-- All blocks but g are kept; a cell of g is as it was, or holds what ws says. -/
structure StR (g : Nat) (ws : List (Nat × Value)) (x y : World) : Prop where
  os : y.os = x.os
  tape : y.tape = x.tape
  output : y.output = x.output
  size : x.heap.size ≤ y.heap.size
  far : ∀ b, b < x.heap.size → b ≠ g → y.heap[b]? = x.heap[b]?
  ch : ∀ t cs, x.heap[g]? = some (.cells cs t (0, 0)) → ∃ cs', y.heap[g]? = some (.cells cs' t (0, 0)) ∧ cs'.size = cs.size ∧ ∀ i : Nat, cs'[i]? = cs[i]? ∨ ∃ v, (i, v) ∈ ws ∧ cs'[i]? = some v
section
variable {g : Nat} {ws : List (Nat × Value)} {x y z w w' W W' : World} {B : Nat} {base : World} {L L' : Objs}
theorem StR.trans (x y z : World) (h : StR g ws x y) (k : StR g ws y z) : StR g ws x z :=
  ⟨k.os.trans h.os, k.tape.trans h.tape, k.output.trans h.output, Nat.le_trans h.size k.size, fun b hb hg => (k.far b (Nat.lt_of_lt_of_le hb h.size) hg).trans (h.far b hb hg),
    fun t cs hx => by
      obtain ⟨c1, h1, h2, h3⟩ := h.ch t cs hx
      obtain ⟨c2, k1, k2, k3⟩ := k.ch t c1 h1
      refine ⟨c2, k1, k2.trans h2, fun i => ?_⟩
      rcases k3 i with e | e
      · rcases h3 i with e2 | ⟨v, m, e2⟩
        · exact .inl (e.trans e2)
        · exact .inr ⟨v, m, e.trans e2⟩
      · exact .inr e⟩
theorem StR.refl (x : World) : StR g ws x x := ⟨rfl, rfl, rfl, Nat.le_refl _, fun _ _ _ => rfl, fun _ cs h => ⟨cs, h, rfl, fun _ => .inl rfl⟩⟩
theorem StR.drew (x : World) : StR g ws x x.drew := ⟨rfl, rfl, rfl, Nat.le_refl _, fun _ _ _ => rfl, fun _ cs h => ⟨cs, h, rfl, fun _ => .inl rfl⟩⟩
theorem StR.below (h : Below x.heap.size x y) : StR g ws x y :=
  have hs := fun b (hb : b < x.heap.size) => h.block b hb
  ⟨h.os, h.tape, h.output, h.size, fun b hb _ => hs b hb, fun _ cs hx => ⟨cs, (hs g (Array.getElem?_eq_some_iff.1 hx).1).trans hx, rfl, fun _ => .inl rfl⟩⟩
/-- A cell that stands as it was told. -/
def CellIs (g i : Nat) (v : Value) (w : World) : Prop := ∃ t cs, w.heap[g]? = some (.cells cs t (0, 0)) ∧ cs[i]? = some v
theorem StR.keeps {i : Nat} {v : Value} (hu : ∀ u, (i, u) ∈ ws → u = v) (h : CellIs g i v x) (k : StR g ws x y) : CellIs g i v y := by
  obtain ⟨t, cs, h1, h2⟩ := h
  obtain ⟨c1, k1, _, k3⟩ := k.ch t cs h1
  rcases k3 i with e | ⟨u, m, e⟩
  · exact ⟨t, c1, k1, e.trans h2⟩
  · exact ⟨t, c1, k1, by rw [← hu u m]; exact e⟩
theorem StR.cell {k i : Nat} {t : TypeId} {cs : Array Value} {v : Value} (OW : Own B base L w) (hk : L[k]? = some (g, .cells cs t (0, 0))) (hv : cs[i]? = some v) (hu : ∀ u, (i, u) ∈ ws → u = v) (h : StR g ws w w') : w'.cell? ⟨g, i, none⟩ = some v := by
  obtain ⟨t2, c2, h1, h2⟩ := h.keeps hu ⟨t, cs, OW.get hk, hv⟩
  rw [cell_of_row w' g i c2 t2 (0, 0) h1]
  exact h2
theorem StR.get {k : Nat} {o : Nat × Obj} (OW : Own B base L w) (hk : L[k]? = some o) (hne : o.1 ≠ g) (h : StR g ws w w') : w'.heap[o.1]? = some o.2 :=
  (h.far _ (OW.lt (List.mem_of_getElem? hk)) hne).trans (OW.get hk)
theorem Own.apart (OW : Own B base L w) {j k : Nat} {x y : Nat × Obj} (hj : L[j]? = some x) (hk : L[k]? = some y) (hne : j ≠ k) : x.1 ≠ y.1 := by
  obtain ⟨h1, rfl⟩ := List.getElem?_eq_some_iff.1 hj
  obtain ⟨h2, rfl⟩ := List.getElem?_eq_some_iff.1 hk
  have hp := List.pairwise_iff_getElem.1 OW.nd
  rcases Nat.lt_or_gt_of_ne hne with h | h
  · exact hp j k h1 h2 h
  · exact Ne.symm (hp k j h2 h1 h)
/-- One object is another one now; new blocks may have come. -/
theorem Own.putG (h : Own B base L W) {k g : Nat} {o o' : Obj} (hk : L[k]? = some (g, o)) (hos : W'.os = W.os) (htp : W'.tape = W.tape) (hout : W'.output = W.output) (hsz : W.heap.size ≤ W'.heap.size)
    (hg : W'.heap[g]? = some o') (hf : ∀ b, b < W.heap.size → b ≠ g → W'.heap[b]? = W.heap[b]?) : Own B base (L.set k (g, o')) W' := by
  have hkl : k < L.length := (List.getElem?_eq_some_iff.1 hk).1
  have hke : L[k] = (g, o) := (List.getElem?_eq_some_iff.1 hk).2
  have hne : ∀ j (hj : j < L.length), j ≠ k → L[j].1 ≠ g := fun j hj hjk => by
    have hp := List.pairwise_iff_getElem.1 h.nd
    rcases Nat.lt_or_gt_of_ne hjk with h1 | h1
    · have := hp j k hj hkl h1; rwa [hke] at this
    · have := hp k j hkl hj h1; rw [hke] at this; exact Ne.symm this
  have hmem : ∀ x ∈ L.set k (g, o'), x = (g, o') ∨ (x ∈ L ∧ x.1 ≠ g) := fun x hx => by
    obtain ⟨j, hj, rfl⟩ := List.getElem_of_mem hx
    rw [List.length_set] at hj
    rw [List.getElem_set]
    split
    · exact .inl rfl
    · rename_i e
      exact .inr ⟨List.getElem_mem hj, hne j hj (Ne.symm e)⟩
  refine ⟨?_, ?_, ?_, hos.trans h.os, htp.trans h.tape, hout.trans h.output, Nat.le_trans h.size hsz, ?_⟩
  · intro x hx
    rcases hmem x hx with rfl | ⟨h1, h2⟩
    · exact hg
    · exact (hf _ (h.lt h1) h2).trans (h.obj x h1)
  · rw [List.pairwise_iff_getElem]
    intro i j hi hj hij
    have hp := List.pairwise_iff_getElem.1 h.nd
    rw [List.length_set] at hi hj
    have e : ∀ m (hm : m < (L.set k (g, o')).length), ((L.set k (g, o'))[m]).1 = (L[m]'(by rw [List.length_set] at hm; exact hm)).1 := fun m hm => by
      rw [List.getElem_set]
      split
      · rename_i e; subst e; rw [hke]
      · rfl
    rw [e, e]
    exact hp i j hi hj hij
  · intro x hx
    rcases hmem x hx with rfl | ⟨h1, _⟩
    · exact h.lo (g, o) (List.mem_of_getElem? hk)
    · exact h.lo x h1
  · intro b hb hn
    have hbg : b ≠ g := fun e => by
      subst e
      exact hn (b, o') (List.mem_of_getElem? (by rw [List.getElem?_set_self hkl])) rfl
    rw [hf b (Nat.lt_of_lt_of_le hb h.size) hbg]
    refine h.far b hb fun x hx e => ?_
    obtain ⟨j, hj, rfl⟩ := List.getElem_of_mem hx
    by_cases hjk : j = k
    · subst hjk; rw [hke] at e; exact hbg e.symm
    · refine hn L[j] (List.mem_of_getElem? (i := j) ?_) e
      rw [List.getElem?_set_ne (Ne.symm hjk), List.getElem?_eq_getElem hj]
/-- Behind the region: each cell of ws holds what it says. -/
theorem Own.stored {k : Nat} {t : TypeId} {cs : Array Value} (OW : Own B base L w) (hk : L[k]? = some (g, .cells cs t (0, 0))) (h : StR g ws w w') (hv : ∀ p ∈ ws, CellIs g p.1 p.2 w') (cs2 : Array Value) (hs : cs2.size = cs.size)
    (hc : ∀ i, i < cs.size → (∃ v, (i, v) ∈ ws ∧ cs2[i]? = some v) ∨ ((∀ v, (i, v) ∉ ws) ∧ cs2[i]? = cs[i]?)) : Own B base (L.set k (g, .cells cs2 t (0, 0))) w' := by
  obtain ⟨c1, k1, k2, k3⟩ := h.ch t cs (OW.get hk)
  have e : c1 = cs2 := by
    refine Array.ext_getElem? fun i => ?_
    by_cases hi : i < cs.size
    · rcases hc i hi with ⟨v, hm, h2⟩ | ⟨hn, h2⟩
      · obtain ⟨t3, c3, h3, h4⟩ := hv _ hm
        have h5 := k1.symm.trans h3
        simp only [Option.some.injEq, Obj.cells.injEq] at h5
        rw [h2, ← h4, h5.1]
      · rcases k3 i with e | ⟨v, hm, _⟩
        · rw [h2, e]
        · exact absurd hm (hn v)
    · rw [Array.getElem?_eq_none (by omega), Array.getElem?_eq_none (by omega)]
  subst e
  exact OW.putG hk h.os h.tape h.output h.size k1 h.far
end

section
variable {F : Fence} {n : Nat} {P : Program} {L : List Oper} {N : Nat} {Q : Exit → Act → World → Prop} {V : Nat → Value → World → Prop} {D : Nat → List Nat} {a : Act} {w : World} {k : Nat} {o : Oper} {g : Nat} {ws : List (Nat × Value)}
/-- A cell is stored. -/
theorem held_store (hF : Fence.free F) (hg : o.guard = none) (T : TypeId) (x y : Operand) (ho : o.op = .store T x y) (i : Nat) (v : Value) (h1 : v.oneCell' = true) (hsz : (P.info? T).map (·.size) = some 1) (hm : (i, v) ∈ ws) (hV : ∀ w', CellIs g i v w' → V k undef w')
    (h : ∀ (xs : Nat → Value) (w' : World), (∀ j ∈ D k, V j (xs j) w') → StR g ws w w' → (putsH xs (L.take N) 0 a).eval x = .pointer (some ⟨g, i, none⟩) ∧ (putsH xs (L.take N) 0 a).eval y = v ∧ ∃ t cs, w.heap[g]? = some (.cells cs t (0, 0)) ∧ i < cs.size) : HeldOp F n P L N Q V (StR g ws) D a w k o := by
  refine ⟨?_⟩
  intro xs w' hk hR K hK
  rw [if_pos (by simp [Region.wanted, hg])]
  obtain ⟨hx, hy, t, cs, hb0, hi⟩ := h xs w' hk hR
  obtain ⟨c1, hb, hs1, _⟩ := hR.ch t cs hb0
  have hi1 : i < c1.size := by omega
  have hr : (storeVar T ⟨g, i, none⟩ v).run P w' = .ok () (w'.setCell ⟨g, i, none⟩ v) := by
    cases hq : P.info? T with
    | none => simp [hq] at hsz
    | some inf =>
      have hs : inf.size = 1 := by simpa [hq] using hsz
      have hc : v.cells = #[v] := by cases v <;> first | rfl | simp [Value.oneCell'] at h1
      have hst : (store ⟨g, i, none⟩ v).run P w' = .ok () (w'.setCell ⟨g, i, none⟩ v) := by
        rw [run_store P w' ⟨g, i, none⟩ v .plain h1]
        have hcell : w'.cell? ⟨g, i, none⟩ = some c1[i] := by rw [cell_of_row w' g i c1 t (0, 0) hb]; exact Array.getElem?_eq_getElem hi1
        have hfz : w'.frozen? ⟨g, i, none⟩ = false := Blk.frozen (t := t) (cs := c1) hb i
        simp [hcell, hfz]
      unfold storeVar
      simp only [sizeOf, typeInfo, hc, Sem.run_bind]
      simp [hq, hs, storeCells, Addr.add, Sem.run_bind, hst]
  unfold Oper.wpIn
  refine ⟨fun f _ => hF.2 f, ?_⟩
  have hr2 : (execOp (putsH xs (L.take N) 0 a).eval o).run P w' = .ok .skip (w'.setCell ⟨g, i, none⟩ v) := by
    unfold execOp
    simp only [ho, hx, hy, Instr.storeAt, Instr.sureAddr, Sem.run_bind, Sem.run_pure, Result.andThen_ok, hr]
  rw [Oper.semAt_plain F _ o (fun c hc => by rw [ho] at hc; cases hc), hr2]
  have hg2 := heap_setCell_same w' g i c1 t v hb
  refine ⟨undef, rfl, hK _ _ (hV _ ⟨t, _, hg2, by rw [Array.getElem?_setIfInBounds_self_of_lt hi1]⟩) ⟨rfl, rfl, rfl, by simp [World.setCell], fun b _ hbg => heap_setCell_other w' ⟨g, i, none⟩ b v hbg, fun t2 c2 h2 => ?_⟩⟩
  have h5 := hb.symm.trans h2
  simp only [Option.some.injEq, Obj.cells.injEq] at h5
  obtain ⟨rfl, rfl, _⟩ := h5
  refine ⟨_, hg2, by simp, fun j => ?_⟩
  by_cases e : i = j
  · subst e; exact .inr ⟨v, hm, by rw [Array.getElem?_setIfInBounds_self_of_lt hi1]⟩
  · exact .inl (by rw [Array.getElem?_setIfInBounds_ne e])
end
end Go.Proofs.Ytckhkagkpldoiaa
