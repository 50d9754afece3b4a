/- A region that draws its order and makes blocks in it: the blocks differ, whichever comes first. No program in sight. -/
import Derived.Test.YtdgflbbffimpkaaHeld
import Derived.Test.YtdgflbbffimpkaaOwn
namespace Go.Proofs.Ytdgflbbffimpkaa
open Go Go.RowKit Go.Shelf

/-- A pointer to the start of a block that stands, or of one that didn't. -/
def OldB (w : World) (v : Value) : Prop := ∃ g, v = .pointer (some ⟨g, 0, none⟩) ∧ g < w.heap.size
def NewB (w : World) (v : Value) : Prop := ∃ g, v = .pointer (some ⟨g, 0, none⟩) ∧ w.heap.size ≤ g
theorem NewB.ne {w : World} {u v : Value} (h : NewB w v) (k : OldB w u) : u ≠ v := by
  obtain ⟨g, rfl, h⟩ := h
  obtain ⟨g', rfl, k⟩ := k
  intro e
  injection e with e
  injection e with e
  injection e with e
  omega

section
variable {F : Fence} {n : Nat} {P : Program}
/-- One operation, at any world that the region may have reached; where M tells it, its value is a block of its own. -/
structure HeldOpM (F : Fence) (n : Nat) (P : Program) (L : List Oper) (N : Nat) (Q : Exit → Act → World → Prop) (V : Nat → Value → World → Prop) (R : World → World → Prop) (D : Nat → List Nat) (M : Nat → Bool) (a : Act) (w : World) (k : Nat) (o : Oper) : Prop where
  out : ∀ (xs : Nat → Value) (w' : World), (∀ j ∈ D k, V j (xs j) w') → R w w' → ∀ K : Value → World → Prop, (∀ v w'', V k v w'' → R w' w'' → (M k = true → NewB w' v) → K v w'') →
    if Region.wanted o (yielded L.toArray (putsH xs (L.take N) 0 a).tmps) = true then o.wpIn F n P (putsH xs (L.take N) 0 a) w' (fun a'' w'' => ∃ v, a'' = (putsH xs (L.take N) 0 a).put o.dst v ∧ K v w'') Q
    else (∀ f, o.about P w' (putsH xs (L.take N) 0 a).eval = some f → F.fn f) ∧ K undef w'
def HeldOpsM (F : Fence) (n : Nat) (P : Program) (L : List Oper) (N : Nat) (Q : Exit → Act → World → Prop) (V : Nat → Value → World → Prop) (R : World → World → Prop) (D : Nat → List Nat) (M : Nat → Bool) (a : Act) (w : World) : Nat → List Oper → Prop
  | _, [] => True
  | k, o :: os => HeldOpM F n P L N Q V R D M a w k o ∧ HeldOpsM F n P L N Q V R D M a w (k + 1) os
theorem HeldOpsM.get {L : List Oper} {N : Nat} {Q : Exit → Act → World → Prop} {V : Nat → Value → World → Prop} {R : World → World → Prop} {D : Nat → List Nat} {M : Nat → Bool} {a : Act} {w : World} : ∀ (l : List Oper) (k : Nat), HeldOpsM F n P L N Q V R D M a w k l → ∀ i o, l[i]? = some o → HeldOpM F n P L N Q V R D M a w (k + i) o
  | [], _, _, i, _, h => by simp at h
  | p :: os, k, h, 0, o, ho => by
    simp only [List.getElem?_cons_zero, Option.some.injEq] at ho
    subst ho
    exact h.1
  | p :: os, k, h, i + 1, o, ho => by
    rw [List.getElem?_cons_succ] at ho
    have := HeldOpsM.get os (k + 1) h.2 i o ho
    rwa [show k + 1 + i = k + (i + 1) by omega] at this
section
variable {L : List Oper} {N : Nat} {Q : Exit → Act → World → Prop} {V : Nat → Value → World → Prop} {R : World → World → Prop} {D : Nat → List Nat} {M : Nat → Bool} {a : Act} {w : World} {k : Nat} {o : Oper}
theorem HeldOpM.of (hM : M k = false) (h : HeldOp F n P L N Q V R D a w k o) : HeldOpM F n P L N Q V R D M a w k o :=
  ⟨fun xs w' hk hR K hK => h.out xs w' hk hR K fun v w'' h1 h2 => hK v w'' h1 h2 fun e => by rw [hM] at e; cases e⟩
/-- A block is made. -/
theorem held_allocM (hF : Fence.free F) (hg : o.guard = none) (T : TypeId) (ho : o.op = .alloc T) (cs : Array Value) (hr : ∀ w : World, (Instr.alloc T true (.tuple #[])).run P w = .ok (.pointer (some ⟨w.heap.size, 0, none⟩)) (w.alloc (.cells cs T)))
    (hV : ∀ w' : World, R w w' → V k (.pointer (some ⟨w'.heap.size, 0, none⟩)) (w'.alloc (.cells cs T))) (hR2 : ∀ w' : World, R w' (w'.alloc (.cells cs T))) : HeldOpM F n P L N Q V R D M a w k o := by
  refine ⟨?_⟩
  intro xs w' hk hR K hK
  rw [if_pos (by simp [Region.wanted, hg])]
  unfold Oper.wpIn
  refine ⟨fun f _ => hF.2 f, ?_⟩
  have h1 : (execOp (putsH xs (L.take N) 0 a).eval o).run P w' = .ok (.value (.pointer (some ⟨w'.heap.size, 0, none⟩))) (w'.alloc (.cells cs T)) := by
    unfold execOp
    simp only [ho, Sem.run_bind, hr, Result.andThen_ok, Sem.run_pure]
  rw [Oper.semAt_plain F _ o (fun c hc => by rw [ho] at hc; cases hc), h1]
  exact ⟨_, rfl, hK _ _ (hV w' hR) (hR2 w') fun _ => ⟨_, rfl, Nat.le_refl _⟩⟩
end
theorem wpAnyIn_heldM {N : Nat} {L : List Oper} {Q : Exit → Act → World → Prop} {V : Nat → Value → World → Prop} {R : World → World → Prop} {D : Nat → List Nat} {M : Nat → Bool} {a : Act} {w : World} (hNl : N ≤ L.length)
    (hs : N = L.length ∨ (Region.sinkB .any L.toArray N = true ∧ N < L.length)) (hc : Region.chainB .any L.toArray N = true) (hb : backB .any L.toArray N = true) (hb0 : backB .any L.toArray 0 = true) (hsl : slotsB (L.take N) = true) (hD : depsB .any L.toArray N D = true)
    (hRt : ∀ x y z, R x y → R y z → R x z) (hV : ∀ i v x y, V i v x → R x y → V i v y)
    (hops : HeldOpsM F n P L N Q V R D M a w 0 (L.take N)) (hM : ∀ i v x, M i = true → V i v x → OldB x v) (hend : ∀ xs w', (∀ i, i < N → V i (xs i) w') → (∀ i j, i < N → j < N → M i = true → M j = true → i ≠ j → xs i ≠ xs j) → R w w' → wpListIn F n P L.toArray Q (L.drop N) (putsH xs (L.take N) 0 a) w') :
    ∀ (c fuel : Nat) (listed : Array Bool) (xs : Nat → Value) (w' : World), cntH listed N = c → c + (L.length - N) ≤ fuel → HeadInv .any L.toArray N listed →
      (∀ i, i < N → listed.getD i false = true → V i (xs i) w' ∧ ∀ j ∈ D i, listed.getD j false = true) → (∀ i j, i < N → j < N → listed.getD i false = true → listed.getD j false = true → M i = true → M j = true → i ≠ j → xs i ≠ xs j) → R w w' → wpAnyIn F n P .any L.toArray Q fuel listed (putsH xs (L.take N) 0 a) w'
  | 0, fuel, listed, xs, w', hcnt, hf, inv, hk, hE, hR => by
    have hall := cntH_zero N hcnt
    have hall2 : ∀ i, i < N → listed.getD i false = true := by
      intro i hi
      have h2 : i < listed.size := by rw [inv.size, List.size_toArray]; omega
      have := hall i hi
      simp [h2] at this ⊢
      exact this
    exact wpAnyIn_chain hc hb (L.length - N) N fuel listed _ w' (by rw [List.size_toArray]; omega) (Nat.le_refl _) (by omega) inv.size hall hall2 inv.tail (by simpa using hend xs w' (fun i hi => (hk i hi (hall2 i hi)).1) (fun i j hi hj => hE i j hi hj (hall2 i hi) (hall2 j hj)) hR)
  | c + 1, fuel, listed, xs, w', hcnt, hf, inv, hk, hE, hR => by
    obtain ⟨f, rfl⟩ : ∃ f, fuel = f + 1 := ⟨fuel - 1, by omega⟩
    have hun : ∃ i, i < N ∧ listed.getD i true = false := by
      apply Classical.byContradiction
      intro hno
      have hall : ∀ i, i < N → listed.getD i true = true := fun i hi => by
        cases hl : listed.getD i true with
        | true => rfl
        | false => exact (hno ⟨i, hi, hl⟩).elim
      have : ∀ k, k ≤ N → cntH listed k = 0 := by
        intro k
        induction k with
        | zero => intro _; rfl
        | succ k ih => intro h; unfold cntH; rw [ih (by omega), hall k (by omega)]; rfl
      rw [this N (Nat.le_refl _)] at hcnt
      omega
    obtain ⟨i0, hi0, hu0⟩ := hun
    have some : Region.ready .any L.toArray listed = [] → ∀ d i, i = d → i < N → listed.getD i true = true := by
      intro hnil d
      induction d using Nat.strongRecOn with
      | _ d ih =>
        rintro i rfl hi
        cases hl : listed.getD i true with
        | true => rfl
        | false =>
          exfalso
          have hilt : i < L.toArray.size := by rw [List.size_toArray]; omega
          have hok : L.toArray[i]? = some L.toArray[i] := Array.getElem?_eq_getElem hilt
          have hB := List.all_eq_true.1 hb0 i (List.mem_range.2 hilt)
          rw [hok] at hB
          simp only [Bool.or_eq_true, decide_eq_true_eq, Option.map_some, Option.getD_some, Nat.not_lt_zero, false_or] at hB
          have : i ∈ Region.ready .any L.toArray listed := mem_ready.2 ⟨hl, _, hok, fun e he hbd => by
            have h2 := Array.all_eq_true'.1 hB e he
            rw [hbd] at h2
            have h3 : e.on < i := by simpa using h2
            have h4 := ih e.on h3 e.on rfl (by omega)
            have h5 : e.on < listed.size := by rw [inv.size]; omega
            rw [Array.getD_eq_getD_getElem?, Array.getElem?_eq_getElem h5] at h4 ⊢
            exact h4⟩
          rw [hnil] at this; cases this
    refine ⟨fun hnil => (by have := some hnil i0 i0 rfl hi0; rw [hu0] at this; cases this), fun i hi => ?_⟩
    have hiN : i < N := by
      rcases Nat.lt_or_ge i N with h1 | h1
      · exact h1
      · exfalso
        rcases hs with hs | ⟨hs, hlt⟩
        · obtain ⟨_, o, ho, _⟩ := mem_ready.1 hi
          have := (Array.getElem?_eq_some_iff.1 ho).1
          rw [List.size_toArray] at this
          omega
        · exact tail_waits hs hc (by rw [List.size_toArray]; exact hlt) inv _ i0 rfl hi0 hu0 i h1 hi
    obtain ⟨hl, o, ho, hall⟩ := mem_ready.1 hi
    have hol : (L.take N)[i]? = Option.some o := by rw [List.getElem?_take_of_lt hiN, ← List.getElem?_toArray]; exact ho
    have hDi : ∀ j ∈ D i, listed.getD j false = true := by
      intro j hj
      have h1 := List.all_eq_true.1 (List.all_eq_true.1 hD i (List.mem_range.2 hiN)) j hj
      rw [ho] at h1
      simp only [Option.map_some, Option.getD_some, Bool.and_eq_true, decide_eq_true_eq] at h1
      obtain ⟨e, he, h2⟩ := Array.any_eq_true'.1 h1.2
      simp only [Bool.and_eq_true, Bool.or_eq_true, beq_iff_eq, decide_eq_true_eq] at h2
      have h3 := hall e he h2.1
      rcases h2.2 with h4 | ⟨h4, h5⟩
      · rw [← h4]; exact h3
      · exact (hk e.on h4 h3).2 j (by simpa using h5)
    have hDN : ∀ j ∈ D i, j < N := by
      intro j hj
      have h1 := List.all_eq_true.1 (List.all_eq_true.1 hD i (List.mem_range.2 hiN)) j hj
      simp only [Bool.and_eq_true, decide_eq_true_eq] at h1
      exact h1.1
    have hop := HeldOpsM.get (L.take N) 0 hops i o hol
    rw [Nat.zero_add] at hop
    have next : ∀ v w'', V i v w'' → R w' w'' → (M i = true → NewB w' v) → wpAnyIn F n P .any L.toArray Q f (listed.setIfInBounds i true) ((putsH xs (L.take N) 0 a).put o.dst v) w'' := by
      intro v w'' hv hR2 hf2
      rw [putsH_set v _ 0 a i o hsl hol, Nat.zero_add]
      refine wpAnyIn_heldM hNl hs hc hb hb0 hsl hD hRt hV hops hM hend c f _ _ w'' (by have := cntH_set hl N hiN; omega) (by omega) (inv.set hi hiN) ?_ ?_ (hRt _ _ _ hR hR2)
      · intro j hj hlj
        by_cases e : j = i
        · subst e
          rw [if_pos rfl]
          exact ⟨hv, fun j' hj' => getD_set_true (hDi j' hj')⟩
        · rw [if_neg e]
          rw [getD_set_ne false (Ne.symm e)] at hlj
          obtain ⟨h1, h2⟩ := hk j hj hlj
          exact ⟨hV _ _ _ _ h1 hR2, fun j' hj' => getD_set_true (h2 j' hj')⟩
      · intro p q hp hq hlp hlq hMp hMq hne
        by_cases e : p = i
        · by_cases e2 : q = i
          · exact absurd (e.trans e2.symm) hne
          · rw [if_pos e, if_neg e2]
            rw [getD_set_ne false (Ne.symm e2)] at hlq
            exact (NewB.ne (hf2 (e ▸ hMp)) (hM _ _ _ hMq (hk q hq hlq).1)).symm
        · rw [getD_set_ne false (Ne.symm e)] at hlp
          by_cases e2 : q = i
          · rw [if_neg e, if_pos e2]
            exact NewB.ne (hf2 (e2 ▸ hMq)) (hM _ _ _ hMp (hk p hp hlp).1)
          · rw [if_neg e, if_neg e2]
            rw [getD_set_ne false (Ne.symm e2)] at hlq
            exact hE p q hp hq hlp hlq hMp hMq hne
    have hst := hop.out xs w' (fun j hj => (hk j (hDN j hj) (hDi j hj)).1) hR (fun v w'' => wpAnyIn F n P .any L.toArray Q f (listed.setIfInBounds i true) ((putsH xs (L.take N) 0 a).put o.dst v) w'') next
    unfold wpOpIn
    simp only [ho]
    split
    · rename_i hw
      rw [if_pos hw] at hst
      exact Oper.wpIn_mono (fun a'' w'' ⟨v, e, h⟩ => by rw [e]; exact h) hst
    · rename_i hw
      rw [if_neg hw] at hst
      exact hst

theorem wpIn_region_heldM (N : Nat) (D : Nat → List Nat) (M : Nat → Bool) (V : Nat → Value → World → Prop) (R : World → World → Prop) {id : Nat} {Q : Exit → Act → World → Prop} {a : Act} {w : World} {L : List Oper} (hm : P.follows .mixedOrders = true) (hok : heldB N D L = true)
    (hRt : ∀ x y z, R x y → R y z → R x z) (hRd : R w w.drew) (hV : ∀ i v x y, V i v x → R x y → V i v y)
    (hops : HeldOpsM F n P L N Q V R D M a w 0 (L.take N)) (hM : ∀ i v x, M i = true → V i v x → OldB x v) (hend : ∀ xs w', (∀ i, i < N → V i (xs i) w') → (∀ i j, i < N → j < N → M i = true → M j = true → i ≠ j → xs i ≠ xs j) → R w w' → wpListIn F n P L.toArray Q (L.drop N) (putsH xs (L.take N) 0 a) w') : (Code.region id L.toArray true).wpIn F n P Q a w := by
  simp only [heldB, Bool.and_eq_true, Bool.or_eq_true, decide_eq_true_eq] at hok
  obtain ⟨⟨⟨⟨⟨hs, hc⟩, hb⟩, hb0⟩, hsl⟩, hD⟩ := hok
  have hNl : N ≤ L.length := by omega
  refine wpIn_region_any hm ?_
  have h0 : putsH (firstX (L.take N) a) (L.take N) 0 a = a := putsH_first _ 0 a fun i o d ho hd => by
    unfold firstX
    rw [Nat.zero_add, ho, Option.bind_some, hd]
  have hle : ∀ k, cntH (Array.replicate L.length false) k ≤ k := by
    intro k
    induction k with
    | zero => exact Nat.le_refl _
    | succ k ih => unfold cntH; split <;> omega
  have h := wpAnyIn_heldM (F := F) (n := n) (P := P) hNl hs hc hb hb0 hsl hD hRt hV hops hM hend _ L.toArray.size (Array.replicate L.length false) (firstX (L.take N) a) w.drew rfl (by rw [List.size_toArray]; have := hle N; omega)
    ⟨by simp, fun j oj _ hl e _ _ => (by rw [getD_replicate_false] at hl; exact Bool.noConfusion hl), fun t _ htt => (by rw [List.size_toArray] at htt; simp [htt])⟩ (fun i _ hl => (by rw [getD_replicate_false] at hl; exact Bool.noConfusion hl)) (fun i j _ _ hl => (by rw [getD_replicate_false] at hl; exact Bool.noConfusion hl)) hRd
  rw [h0] at h
  simpa using h

end
/-- What a made block's slot holds. -/
def MadeB (B : Nat) (T : TypeId) (cs : Array Value) (v : Value) (W : World) : Prop := ∃ g, v = .pointer (some ⟨g, 0, none⟩) ∧ B ≤ g ∧ Blk W g T cs
theorem MadeB.old {B : Nat} {T : TypeId} {cs : Array Value} {v : Value} {W : World} (h : MadeB B T cs v W) : OldB W v := by
  obtain ⟨g, e, _, h⟩ := h
  exact ⟨g, e, h.lt⟩
theorem MadeB.step {B : Nat} {T : TypeId} {cs : Array Value} {v : Value} {W W' : World} (h : MadeB B T cs v W) (hb : BelowR W W') : MadeB B T cs v W' := by
  obtain ⟨g, e, hB, h⟩ := h
  exact ⟨g, e, hB, h.below hb h.lt⟩
theorem MadeB.new {w w' : World} (T : TypeId) (cs : Array Value) (h : BelowR w w') : MadeB w.heap.size T cs (.pointer (some ⟨w'.heap.size, 0, none⟩)) (w'.alloc (.cells cs T)) :=
  ⟨_, rfl, h.size, Blk.new w' _ _⟩
/-- Two blocks that have come since. -/
theorem Own.add2 {B : Nat} {base W W' : World} {L : Objs} (h : Own B base L W) (hb : Below W.heap.size W W') {g g' : Nat} {o o' : Obj} (hB : B ≤ W.heap.size) (hg : W.heap.size ≤ g) (ho : W'.heap[g]? = some o) (hg' : W.heap.size ≤ g') (ho' : W'.heap[g']? = some o') (hne : g ≠ g') : Own B base (L ++ [(g, o), (g', o')]) W' := by
  have h2 := h.step hb
  refine ⟨?_, ?_, ?_, h2.os, h2.tape, h2.output, h2.size, fun b h1 hn => h2.far b h1 fun x hx => hn x (List.mem_append_left _ hx)⟩
  · intro x hx
    rcases List.mem_append.1 hx with hx | hx
    · exact h2.obj x hx
    · simp only [List.mem_cons, List.not_mem_nil, or_false] at hx
      rcases hx with rfl | rfl
      · exact ho
      · exact ho'
  · refine List.pairwise_append.2 ⟨h2.nd, List.pairwise_pair.2 hne, fun x hx y hy => ?_⟩
    have h3 := h.lt hx
    simp only [List.mem_cons, List.not_mem_nil, or_false] at hy
    rcases hy with rfl | rfl
    · show x.1 ≠ g; omega
    · show x.1 ≠ g'; omega
  · intro x hx
    rcases List.mem_append.1 hx with hx | hx
    · exact h2.lo x hx
    · simp only [List.mem_cons, List.not_mem_nil, or_false] at hx
      rcases hx with rfl | rfl
      · exact Nat.le_trans hB hg
      · exact Nat.le_trans hB hg'
end Go.Proofs.Ytdgflbbffimpkaa
