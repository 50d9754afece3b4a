/- Several texts in one: Rf Rf3 Mk Grw QRound QTail. -/
import Derived.RangeFuncNested
import Derived.RangeFuncBound
import Derived.RangeFuncCalls
import Derived.RangeFuncLeaves
import Derived.RangeFuncBox
import Derived.WalkKit
import Derived.Deep.Draws
import Derived.Shelf.Abstract
import Derived.Sort.QuietIn
import Derived.OwnWalkIn
import Derived.StillTail
namespace Go.Proofs.Ytdglhppcfdpcaaa
open Go Go.RowKit

/-- The world has moved on; of what was there only blocks of S may have turned. -/
structure Turn (S : Nat → Prop) (W W' : World) : Prop where
  os : W'.os = W.os
  tape : W'.tape = W.tape
  output : W'.output = W.output
  size : W.heap.size ≤ W'.heap.size
  same : ∀ b, b < W.heap.size → ¬ S b → W'.heap[b]? = W.heap[b]?
/-- The blocks of K are as they were. -/
structure Keep (K : Nat → Prop) (W W' : World) : Prop where
  size : W.heap.size ≤ W'.heap.size
  same : ∀ b, K b → W'.heap[b]? = W.heap[b]?
theorem Turn.refl (S : Nat → Prop) (W : World) : Turn S W W := ⟨rfl, rfl, rfl, Nat.le_refl _, fun _ _ _ => rfl⟩
theorem Turn.mono {S S' : Nat → Prop} {W W' : World} (h : Turn S W W') (hs : ∀ b, S b → S' b) : Turn S' W W' := ⟨h.os, h.tape, h.output, h.size, fun b hb hn => h.same b hb (fun e => hn (hs b e))⟩
theorem Turn.trans {S : Nat → Prop} {A B C : World} (h : Turn S A B) (k : Turn S B C) : Turn S A C :=
  ⟨k.os.trans h.os, k.tape.trans h.tape, k.output.trans h.output, Nat.le_trans h.size k.size, fun b hb hn => (k.same b (Nat.lt_of_lt_of_le hb h.size) hn).trans (h.same b hb hn)⟩
theorem Turn.alloc (S : Nat → Prop) (W : World) (o : Obj) : Turn S W (W.alloc o) :=
  ⟨rfl, rfl, rfl, by simp, fun b hb _ => Below.heap_alloc W o b hb⟩
theorem Turn.setCell {S : Nat → Prop} (W : World) {p : Addr} (hp : S p.block) (v : Value) : Turn S W (W.setCell p v) :=
  ⟨rfl, rfl, rfl, by show W.heap.size ≤ (W.heap.modify _ _).size; rw [Array.size_modify]; exact Nat.le_refl _, fun b _ hn => Below.heap_setCell W p v b (fun e => hn (e ▸ hp))⟩
theorem Turn.putObj {S : Nat → Prop} (W : World) {l : Nat} (hl : S l) (o : Obj) : Turn S W (W.putObj l o) :=
  ⟨(grownBy_putObj' W l o).os, (grownBy_putObj' W l o).tape, (grownBy_putObj' W l o).output, (grownBy_putObj' W l o).size, fun b hb hn => (grownBy_putObj' W l o).block b hb (fun e => by cases e; exact hn hl)⟩
theorem Turn.below {S : Nat → Prop} {W W' : World} {B : Nat} (h : Turn S W W') (hB : B ≤ W.heap.size) (hs : ∀ b, S b → B ≤ b) : Below B W W' :=
  ⟨h.os, h.tape, h.output, h.size, fun b hb => h.same b (by omega) (fun e => by have := hs b e; omega)⟩
theorem Turn.cell {S : Nat → Prop} {W W' : World} (h : Turn S W W') {p : Addr} (hp : ¬ S p.block) {v : Value} (hc : W.cell? p = some v) : W'.cell? p = some v := by
  obtain ⟨o, ho, _⟩ := cells_of_cell hc
  have hlt : p.block < W.heap.size := (Array.getElem?_eq_some_iff.1 ho).1
  rw [World.cell?_of_block (h.same _ hlt hp)]; exact hc
theorem Turn.heap {S : Nat → Prop} {W W' : World} (h : Turn S W W') {b : Nat} (hp : ¬ S b) {o : Obj} (hc : W.heap[b]? = some o) : W'.heap[b]? = some o := by
  have hlt : b < W.heap.size := (Array.getElem?_eq_some_iff.1 hc).1
  exact (h.same _ hlt hp).trans hc
theorem Keep.refl (K : Nat → Prop) (W : World) : Keep K W W := ⟨Nat.le_refl _, fun _ _ => rfl⟩
theorem Keep.trans {K : Nat → Prop} {A B C : World} (h : Keep K A B) (k : Keep K B C) : Keep K A C := ⟨Nat.le_trans h.size k.size, fun b hb => (k.same b hb).trans (h.same b hb)⟩
theorem Keep.mono {K K' : Nat → Prop} {W W' : World} (h : Keep K W W') (hk : ∀ b, K' b → K b) : Keep K' W W' := ⟨h.size, fun b hb => h.same b (hk b hb)⟩

end Go.Proofs.Ytdglhppcfdpcaaa
namespace Go.Proofs.Ytdglhppcfdpcaaa
open Go Go.RowKit

/-- From O, the caller's blocks, to O' over a round: it takes up new blocks of cells alone; what is not its own, and what is in K, is kept. -/
structure Grow (K O O' : Nat → Prop) (W W' : World) : Prop where
  size : W.heap.size ≤ W'.heap.size
  old : ∀ b, b < W.heap.size → O' b → O b
  new : ∀ b, O' b → b < W'.heap.size
  cells : ∀ b o, O' b → W'.heap[b]? = some o → o.isCells = false → ∃ o' : Obj, W.heap[b]? = some o' ∧ o'.isCells = false
  keep : ∀ b, b < W.heap.size → (¬ O b ∨ K b) → W'.heap[b]? = W.heap[b]?
def StayO (J : Nat → (Nat → Prop) → World → Prop) : Prop := ∀ i O W W', J i O W → Turn (fun b => ¬ O b) W W' → J i O W'

end Go.Proofs.Ytdglhppcfdpcaaa
namespace Go.Proofs.Ytdglhppcfdpcaaa
open Go Go.RowKit Go.Shelf

/-- The caller's blocks, as an iterator that began at g0 meets them: never g0, and from g0 on cells alone. -/
structure Mine (g0 : Nat) (O : Nat → Prop) (W : World) : Prop where
  non : ¬ O g0
  lt : ∀ b, O b → b < W.heap.size
  cells : ∀ b o, g0 ≤ b → O b → W.heap[b]? = some o → o.isCells = true
theorem Mine.turn {g0 : Nat} {O : Nat → Prop} {W W' : World} (h : Mine g0 O W) (t : Turn (fun b => ¬ O b) W W') : Mine g0 O W' :=
  ⟨h.non, fun b hb => Nat.lt_of_lt_of_le (h.lt b hb) t.size, fun b o hg hb ho => h.cells b o hg hb ((t.same b (h.lt b hb) (fun e => e hb)).symm.trans ho)⟩
theorem Mine.grow {g0 : Nat} {K O O' : Nat → Prop} {W W' : World} (h : Mine g0 O W) (hg : g0 < W.heap.size) (g : Grow K O O' W W') : Mine g0 O' W' :=
  ⟨fun e => h.non (g.old _ hg e), g.new, fun b o hb ho hs => by
    cases hc : o.isCells with
    | true => rfl
    | false =>
      obtain ⟨o', h1, h2⟩ := g.cells b o ho hs hc
      rw [h.cells b o' hb (g.old b (Array.getElem?_eq_some_iff.1 h1).1 ho) h1] at h2
      cases h2⟩
/-- Deferred marks, the newest first, each a block of its own from lo on and before hi. -/
def Marks (lo : Nat) : Nat → List Deferred → World → Prop
  | _, [], _ => True
  | hi, d :: ds, W => ∃ D, d = { target := .collected D, args := #[] } ∧ lo ≤ D ∧ D < hi ∧ W.heap[D]? = some (.deferred (some [])) ∧ Marks lo D ds W
theorem Marks.same {lo : Nat} {W W' : World} : ∀ {ds : List Deferred} {hi : Nat}, Marks lo hi ds W → (∀ D, lo ≤ D → D < hi → W.heap[D]? = some (.deferred (some [])) → W'.heap[D]? = some (.deferred (some []))) → Marks lo hi ds W'
  | [], _, _, _ => trivial
  | _ :: _, _, ⟨D, h1, h2, h3, h4, h5⟩, k => ⟨D, h1, h2, h3, k D h2 h3 h4, h5.same fun E e1 e2 => k E e1 (Nat.lt_trans e2 h3)⟩
theorem Marks.up {lo hi hi' : Nat} {W : World} (h : hi ≤ hi') : ∀ {ds : List Deferred}, Marks lo hi ds W → Marks lo hi' ds W
  | [], _ => trivial
  | _ :: _, ⟨D, h1, h2, h3, h4, h5⟩ => ⟨D, h1, h2, Nat.lt_of_lt_of_le h3 h, h4, h5⟩
theorem Marks.cons {lo hi hi' D : Nat} {W : World} {ds : List Deferred} (h : Marks lo hi ds W) (h1 : hi ≤ D) (h2 : lo ≤ D) (h3 : D < hi') (h4 : W.heap[D]? = some (.deferred (some []))) : Marks lo hi' ({ target := .collected D, args := #[] } :: ds) W :=
  ⟨D, rfl, h2, h3, h4, h.up h1⟩
end Go.Proofs.Ytdglhppcfdpcaaa
namespace Go.Proofs.Ytdglhppcfdpcaaa
open Go Go.RowKit

theorem setCell_others {W : World} {p : Addr} {v : Value} {b : Nat} {o : Obj} (h : (W.setCell p v).heap[b]? = some o) (hc : o.isCells = false) : W.heap[b]? = some o := by
  by_cases e : b = p.block
  · subst e
    have hlt : p.block < W.heap.size := by
      have := (Array.getElem?_eq_some_iff.1 h).1
      simpa [World.setCell] using this
    have h2 : W.heap[p.block]? = some W.heap[p.block] := Array.getElem?_eq_getElem hlt
    cases hw : W.heap[p.block] with
    | cells c t f =>
      exfalso
      rw [hw] at h2
      simp only [World.setCell, Array.getElem?_modify, h2] at h
      simp at h
      rw [← h] at hc
      cases hc
    | _ =>
      rw [hw] at h2
      simp only [World.setCell, Array.getElem?_modify, h2] at h
      simp at h
      rw [h2, h]
  · exact (Below.heap_setCell W p v b e).symm.trans h
theorem Grow.refl (K : Nat → Prop) {O : Nat → Prop} {W : World} (h : ∀ b, O b → b < W.heap.size) : Grow K O O W W :=
  ⟨Nat.le_refl _, fun _ _ h => h, h, fun _ o _ h hc => ⟨o, h, hc⟩, fun _ _ _ => rfl⟩
theorem Grow.setCell {K O O' : Nat → Prop} {W W' : World} (h : Grow K O O' W W') {p : Addr} (hp : W.heap.size ≤ p.block ∨ (O p.block ∧ ¬ K p.block)) (v : Value) : Grow K O O' W (W'.setCell p v) := by
  have hs : (W'.setCell p v).heap.size = W'.heap.size := by simp [World.setCell]
  refine ⟨by rw [hs]; exact h.size, h.old, fun b hb => by rw [hs]; exact h.new b hb, fun b o ho hh hc => h.cells b o ho (setCell_others hh hc) hc, fun b hb hk => ?_⟩
  refine (Below.heap_setCell W' p v b (fun e => ?_)).trans (h.keep b hb hk)
  subst e
  rcases hp with hp | ⟨h1, h2⟩
  · omega
  · exact hk.elim (fun h => h h1) h2

end Go.Proofs.Ytdglhppcfdpcaaa
namespace Go.Proofs.Ytdglhppcfdpcaaa
open Go

section
variable {F : Fence} {n : Nat} {P : Program} {ops : Array Oper} {md : Region.Mode} {C : World → Prop}

def noDefer (o : Oper) : Bool := match o.op with | .defer _ => false | _ => true
theorem noDefer_spec {o : Oper} (h : noDefer o = true) : ∀ c, o.op ≠ .defer c := by
  intro c hc
  unfold noDefer at h
  rw [hc] at h
  exact Bool.noConfusion (show false = true from h)

end
end Go.Proofs.Ytdglhppcfdpcaaa
namespace Go.Proofs.Ytdglhppcfdpcaaa
open Go

section
variable {F : Fence} {n : Nat} {P : Program} {md : Region.Mode} {C : World → Prop}

def backB (md : Region.Mode) (ops : Array Oper) (N : Nat) : Bool :=
  (List.range ops.size).all fun t => decide (t < N) || ((ops[t]?).map (·.after.all fun e => !Region.binds md e || decide (e.on < t))).getD false

/-- The tail, once all of the head has come up. -/
theorem wpAnyIn_chain {ops : Array Oper} {N : Nat} {Q : Exit → Act → World → Prop} (hc : Region.chainB md ops N = true) (hb : backB md ops N = true) : ∀ (r k fuel : Nat) (listed : Array Bool) (a : Act) (w : World),
    ops.size = k + r → N ≤ k → r ≤ fuel → listed.size = ops.size → (∀ i, i < k → listed.getD i true = true) → (∀ i, i < k → listed.getD i false = true) → (∀ i, k ≤ i → i < ops.size → listed.getD i true = false) →
    wpListIn F n P ops Q (ops.toList.drop k) a w → wpAnyIn F n P md ops Q fuel listed a w
  | 0, k, fuel, listed, a, w, hr, hN, hf, hsz, hl, hl2, hu, h => by
    have hnone : Region.ready md ops listed = [] := by
      apply List.eq_nil_iff_forall_not_mem.2
      intro j hj
      obtain ⟨h1, o, ho, _⟩ := mem_ready.1 hj
      have hjlt : j < ops.size := (Array.getElem?_eq_some_iff.1 ho).1
      rw [hl j (by omega)] at h1; cases h1
    have hd : ops.toList.drop k = [] := List.drop_eq_nil_iff.2 (by rw [Array.length_toList]; omega)
    rw [hd] at h
    cases fuel with
    | zero => exact ⟨hnone, h⟩
    | succ f => exact ⟨fun _ => h, fun i hi => by rw [hnone] at hi; cases hi⟩
  | r + 1, k, fuel, listed, a, w, hr, hN, hf, hsz, hl, hl2, hu, h => by
    obtain ⟨f, rfl⟩ : ∃ f, fuel = f + 1 := ⟨fuel - 1, by omega⟩
    have hk : k < ops.size := by omega
    have hkt : k < ops.toList.length := by rw [Array.length_toList]; exact hk
    rw [List.drop_eq_getElem_cons hkt] at h
    have hok : ops[k]? = some ops.toList[k] := by rw [Array.getElem?_eq_getElem hk, Array.getElem_toList]
    have hB := List.all_eq_true.1 hb k (List.mem_range.2 hk)
    rw [hok] at hB
    simp only [Bool.or_eq_true, decide_eq_true_eq, Option.map_some, Option.getD_some] at hB
    have hback : ∀ e ∈ ops.toList[k].after, Region.binds md e = true → e.on < k := by
      intro e he hbd
      rcases hB with h1 | h1
      · omega
      · have h2 := Array.all_eq_true'.1 h1 e he
        rw [hbd] at h2
        simpa using h2
    have hin : k ∈ Region.ready md ops listed := mem_ready.2 ⟨hu k (Nat.le_refl _) hk, _, hok, fun e he hbd => hl2 _ (hback e he hbd)⟩
    refine ⟨fun h0 => (by rw [h0] at hin; cases hin), fun j hj => ?_⟩
    obtain ⟨h1, o, ho, hall⟩ := mem_ready.1 hj
    have hjlt : j < ops.size := (Array.getElem?_eq_some_iff.1 ho).1
    have hjk : j = k := by
      rcases Nat.lt_trichotomy j k with h2 | h2 | h2
      · rw [hl j h2] at h1; cases h1
      · exact h2
      · exfalso
        have h3 := List.all_eq_true.1 hc j (List.mem_range.2 hjlt)
        simp only [Bool.or_eq_true, decide_eq_true_eq] at h3
        rcases h3 with h3 | h3
        · omega
        · obtain ⟨o', ho', e, he, hbd, hon⟩ := Region.waitsFor_spec h3
          have : o' = o := Option.some.inj (ho'.symm.trans ho)
          subst this
          have h4 := hall e he hbd
          rw [hon, getD_both (hu (j - 1) (by omega) (by omega))] at h4
          cases h4
    subst hjk
    unfold wpOpIn
    simp only [hok]
    have next : ∀ a' w', wpListIn F n P ops Q (ops.toList.drop (j + 1)) a' w' → wpAnyIn F n P md ops Q f (listed.setIfInBounds j true) a' w' := fun a' w' h' => by
      refine wpAnyIn_chain hc hb r (j + 1) f _ a' w' (by omega) (by omega) (by omega) (by simp [hsz]) ?_ ?_ ?_ h'
      · intro i hi
        by_cases hij : i = j
        · subst hij; simp [hsz, hk]
        · rw [getD_set_ne true (by omega)]; exact hl i (by omega)
      · intro i hi
        by_cases hij : i = j
        · subst hij; simp [hsz, hk]
        · rw [getD_set_ne false (by omega)]; exact hl2 i (by omega)
      · intro i hi hi2
        rw [getD_set_ne true (by omega)]; exact hu i (by omega) hi2
    simp only [wpListIn] at h
    split
    · rename_i hw; simp only [hw, if_true] at h; exact Oper.wpIn_mono next h
    · rename_i hw; simp only [hw] at h; exact ⟨h.1, next _ _ h.2⟩

end
end Go.Proofs.Ytdglhppcfdpcaaa
