/- A range over a function whose iterator keeps state in cells of its own: the contract of such an iterator, and the law for its caller. No program in sight. -/
import Derived.RangeFuncNested
import Derived.RangeFuncBound
import Derived.RangeFuncCalls
import Derived.RangeFuncLeaves
import Derived.RangeFuncBox
import Derived.WalkKit
import Derived.Deep.Draws
namespace Go.Proofs.Ytckhkagkpldoiaa
open Go Go.RowKit

/-- The world has moved on; of what was there only blocks of S may have turned. -/
structure Turn (S : Nat → Prop) (W W' : World) : Prop where
  os : W'.os = W.os
  tape : W'.tape = W.tape
  output : W'.output = W.output
  size : W.heap.size ≤ W'.heap.size
  same : ∀ b, b < W.heap.size → ¬ S b → W'.heap[b]? = W.heap[b]?
/-- The blocks of K are as they were. -/
structure Keep (K : Nat → Prop) (W W' : World) : Prop where
  size : W.heap.size ≤ W'.heap.size
  same : ∀ b, K b → W'.heap[b]? = W.heap[b]?
def Other (B : Nat) (S : Nat → Prop) (W : World) (b : Nat) : Prop := S b ∨ (B ≤ b ∧ ∃ o : Obj, W.heap[b]? = some o ∧ o.isCells = false)
/-- What the caller's invariant bears: the iterator's own blocks, and records from B on, turn. -/
def Bears (B : Nat) (S : Nat → Prop) (I : Nat → World → Prop) : Prop := ∀ i W W', I i W → Turn (Other B S W) W W' → I i W'
def Stay (S : Nat → Prop) (J : Nat → World → Prop) : Prop := ∀ i W W', J i W → Turn S W W' → J i W'

theorem Turn.refl (S : Nat → Prop) (W : World) : Turn S W W := ⟨rfl, rfl, rfl, Nat.le_refl _, fun _ _ _ => rfl⟩
theorem Turn.mono {S S' : Nat → Prop} {W W' : World} (h : Turn S W W') (hs : ∀ b, S b → S' b) : Turn S' W W' := ⟨h.os, h.tape, h.output, h.size, fun b hb hn => h.same b hb (fun e => hn (hs b e))⟩
theorem Turn.trans {S : Nat → Prop} {A B C : World} (h : Turn S A B) (k : Turn S B C) : Turn S A C :=
  ⟨k.os.trans h.os, k.tape.trans h.tape, k.output.trans h.output, Nat.le_trans h.size k.size, fun b hb hn => (k.same b (Nat.lt_of_lt_of_le hb h.size) hn).trans (h.same b hb hn)⟩
theorem Turn.drewN (S : Nat → Prop) (W : World) (n : Nat) : Turn S W (W.drewN n) := ⟨rfl, rfl, rfl, Nat.le_refl _, fun _ _ _ => rfl⟩
theorem Turn.alloc (S : Nat → Prop) (W : World) (o : Obj) : Turn S W (W.alloc o) :=
  ⟨rfl, rfl, rfl, by simp, fun b hb _ => Below.heap_alloc W o b hb⟩
theorem Turn.setCell {S : Nat → Prop} (W : World) {p : Addr} (hp : S p.block) (v : Value) : Turn S W (W.setCell p v) :=
  ⟨rfl, rfl, rfl, by show W.heap.size ≤ (W.heap.modify _ _).size; rw [Array.size_modify]; exact Nat.le_refl _, fun b _ hn => Below.heap_setCell W p v b (fun e => hn (e ▸ hp))⟩
theorem Turn.putObj {S : Nat → Prop} (W : World) {l : Nat} (hl : S l) (o : Obj) : Turn S W (W.putObj l o) :=
  ⟨(grownBy_putObj' W l o).os, (grownBy_putObj' W l o).tape, (grownBy_putObj' W l o).output, (grownBy_putObj' W l o).size, fun b hb hn => (grownBy_putObj' W l o).block b hb (fun e => by cases e; exact hn hl)⟩
theorem Turn.of_below {S : Nat → Prop} {W W' : World} (h : Below W.heap.size W W') : Turn S W W' := ⟨h.os, h.tape, h.output, h.size, fun b hb _ => h.block b hb⟩
theorem Turn.below {S : Nat → Prop} {W W' : World} {B : Nat} (h : Turn S W W') (hB : B ≤ W.heap.size) (hs : ∀ b, S b → B ≤ b) : Below B W W' :=
  ⟨h.os, h.tape, h.output, h.size, fun b hb => h.same b (by omega) (fun e => by have := hs b e; omega)⟩
theorem Turn.cell {S : Nat → Prop} {W W' : World} (h : Turn S W W') {p : Addr} (hp : ¬ S p.block) {v : Value} (hc : W.cell? p = some v) : W'.cell? p = some v := by
  obtain ⟨o, ho, _⟩ := cells_of_cell hc
  have hlt : p.block < W.heap.size := (Array.getElem?_eq_some_iff.1 ho).1
  rw [World.cell?_of_block (h.same _ hlt hp)]; exact hc
theorem Turn.heap {S : Nat → Prop} {W W' : World} (h : Turn S W W') {b : Nat} (hp : ¬ S b) {o : Obj} (hc : W.heap[b]? = some o) : W'.heap[b]? = some o := by
  have hlt : b < W.heap.size := (Array.getElem?_eq_some_iff.1 hc).1
  exact (h.same _ hlt hp).trans hc
/-- A block of cells outside S is none of the others. -/
theorem other_cells {B : Nat} {S : Nat → Prop} {W : World} {b : Nat} {cs : Array Value} {t : TypeId} {fz : Nat × Nat} (h : W.heap[b]? = some (.cells cs t fz)) (hs : ¬ S b) : ¬ Other B S W b := by
  rintro (h1 | ⟨_, o, ho, hc⟩)
  · exact hs h1
  · rw [h] at ho; cases ho; exact absurd hc (by simp [Obj.isCells])
theorem other_low {B : Nat} {S : Nat → Prop} {W : World} {b : Nat} (h : b < B) (hs : ¬ S b) : ¬ Other B S W b := by
  rintro (h1 | ⟨h2, _⟩)
  · exact hs h1
  · omega
theorem Keep.refl (K : Nat → Prop) (W : World) : Keep K W W := ⟨Nat.le_refl _, fun _ _ => rfl⟩
theorem Keep.trans {K : Nat → Prop} {A B C : World} (h : Keep K A B) (k : Keep K B C) : Keep K A C := ⟨Nat.le_trans h.size k.size, fun b hb => (k.same b hb).trans (h.same b hb)⟩
theorem Keep.of_turn {K S : Nat → Prop} {W W' : World} (h : Turn S W W') (hk : ∀ b, K b → b < W.heap.size ∧ ¬ S b) : Keep K W W' := ⟨h.size, fun b hb => h.same b (hk b hb).1 (hk b hb).2⟩
theorem Keep.mono {K K' : Nat → Prop} {W W' : World} (h : Keep K W W') (hk : ∀ b, K' b → K b) : Keep K' W W' := ⟨h.size, fun b hb => h.same b (hk b hb)⟩

/-- The contract of an iterator that yields xs: S are its own cells, K the blocks that a round must keep, St what its memory holds as it begins. -/
def Iter {α : Type} (F : Fence) (n : Nat) (P : Program) (g : Nat) (lb : Array Value) (encs : α → Array Value) (xs : List α) (S K : Nat → Prop) (St : World → Prop) : Prop :=
  ∀ (l : Nat) (J Jx : Nat → World → Prop) (W : World), St W → Stay S J → Stay S Jx →
    (∀ i x W1, xs[i]? = some x → J i W1 → YieldAt F (n - 1) P l (encs x) W1 fun e W' =>
      (e = .returned (.bool true) ∧ J (i + 1) W' ∧ Keep K W1 W') ∨ (e = .returned (.bool false) ∧ Jx (i + 1) W')) →
    J 0 W →
    CallsIn F n P g (#[.func (.yield l) #[] #[]] ++ lb) W fun e W' => (∃ v, e = .returned v) ∧ (J xs.length W' ∨ ∃ i, i < xs.length ∧ Jx (i + 1) W')

/-- How a round's body may be left. -/
def roundEnd (B : Nat) (K : Nat → Prop) (I : Nat → World → Prop) (Ix : Code → Nat → World → Prop) (i : Nat) (W : World) : Exit → Act → World → Prop
  | .normal, _, W' => KeepsFrom B W W' ∧ Keep K W W' ∧ I i W'
  | .ret, _, W' => KeepsFrom B W W' ∧ Ix .ret i W'
  | .exit id, _, W' => KeepsFrom B W W' ∧ Ix (.exit id) i W'
  | .goto t, _, W' => KeepsFrom B W W' ∧ Ix (.goto t) i W'
  | .panic _, _, _ => False
  | .outgrown, _, _ => False

theorem iter_law {α : Type} {F : Fence} {n : Nat} {P : Program} {g : Operand} {ps : Array Tmp} {assign body : Code} {Q : Exit → Act → World → Prop} {a : Act} {w : World}
    (hro : F.round = none) (h1 : 1 ≤ n) {gf : Nat} {lb : Array Value} (hg : a.eval g = .func (.func gf) #[] lb) (hFg : F.fn gf) (eg : ∀ args w, (callFunc gf args).run P w = .ok (.enter gf args) w)
    {encs : α → Array Value} {xs : List α} {S K : Nat → Prop} {St : World → Prop} (hit : Iter F (n - 1) P gf lb encs xs S K St)
    (hSt : ∀ W, (∀ b, b < w.heap.size → W.heap[b]? = w.heap[b]?) → St W) (hSl : ∀ b, S b → b < w.heap.size) (hKl : ∀ b, K b → b < w.heap.size) (hps : ∀ x, (encs x).size = ps.size)
    (I : Nat → World → Prop) (Ix : Code → Nat → World → Prop) (hI : Bears w.heap.size S I) (hIx : ∀ c, Bears w.heap.size S (Ix c)) (h0 : I 0 w) (a₁ : α → Act)
    (hassign : ∀ (l : Nat) (x : α) (W : World) (Kt : Act → World → Prop), Kt (a₁ x) W →
      assign.wpIn (F.inRound l) (n - 1 - 1) P (Exit.then Kt (fun _ _ _ => False)) { tmps := (ps.zip (encs x)).foldl (fun t (p, v) => t.setIfInBounds p v) a.tmps, defers := [] } W)
    (hbody : ∀ (l i : Nat) (x : α) (W : World), xs[i]? = some x → I i W → body.wpIn (F.inRound l) (n - 1 - 1) P (roundEnd w.heap.size K I Ix (i + 1) W) (a₁ x) W)
    (hdone : ∀ (D : Nat) (W : World), w.heap.size ≤ D → I xs.length W → W.heap[D]? = some (.deferred (some [])) → Q .normal { a with defers := { target := .collected D, args := #[] } :: a.defers } W)
    (hstop : ∀ (D : Nat) (c : Code) (i : Nat) (W : World), w.heap.size ≤ D → i < xs.length → Ix c (i + 1) W → W.heap[D]? = some (.deferred (some [])) → c.wpIn F n P Q { a with defers := { target := .collected D, args := #[] } :: a.defers } W) :
    (Code.rangeFunc g ps assign body).wpIn F n P Q a w := by
  refine wpIn_rangeFunc ?_
  intro fn hfn
  rw [hro]
  obtain ⟨rec, hrec⟩ : ∃ rec : LoopState → Option Code → Loop, rec = fun st pe => { state := st, pending := pe, fn, tmps := a.tmps, params := ps, assign, body, defers := w.heap.size } := ⟨_, rfl⟩
  obtain ⟨V, hV⟩ : ∃ V, (w.alloc (.deferred (some []))).alloc (.loop (rec .ready none)) = V := ⟨_, rfl⟩
  have vl : V.heap[w.heap.size + 1]? = some (.loop (rec .ready none)) := by
    rw [← hV]; have := World.alloc_heap_new (w.alloc (.deferred (some []))) (.loop (rec .ready none)); rwa [World.size_alloc] at this
  have vd : V.heap[w.heap.size]? = some (.deferred (some [])) := by
    rw [← hV]; exact (Below.heap_alloc _ _ _ (by simp)).trans (World.alloc_heap_new w _)
  have vo : ∀ b, b < w.heap.size → V.heap[b]? = w.heap[b]? := by
    intro b hb
    rw [← hV]; exact (Below.heap_alloc _ _ _ (by simp; omega)).trans (Below.heap_alloc _ _ _ hb)
  have vI : I 0 V := by
    rw [← hV]; exact hI 0 _ _ (hI 0 _ _ h0 (Turn.alloc _ _ _)) (Turn.alloc _ _ _)
  have rec_other : ∀ {W : World} {l : Nat} {r : Loop}, w.heap.size ≤ l → W.heap[l]? = some (.loop r) → Other w.heap.size S W l := fun h e => .inr ⟨h, _, e, rfl⟩
  have keepK : ∀ {W : World} (o : Obj), Keep K W (W.putObj (w.heap.size + 1) o) := fun {W} o => by
    refine ⟨(grownBy_putObj' W _ o).size, fun b hb => World.putObj_heap_other (fun e => ?_)⟩
    have := hKl b hb; omega
  refine ⟨w.heap.size + 1, [{ target := .collected w.heap.size, args := #[] }], V, { target := .fn (.func gf) lb, args := #[.func (.yield (w.heap.size + 1)) #[] #[]] }, V, gf,
    #[.func (.yield (w.heap.size + 1)) #[] #[]] ++ lb, V, ?_, ?_, ?_, ?_, fun _ => h1, ?_⟩
  · rw [← hV, hrec]; exact run_enterLoop_outer _ _ _ _ _
  · simp only [resolve, hg]
    simp [go_sem]
  · intro f' hf'; simp [Target.leads] at hf'; subst hf'; exact hFg
  · simp [invoke, go_sem, eg]
  · have low : ∀ {A B : World} {b : Nat} {o : Obj}, Turn S A B → w.heap.size ≤ b → A.heap[b]? = some o → B.heap[b]? = some o := fun t hb ho => t.heap (fun e => by have := hSl _ e; omega) ho
    refine (hit (w.heap.size + 1)
      (fun i W => I i W ∧ W.heap[w.heap.size + 1]? = some (.loop (rec .ready none)) ∧ W.heap[w.heap.size]? = some (.deferred (some [])))
      (fun i W => ∃ c, Ix c i W ∧ W.heap[w.heap.size + 1]? = some (.loop (rec .done (some c))) ∧ W.heap[w.heap.size]? = some (.deferred (some [])))
      V (hSt V vo)
      (fun i A B hs t => ⟨hI i A B hs.1 (t.mono fun _ e => .inl e), low t (by omega) hs.2.1, low t (Nat.le_refl _) hs.2.2⟩)
      (fun i A B hs t => by
        obtain ⟨c, hc, hl, hd⟩ := hs
        exact ⟨c, hIx c i A B hc (t.mono fun _ e => .inl e), low t (by omega) hl, low t (Nat.le_refl _) hd⟩)
      ?_ ⟨vI, vl, vd⟩).mono ?_
    · rintro i x W hx ⟨hi, hl, hd⟩
      have hlt : w.heap.size + 1 < W.heap.size := (Array.getElem?_eq_some_iff.1 hl).1
      have hy := run_yield (P := P) (args := encs x) hl (by rw [hrec]; exact hps x)
      rw [hrec] at hy
      refine ⟨fn, _, assign, body, hy, roundIn_of_wpIn hfn (hassign _ x W _ ⟨_, run_beginRound hl (by rw [hrec]), ?_⟩)⟩
      obtain ⟨U, hU⟩ : ∃ U, W.putObj (w.heap.size + 1) (.loop { rec .ready none with state := .busy }) = U := ⟨_, rfl⟩
      have ul : U.heap[w.heap.size + 1]? = some (.loop { rec .ready none with state := .busy }) := by rw [← hU]; exact World.putObj_heap_same hlt
      have ud : U.heap[w.heap.size]? = some (.deferred (some [])) := by rw [← hU]; exact (World.putObj_heap_other (by omega)).trans hd
      have uI : I i U := by rw [← hU]; exact hI i _ _ hi (Turn.putObj W (rec_other (by omega) hl) _)
      have uK : Keep K W U := by rw [← hU]; exact keepK _
      rw [hU]
      refine wpIn_mono (hbody _ i x U hx uI) ?_
      have fin : ∀ (jump : Option Code) (W3 : World), KeepsFrom w.heap.size U W3 →
          (Instr.endRound (w.heap.size + 1) jump).run P W3 = .ok (.bool jump.isNone) (W3.putObj (w.heap.size + 1) (.loop (rec (if jump.isNone then .ready else .done) jump))) ∧
          W3.heap[w.heap.size + 1]? = some (.loop { rec .ready none with state := .busy }) ∧
          (W3.putObj (w.heap.size + 1) (.loop (rec (if jump.isNone then .ready else .done) jump))).heap[w.heap.size + 1]? = some (.loop (rec (if jump.isNone then .ready else .done) jump)) ∧
          (W3.putObj (w.heap.size + 1) (.loop (rec (if jump.isNone then .ready else .done) jump))).heap[w.heap.size]? = some (.deferred (some [])) := fun jump W3 hk => by
        have l3 := hk.same _ _ (by omega) ul rfl
        have := run_endRound (P := P) jump l3
        rw [hrec] at this ⊢
        exact ⟨this, by rw [hrec] at l3; exact l3, World.putObj_heap_same (Array.getElem?_eq_some_iff.1 l3).1, (World.putObj_heap_other (by omega)).trans (hk.same _ _ (Nat.le_refl _) ud rfl)⟩
      have jumps : ∀ (c : Code) (W3 : World), KeepsFrom w.heap.size U W3 → Ix c (i + 1) W3 → ∃ v w', (Instr.endRound (w.heap.size + 1) (some c)).run P W3 = .ok v w' ∧
          ((Ending.returned v = .returned (.bool true) ∧ (I (i + 1) w' ∧ w'.heap[w.heap.size + 1]? = some (.loop (rec .ready none)) ∧ w'.heap[w.heap.size]? = some (.deferred (some []))) ∧ Keep K W w') ∨
           (Ending.returned v = .returned (.bool false) ∧ ∃ c, Ix c (i + 1) w' ∧ w'.heap[w.heap.size + 1]? = some (.loop (rec .done (some c))) ∧ w'.heap[w.heap.size]? = some (.deferred (some [])))) := fun c W3 hk hc => by
        obtain ⟨hr, l3, l4, d4⟩ := fin (some c) W3 hk
        exact ⟨_, _, hr, .inr ⟨rfl, c, hIx c _ _ _ hc (Turn.putObj W3 (rec_other (by omega) l3) _), l4, d4⟩⟩
      rintro e a3 W3 hp
      cases e with
      | normal =>
        obtain ⟨hk, hkk, hi3⟩ := hp
        obtain ⟨hr, l3, l4, d4⟩ := fin none W3 hk
        exact ⟨_, _, hr, .inl ⟨rfl, ⟨hI _ _ _ hi3 (Turn.putObj W3 (rec_other (by omega) l3) _), l4, d4⟩, (uK.trans hkk).trans (keepK _)⟩⟩
      | ret => exact jumps _ W3 hp.1 hp.2
      | exit id => exact jumps _ W3 hp.1 hp.2
      | goto t => exact jumps _ W3 hp.1 hp.2
      | panic ch => exact hp.elim
      | outgrown => exact hp.elim
    · rintro e W2 ⟨⟨v, rfl⟩, (⟨hi, hl, hd⟩ | ⟨i, hlen, c, hi, hl, hd⟩)⟩
      · exact ⟨none, _, by have := run_endLoop (P := P) hl (by rw [hrec]; simp); rw [hrec] at this; exact this, hdone _ _ (Nat.le_refl _) (hI _ _ _ hi (Turn.putObj W2 (rec_other (by omega) hl) _)) ((World.putObj_heap_other (by omega)).trans hd)⟩
      · exact ⟨some c, _, by have := run_endLoop (P := P) hl (by rw [hrec]; simp); rw [hrec] at this; exact this, hstop _ c i _ (Nat.le_refl _) hlen (hIx c _ _ _ hi (Turn.putObj W2 (rec_other (by omega) hl) _)) ((World.putObj_heap_other (by omega)).trans hd)⟩
end Go.Proofs.Ytckhkagkpldoiaa
