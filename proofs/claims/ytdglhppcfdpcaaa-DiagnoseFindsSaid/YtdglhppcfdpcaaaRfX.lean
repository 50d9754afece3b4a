/- Several texts in one: Rf Rf3 Mk Grw QRound QTail. -/
import Derived.RangeFuncNested
import Derived.RangeFuncBound
import Derived.RangeFuncCalls
import Derived.RangeFuncLeaves
import Derived.RangeFuncBox
import Derived.WalkKit
import Derived.Deep.Draws
import Derived.Shelf.Abstract
import Derived.Sort.QuietIn
import Derived.OwnWalkIn
import Derived.StillTail
namespace Go.Proofs.Ytdglhppcfdpcaaa
open Go Go.RowKit

/-- The world has moved on; of what was there only blocks of S may have turned. -/
structure Turn (S : Nat → Prop) (W W' : World) : Prop where
  os : W'.os = W.os
  tape : W'.tape = W.tape
  output : W'.output = W.output
  size : W.heap.size ≤ W'.heap.size
  same : ∀ b, b < W.heap.size → ¬ S b → W'.heap[b]? = W.heap[b]?
/-- The blocks of K are as they were. -/
structure Keep (K : Nat → Prop) (W W' : World) : Prop where
  size : W.heap.size ≤ W'.heap.size
  same : ∀ b, K b → W'.heap[b]? = W.heap[b]?
def Other (B : Nat) (S : Nat → Prop) (W : World) (b : Nat) : Prop := S b ∨ (B ≤ b ∧ ∃ o : Obj, W.heap[b]? = some o ∧ o.isCells = false)
/-- What the caller's invariant bears: the iterator's own blocks, and records from B on, turn. -/
def Bears (B : Nat) (S : Nat → Prop) (I : Nat → World → Prop) : Prop := ∀ i W W', I i W → Turn (Other B S W) W W' → I i W'
def Stay (S : Nat → Prop) (J : Nat → World → Prop) : Prop := ∀ i W W', J i W → Turn S W W' → J i W'

theorem Turn.refl (S : Nat → Prop) (W : World) : Turn S W W := ⟨rfl, rfl, rfl, Nat.le_refl _, fun _ _ _ => rfl⟩
theorem Turn.mono {S S' : Nat → Prop} {W W' : World} (h : Turn S W W') (hs : ∀ b, S b → S' b) : Turn S' W W' := ⟨h.os, h.tape, h.output, h.size, fun b hb hn => h.same b hb (fun e => hn (hs b e))⟩
theorem Turn.trans {S : Nat → Prop} {A B C : World} (h : Turn S A B) (k : Turn S B C) : Turn S A C :=
  ⟨k.os.trans h.os, k.tape.trans h.tape, k.output.trans h.output, Nat.le_trans h.size k.size, fun b hb hn => (k.same b (Nat.lt_of_lt_of_le hb h.size) hn).trans (h.same b hb hn)⟩
theorem Turn.drewN (S : Nat → Prop) (W : World) (n : Nat) : Turn S W (W.drewN n) := ⟨rfl, rfl, rfl, Nat.le_refl _, fun _ _ _ => rfl⟩
theorem Turn.alloc (S : Nat → Prop) (W : World) (o : Obj) : Turn S W (W.alloc o) :=
  ⟨rfl, rfl, rfl, by simp, fun b hb _ => Below.heap_alloc W o b hb⟩
theorem Turn.setCell {S : Nat → Prop} (W : World) {p : Addr} (hp : S p.block) (v : Value) : Turn S W (W.setCell p v) :=
  ⟨rfl, rfl, rfl, by show W.heap.size ≤ (W.heap.modify _ _).size; rw [Array.size_modify]; exact Nat.le_refl _, fun b _ hn => Below.heap_setCell W p v b (fun e => hn (e ▸ hp))⟩
theorem Turn.putObj {S : Nat → Prop} (W : World) {l : Nat} (hl : S l) (o : Obj) : Turn S W (W.putObj l o) :=
  ⟨(grownBy_putObj' W l o).os, (grownBy_putObj' W l o).tape, (grownBy_putObj' W l o).output, (grownBy_putObj' W l o).size, fun b hb hn => (grownBy_putObj' W l o).block b hb (fun e => by cases e; exact hn hl)⟩
theorem Turn.of_below {S : Nat → Prop} {W W' : World} (h : Below W.heap.size W W') : Turn S W W' := ⟨h.os, h.tape, h.output, h.size, fun b hb _ => h.block b hb⟩
theorem Turn.below {S : Nat → Prop} {W W' : World} {B : Nat} (h : Turn S W W') (hB : B ≤ W.heap.size) (hs : ∀ b, S b → B ≤ b) : Below B W W' :=
  ⟨h.os, h.tape, h.output, h.size, fun b hb => h.same b (by omega) (fun e => by have := hs b e; omega)⟩
theorem Turn.cell {S : Nat → Prop} {W W' : World} (h : Turn S W W') {p : Addr} (hp : ¬ S p.block) {v : Value} (hc : W.cell? p = some v) : W'.cell? p = some v := by
  obtain ⟨o, ho, _⟩ := cells_of_cell hc
  have hlt : p.block < W.heap.size := (Array.getElem?_eq_some_iff.1 ho).1
  rw [World.cell?_of_block (h.same _ hlt hp)]; exact hc
theorem Turn.heap {S : Nat → Prop} {W W' : World} (h : Turn S W W') {b : Nat} (hp : ¬ S b) {o : Obj} (hc : W.heap[b]? = some o) : W'.heap[b]? = some o := by
  have hlt : b < W.heap.size := (Array.getElem?_eq_some_iff.1 hc).1
  exact (h.same _ hlt hp).trans hc
/-- A block of cells outside S is none of the others. -/
theorem other_cells {B : Nat} {S : Nat → Prop} {W : World} {b : Nat} {cs : Array Value} {t : TypeId} {fz : Nat × Nat} (h : W.heap[b]? = some (.cells cs t fz)) (hs : ¬ S b) : ¬ Other B S W b := by
  rintro (h1 | ⟨_, o, ho, hc⟩)
  · exact hs h1
  · rw [h] at ho; cases ho; exact absurd hc (by simp [Obj.isCells])
theorem other_low {B : Nat} {S : Nat → Prop} {W : World} {b : Nat} (h : b < B) (hs : ¬ S b) : ¬ Other B S W b := by
  rintro (h1 | ⟨h2, _⟩)
  · exact hs h1
  · omega
theorem Keep.refl (K : Nat → Prop) (W : World) : Keep K W W := ⟨Nat.le_refl _, fun _ _ => rfl⟩
theorem Keep.trans {K : Nat → Prop} {A B C : World} (h : Keep K A B) (k : Keep K B C) : Keep K A C := ⟨Nat.le_trans h.size k.size, fun b hb => (k.same b hb).trans (h.same b hb)⟩
theorem Keep.of_turn {K S : Nat → Prop} {W W' : World} (h : Turn S W W') (hk : ∀ b, K b → b < W.heap.size ∧ ¬ S b) : Keep K W W' := ⟨h.size, fun b hb => h.same b (hk b hb).1 (hk b hb).2⟩
theorem Keep.mono {K K' : Nat → Prop} {W W' : World} (h : Keep K W W') (hk : ∀ b, K' b → K b) : Keep K' W W' := ⟨h.size, fun b hb => h.same b (hk b hb)⟩

/-- The contract of an iterator that yields xs: S are its own cells, K the blocks that a round must keep, St what its memory holds as it begins. -/
def Iter {α : Type} (F : Fence) (n : Nat) (P : Program) (g : Nat) (lb : Array Value) (encs : α → Array Value) (xs : List α) (S K : Nat → Prop) (St : World → Prop) : Prop :=
  ∀ (l : Nat) (J Jx : Nat → World → Prop) (W : World), St W → Stay S J → Stay S Jx →
    (∀ i x W1, xs[i]? = some x → J i W1 → YieldAt F (n - 1) P l (encs x) W1 fun e W' =>
      (e = .returned (.bool true) ∧ J (i + 1) W' ∧ Keep K W1 W') ∨ (e = .returned (.bool false) ∧ Jx (i + 1) W')) →
    J 0 W →
    CallsIn F n P g (#[.func (.yield l) #[] #[]] ++ lb) W fun e W' => (∃ v, e = .returned v) ∧ (J xs.length W' ∨ ∃ i, i < xs.length ∧ Jx (i + 1) W')

/-- How a round's body may be left. -/
def roundEnd (B : Nat) (K : Nat → Prop) (I : Nat → World → Prop) (Ix : Code → Nat → World → Prop) (i : Nat) (W : World) : Exit → Act → World → Prop
  | .normal, _, W' => KeepsFrom B W W' ∧ Keep K W W' ∧ I i W'
  | .ret, _, W' => KeepsFrom B W W' ∧ Ix .ret i W'
  | .exit id, _, W' => KeepsFrom B W W' ∧ Ix (.exit id) i W'
  | .goto t, _, W' => KeepsFrom B W W' ∧ Ix (.goto t) i W'
  | .panic _, _, _ => False
  | .outgrown, _, _ => False

theorem iter_law {α : Type} {F : Fence} {n : Nat} {P : Program} {g : Operand} {ps : Array Tmp} {assign body : Code} {Q : Exit → Act → World → Prop} {a : Act} {w : World}
    (hro : F.round = none) (h1 : 1 ≤ n) {gf : Nat} {lb : Array Value} (hg : a.eval g = .func (.func gf) #[] lb) (hFg : F.fn gf) (eg : ∀ args w, (callFunc gf args).run P w = .ok (.enter gf args) w)
    {encs : α → Array Value} {xs : List α} {S K : Nat → Prop} {St : World → Prop} (hit : Iter F (n - 1) P gf lb encs xs S K St)
    (hSt : ∀ W, (∀ b, b < w.heap.size → W.heap[b]? = w.heap[b]?) → St W) (hSl : ∀ b, S b → b < w.heap.size) (hKl : ∀ b, K b → b < w.heap.size) (hps : ∀ x, (encs x).size = ps.size)
    (I : Nat → World → Prop) (Ix : Code → Nat → World → Prop) (hI : Bears w.heap.size S I) (hIx : ∀ c, Bears w.heap.size S (Ix c)) (h0 : I 0 w) (a₁ : α → Act)
    (hassign : ∀ (l : Nat) (x : α) (W : World) (Kt : Act → World → Prop), Kt (a₁ x) W →
      assign.wpIn (F.inRound l) (n - 1 - 1) P (Exit.then Kt (fun _ _ _ => False)) { tmps := (ps.zip (encs x)).foldl (fun t (p, v) => t.setIfInBounds p v) a.tmps, defers := [] } W)
    (hbody : ∀ (l i : Nat) (x : α) (W : World), xs[i]? = some x → I i W → body.wpIn (F.inRound l) (n - 1 - 1) P (roundEnd w.heap.size K I Ix (i + 1) W) (a₁ x) W)
    (hdone : ∀ (D : Nat) (W : World), w.heap.size ≤ D → I xs.length W → W.heap[D]? = some (.deferred (some [])) → Q .normal { a with defers := { target := .collected D, args := #[] } :: a.defers } W)
    (hstop : ∀ (D : Nat) (c : Code) (i : Nat) (W : World), w.heap.size ≤ D → i < xs.length → Ix c (i + 1) W → W.heap[D]? = some (.deferred (some [])) → c.wpIn F n P Q { a with defers := { target := .collected D, args := #[] } :: a.defers } W) :
    (Code.rangeFunc g ps assign body).wpIn F n P Q a w := by
  refine wpIn_rangeFunc ?_
  intro fn hfn
  rw [hro]
  obtain ⟨rec, hrec⟩ : ∃ rec : LoopState → Option Code → Loop, rec = fun st pe => { state := st, pending := pe, fn, tmps := a.tmps, params := ps, assign, body, defers := w.heap.size } := ⟨_, rfl⟩
  obtain ⟨V, hV⟩ : ∃ V, (w.alloc (.deferred (some []))).alloc (.loop (rec .ready none)) = V := ⟨_, rfl⟩
  have vl : V.heap[w.heap.size + 1]? = some (.loop (rec .ready none)) := by
    rw [← hV]; have := World.alloc_heap_new (w.alloc (.deferred (some []))) (.loop (rec .ready none)); rwa [World.size_alloc] at this
  have vd : V.heap[w.heap.size]? = some (.deferred (some [])) := by
    rw [← hV]; exact (Below.heap_alloc _ _ _ (by simp)).trans (World.alloc_heap_new w _)
  have vo : ∀ b, b < w.heap.size → V.heap[b]? = w.heap[b]? := by
    intro b hb
    rw [← hV]; exact (Below.heap_alloc _ _ _ (by simp; omega)).trans (Below.heap_alloc _ _ _ hb)
  have vI : I 0 V := by
    rw [← hV]; exact hI 0 _ _ (hI 0 _ _ h0 (Turn.alloc _ _ _)) (Turn.alloc _ _ _)
  have rec_other : ∀ {W : World} {l : Nat} {r : Loop}, w.heap.size ≤ l → W.heap[l]? = some (.loop r) → Other w.heap.size S W l := fun h e => .inr ⟨h, _, e, rfl⟩
  have keepK : ∀ {W : World} (o : Obj), Keep K W (W.putObj (w.heap.size + 1) o) := fun {W} o => by
    refine ⟨(grownBy_putObj' W _ o).size, fun b hb => World.putObj_heap_other (fun e => ?_)⟩
    have := hKl b hb; omega
  refine ⟨w.heap.size + 1, [{ target := .collected w.heap.size, args := #[] }], V, { target := .fn (.func gf) lb, args := #[.func (.yield (w.heap.size + 1)) #[] #[]] }, V, gf,
    #[.func (.yield (w.heap.size + 1)) #[] #[]] ++ lb, V, ?_, ?_, ?_, ?_, fun _ => h1, ?_⟩
  · rw [← hV, hrec]; exact run_enterLoop_outer _ _ _ _ _
  · simp only [resolve, hg]
    simp [go_sem]
  · intro f' hf'; simp [Target.leads] at hf'; subst hf'; exact hFg
  · simp [invoke, go_sem, eg]
  · have low : ∀ {A B : World} {b : Nat} {o : Obj}, Turn S A B → w.heap.size ≤ b → A.heap[b]? = some o → B.heap[b]? = some o := fun t hb ho => t.heap (fun e => by have := hSl _ e; omega) ho
    refine (hit (w.heap.size + 1)
      (fun i W => I i W ∧ W.heap[w.heap.size + 1]? = some (.loop (rec .ready none)) ∧ W.heap[w.heap.size]? = some (.deferred (some [])))
      (fun i W => ∃ c, Ix c i W ∧ W.heap[w.heap.size + 1]? = some (.loop (rec .done (some c))) ∧ W.heap[w.heap.size]? = some (.deferred (some [])))
      V (hSt V vo)
      (fun i A B hs t => ⟨hI i A B hs.1 (t.mono fun _ e => .inl e), low t (by omega) hs.2.1, low t (Nat.le_refl _) hs.2.2⟩)
      (fun i A B hs t => by
        obtain ⟨c, hc, hl, hd⟩ := hs
        exact ⟨c, hIx c i A B hc (t.mono fun _ e => .inl e), low t (by omega) hl, low t (Nat.le_refl _) hd⟩)
      ?_ ⟨vI, vl, vd⟩).mono ?_
    · rintro i x W hx ⟨hi, hl, hd⟩
      have hlt : w.heap.size + 1 < W.heap.size := (Array.getElem?_eq_some_iff.1 hl).1
      have hy := run_yield (P := P) (args := encs x) hl (by rw [hrec]; exact hps x)
      rw [hrec] at hy
      refine ⟨fn, _, assign, body, hy, roundIn_of_wpIn hfn (hassign _ x W _ ⟨_, run_beginRound hl (by rw [hrec]), ?_⟩)⟩
      obtain ⟨U, hU⟩ : ∃ U, W.putObj (w.heap.size + 1) (.loop { rec .ready none with state := .busy }) = U := ⟨_, rfl⟩
      have ul : U.heap[w.heap.size + 1]? = some (.loop { rec .ready none with state := .busy }) := by rw [← hU]; exact World.putObj_heap_same hlt
      have ud : U.heap[w.heap.size]? = some (.deferred (some [])) := by rw [← hU]; exact (World.putObj_heap_other (by omega)).trans hd
      have uI : I i U := by rw [← hU]; exact hI i _ _ hi (Turn.putObj W (rec_other (by omega) hl) _)
      have uK : Keep K W U := by rw [← hU]; exact keepK _
      rw [hU]
      refine wpIn_mono (hbody _ i x U hx uI) ?_
      have fin : ∀ (jump : Option Code) (W3 : World), KeepsFrom w.heap.size U W3 →
          (Instr.endRound (w.heap.size + 1) jump).run P W3 = .ok (.bool jump.isNone) (W3.putObj (w.heap.size + 1) (.loop (rec (if jump.isNone then .ready else .done) jump))) ∧
          W3.heap[w.heap.size + 1]? = some (.loop { rec .ready none with state := .busy }) ∧
          (W3.putObj (w.heap.size + 1) (.loop (rec (if jump.isNone then .ready else .done) jump))).heap[w.heap.size + 1]? = some (.loop (rec (if jump.isNone then .ready else .done) jump)) ∧
          (W3.putObj (w.heap.size + 1) (.loop (rec (if jump.isNone then .ready else .done) jump))).heap[w.heap.size]? = some (.deferred (some [])) := fun jump W3 hk => by
        have l3 := hk.same _ _ (by omega) ul rfl
        have := run_endRound (P := P) jump l3
        rw [hrec] at this ⊢
        exact ⟨this, by rw [hrec] at l3; exact l3, World.putObj_heap_same (Array.getElem?_eq_some_iff.1 l3).1, (World.putObj_heap_other (by omega)).trans (hk.same _ _ (Nat.le_refl _) ud rfl)⟩
      have jumps : ∀ (c : Code) (W3 : World), KeepsFrom w.heap.size U W3 → Ix c (i + 1) W3 → ∃ v w', (Instr.endRound (w.heap.size + 1) (some c)).run P W3 = .ok v w' ∧
          ((Ending.returned v = .returned (.bool true) ∧ (I (i + 1) w' ∧ w'.heap[w.heap.size + 1]? = some (.loop (rec .ready none)) ∧ w'.heap[w.heap.size]? = some (.deferred (some []))) ∧ Keep K W w') ∨
           (Ending.returned v = .returned (.bool false) ∧ ∃ c, Ix c (i + 1) w' ∧ w'.heap[w.heap.size + 1]? = some (.loop (rec .done (some c))) ∧ w'.heap[w.heap.size]? = some (.deferred (some [])))) := fun c W3 hk hc => by
        obtain ⟨hr, l3, l4, d4⟩ := fin (some c) W3 hk
        exact ⟨_, _, hr, .inr ⟨rfl, c, hIx c _ _ _ hc (Turn.putObj W3 (rec_other (by omega) l3) _), l4, d4⟩⟩
      rintro e a3 W3 hp
      cases e with
      | normal =>
        obtain ⟨hk, hkk, hi3⟩ := hp
        obtain ⟨hr, l3, l4, d4⟩ := fin none W3 hk
        exact ⟨_, _, hr, .inl ⟨rfl, ⟨hI _ _ _ hi3 (Turn.putObj W3 (rec_other (by omega) l3) _), l4, d4⟩, (uK.trans hkk).trans (keepK _)⟩⟩
      | ret => exact jumps _ W3 hp.1 hp.2
      | exit id => exact jumps _ W3 hp.1 hp.2
      | goto t => exact jumps _ W3 hp.1 hp.2
      | panic ch => exact hp.elim
      | outgrown => exact hp.elim
    · rintro e W2 ⟨⟨v, rfl⟩, (⟨hi, hl, hd⟩ | ⟨i, hlen, c, hi, hl, hd⟩)⟩
      · exact ⟨none, _, by have := run_endLoop (P := P) hl (by rw [hrec]; simp); rw [hrec] at this; exact this, hdone _ _ (Nat.le_refl _) (hI _ _ _ hi (Turn.putObj W2 (rec_other (by omega) hl) _)) ((World.putObj_heap_other (by omega)).trans hd)⟩
      · exact ⟨some c, _, by have := run_endLoop (P := P) hl (by rw [hrec]; simp); rw [hrec] at this; exact this, hstop _ c i _ (Nat.le_refl _) hlen (hIx c _ _ _ hi (Turn.putObj W2 (rec_other (by omega) hl) _)) ((World.putObj_heap_other (by omega)).trans hd)⟩
end Go.Proofs.Ytdglhppcfdpcaaa
namespace Go.Proofs.Ytdglhppcfdpcaaa
open Go Go.RowKit

/-- From O, the caller's blocks, to O' over a round: it takes up new blocks of cells alone; what is not its own, and what is in K, is kept. -/
structure Grow (K O O' : Nat → Prop) (W W' : World) : Prop where
  size : W.heap.size ≤ W'.heap.size
  old : ∀ b, b < W.heap.size → O' b → O b
  new : ∀ b, O' b → b < W'.heap.size
  cells : ∀ b o, O' b → W'.heap[b]? = some o → o.isCells = false → ∃ o' : Obj, W.heap[b]? = some o' ∧ o'.isCells = false
  keep : ∀ b, b < W.heap.size → (¬ O b ∨ K b) → W'.heap[b]? = W.heap[b]?
def StayO (J : Nat → (Nat → Prop) → World → Prop) : Prop := ∀ i O W W', J i O W → Turn (fun b => ¬ O b) W W' → J i O W'

/-- The contract of an iterator: S are its own cells that it writes, K the blocks that a round must keep. -/
def Iter3 {α : Type} (F : Fence) (n : Nat) (P : Program) (g : Nat) (lb : Array Value) (encs : α → Array Value) (xs : List α) (S K : Nat → Prop) (St : World → Prop) : Prop :=
  ∀ (l : Nat) (J Jx : Nat → (Nat → Prop) → World → Prop) (W : World) (O : Nat → Prop), St W → StayO J → StayO Jx → (∀ b, S b → ¬ O b) → (∀ b, O b → b < W.heap.size) →
    (∀ i x O1 W1, xs[i]? = some x → J i O1 W1 → W.heap.size ≤ W1.heap.size → YieldAt F (n - 1) P l (encs x) W1 fun e W' => ∃ O', Grow K O1 O' W1 W' ∧
      ((e = .returned (.bool true) ∧ J (i + 1) O' W') ∨ (e = .returned (.bool false) ∧ Jx (i + 1) O' W'))) →
    J 0 O W →
    CallsIn F n P g (#[.func (.yield l) #[] #[]] ++ lb) W fun e W' => (∃ v, e = .returned v) ∧ ((∃ O', J xs.length O' W') ∨ ∃ i, i < xs.length ∧ ∃ O', Jx (i + 1) O' W')

/-- How a round's body may be left. -/
def roundEnd3 (K : Nat → Prop) (I : Nat → (Nat → Prop) → World → Prop) (Ix : Code → Nat → (Nat → Prop) → World → Prop) (i : Nat) (O : Nat → Prop) (W : World) : Exit → Act → World → Prop
  | .normal, _, W' => ∃ O', Grow K O O' W W' ∧ I i O' W'
  | .ret, _, W' => ∃ O', Grow K O O' W W' ∧ Ix .ret i O' W'
  | .exit id, _, W' => ∃ O', Grow K O O' W W' ∧ Ix (.exit id) i O' W'
  | .goto t, _, W' => ∃ O', Grow K O O' W W' ∧ Ix (.goto t) i O' W'
  | .panic _, _, _ => False
  | .outgrown, _, _ => False

theorem iter_law3 {α : Type} {F : Fence} {n : Nat} {P : Program} {g : Operand} {ps : Array Tmp} {assign body : Code} {Q : Exit → Act → World → Prop} {a : Act} {w : World}
    (hro : F.round = none) (h1 : 1 ≤ n) {gf : Nat} {lb : Array Value} (hg : a.eval g = .func (.func gf) #[] lb) (hFg : F.fn gf) (eg : ∀ args w, (callFunc gf args).run P w = .ok (.enter gf args) w)
    {encs : α → Array Value} {xs : List α} {S K : Nat → Prop} {St : World → Prop} (hit : Iter3 F (n - 1) P gf lb encs xs S K St) (O : Nat → Prop)
    (hSt : ∀ W, (∀ b, b < w.heap.size → W.heap[b]? = w.heap[b]?) → St W) (hO : ∀ b, O b → b < w.heap.size) (hSl : ∀ b, S b → b < w.heap.size ∧ ¬ O b) (hKl : ∀ b, K b → b < w.heap.size) (hps : ∀ x, (encs x).size = ps.size)
    (I : Nat → (Nat → Prop) → World → Prop) (Ix : Code → Nat → (Nat → Prop) → World → Prop) (hI : StayO I) (hIx : ∀ c, StayO (Ix c)) (h0 : I 0 O w) (a₁ : α → Act)
    (hassign : ∀ (l : Nat) (x : α) (W : World) (Kt : Act → World → Prop), Kt (a₁ x) W →
      assign.wpIn (F.inRound l) (n - 1 - 1) P (Exit.then Kt (fun _ _ _ => False)) { tmps := (ps.zip (encs x)).foldl (fun t (p, v) => t.setIfInBounds p v) a.tmps, defers := [] } W)
    (hbody : ∀ (l i : Nat) (x : α) (O1 : Nat → Prop) (W : World), xs[i]? = some x → w.heap.size + 2 ≤ W.heap.size → I i O1 W → body.wpIn (F.inRound l) (n - 1 - 1) P (roundEnd3 K I Ix (i + 1) O1 W) (a₁ x) W)
    (hdone : ∀ (D : Nat) (O1 : Nat → Prop) (W : World), w.heap.size ≤ D → ¬ O1 D → I xs.length O1 W → W.heap[D]? = some (.deferred (some [])) → Q .normal { a with defers := { target := .collected D, args := #[] } :: a.defers } W)
    (hstop : ∀ (D : Nat) (c : Code) (i : Nat) (O1 : Nat → Prop) (W : World), w.heap.size ≤ D → ¬ O1 D → i < xs.length → Ix c (i + 1) O1 W → W.heap[D]? = some (.deferred (some [])) → c.wpIn F n P Q { a with defers := { target := .collected D, args := #[] } :: a.defers } W) :
    (Code.rangeFunc g ps assign body).wpIn F n P Q a w := by
  refine wpIn_rangeFunc ?_
  intro fn hfn
  rw [hro]
  obtain ⟨B, hB⟩ : ∃ B, w.heap.size = B := ⟨_, rfl⟩
  obtain ⟨rec, hrec⟩ : ∃ rec : LoopState → Option Code → Loop, rec = fun st pe => { state := st, pending := pe, fn, tmps := a.tmps, params := ps, assign, body, defers := B } := ⟨_, rfl⟩
  obtain ⟨V, hV⟩ : ∃ V, (w.alloc (.deferred (some []))).alloc (.loop (rec .ready none)) = V := ⟨_, rfl⟩
  have vl : V.heap[B + 1]? = some (.loop (rec .ready none)) := by
    rw [← hV, ← hB]; have := World.alloc_heap_new (w.alloc (.deferred (some []))) (.loop (rec .ready none)); rwa [World.size_alloc] at this
  have vd : V.heap[B]? = some (.deferred (some [])) := by
    rw [← hV, ← hB]; exact (Below.heap_alloc _ _ _ (by simp)).trans (World.alloc_heap_new w _)
  have vo : ∀ b, b < B → V.heap[b]? = w.heap[b]? := by
    intro b hb
    rw [← hV]; exact (Below.heap_alloc _ _ _ (by simp; omega)).trans (Below.heap_alloc _ _ _ (by omega))
  have vI : I 0 O V := by
    rw [← hV]; exact hI 0 _ _ _ (hI 0 _ _ _ h0 (Turn.alloc _ _ _)) (Turn.alloc _ _ _)
  have vs : V.heap.size = B + 2 := by rw [← hV, ← hB]; simp
  refine ⟨B + 1, [{ target := .collected B, args := #[] }], V, { target := .fn (.func gf) lb, args := #[.func (.yield (B + 1)) #[] #[]] }, V, gf,
    #[.func (.yield (B + 1)) #[] #[]] ++ lb, V, ?_, ?_, ?_, ?_, fun _ => h1, ?_⟩
  · rw [← hV, hrec, ← hB]; exact run_enterLoop_outer _ _ _ _ _
  · simp only [resolve, hg]
    simp [go_sem]
  · intro f' hf'; simp [Target.leads] at hf'; subst hf'; exact hFg
  · simp [invoke, go_sem, eg]
  · obtain ⟨up, hup⟩ : ∃ up : (Nat → Prop) → Nat → Prop, up = fun Oc b => Oc b ∨ b = B ∨ b = B + 1 := ⟨_, rfl⟩
    have kept : ∀ {Oc : Nat → Prop} {A C : World} {b : Nat} {o : Obj}, Turn (fun b => ¬ up Oc b) A C → (b = B ∨ b = B + 1) → A.heap[b]? = some o → C.heap[b]? = some o := fun {Oc A C b o} t hb ho =>
      t.heap (fun e => e (by rw [hup]; exact .inr hb)) ho
    have upT : ∀ {Oc : Nat → Prop} {A C : World}, Turn (fun b => ¬ up Oc b) A C → Turn (fun b => ¬ Oc b) A C := fun {Oc A C} t => t.mono fun b hb h => hb (by rw [hup]; exact .inl h)
    refine (hit (B + 1)
      (fun i O1 W => ∃ Oc, O1 = up Oc ∧ (¬ Oc B ∧ ¬ Oc (B + 1)) ∧ I i Oc W ∧ W.heap[B + 1]? = some (.loop (rec .ready none)) ∧ W.heap[B]? = some (.deferred (some [])))
      (fun i O1 W => ∃ Oc, O1 = up Oc ∧ (¬ Oc B ∧ ¬ Oc (B + 1)) ∧ ∃ c, Ix c i Oc W ∧ W.heap[B + 1]? = some (.loop (rec .done (some c))) ∧ W.heap[B]? = some (.deferred (some [])))
      V (up O) (hSt V (by rw [hB]; exact vo))
      (fun i O1 A C hs t => by
        obtain ⟨Oc, rfl, hn, h1, h2, h3⟩ := hs
        exact ⟨Oc, rfl, hn, hI i _ A C h1 (upT t), kept t (.inr rfl) h2, kept t (.inl rfl) h3⟩)
      (fun i O1 A C hs t => by
        obtain ⟨Oc, rfl, hn, c, h1, h2, h3⟩ := hs
        exact ⟨Oc, rfl, hn, c, hIx c i _ A C h1 (upT t), kept t (.inr rfl) h2, kept t (.inl rfl) h3⟩)
      (fun b hb h => by
        have h9 := hSl b hb
        rw [hup] at h
        rcases h with h | h | h
        · exact h9.2 h
        · omega
        · omega)
      (fun b hb => by
        rw [hup] at hb
        rcases hb with h | h | h
        · have := hO b h; omega
        · omega
        · omega)
      ?_ ⟨O, rfl, ⟨fun h => by have := hO _ h; omega, fun h => by have := hO _ h; omega⟩, vI, vl, vd⟩).mono ?_
    · rintro i x O1 W hx ⟨Oc, rfl, hn, hi, hl, hd⟩ hVW
      have hlt : B + 1 < W.heap.size := (Array.getElem?_eq_some_iff.1 hl).1
      have hy := run_yield (P := P) (args := encs x) hl (by rw [hrec]; exact hps x)
      rw [hrec] at hy
      refine ⟨fn, _, assign, body, hy, roundIn_of_wpIn hfn (hassign _ x W _ ⟨_, run_beginRound hl (by rw [hrec]), ?_⟩)⟩
      obtain ⟨U, hU⟩ : ∃ U, W.putObj (B + 1) (.loop { rec .ready none with state := .busy }) = U := ⟨_, rfl⟩
      have ul : U.heap[B + 1]? = some (.loop { rec .ready none with state := .busy }) := by rw [← hU]; exact World.putObj_heap_same hlt
      have ud : U.heap[B]? = some (.deferred (some [])) := by rw [← hU]; exact (World.putObj_heap_other (by omega)).trans hd
      have uI : I i Oc U := by rw [← hU]; exact hI i _ _ _ hi (Turn.putObj W hn.2 _)
      have us : U.heap.size = W.heap.size := by rw [← hU]; simp [World.putObj]
      have uo : ∀ b, b ≠ B + 1 → U.heap[b]? = W.heap[b]? := fun b hb => by rw [← hU]; exact World.putObj_heap_other hb
      rw [hU]
      refine wpIn_mono (hbody _ i x Oc U hx (by omega) uI) ?_
      have fin : ∀ (jump : Option Code) (O2 : Nat → Prop) (W3 : World), Grow K Oc O2 U W3 →
          (Instr.endRound (B + 1) jump).run P W3 = .ok (.bool jump.isNone) (W3.putObj (B + 1) (.loop (rec (if jump.isNone then .ready else .done) jump))) ∧
          (W3.putObj (B + 1) (.loop (rec (if jump.isNone then .ready else .done) jump))).heap[B + 1]? = some (.loop (rec (if jump.isNone then .ready else .done) jump)) ∧
          (W3.putObj (B + 1) (.loop (rec (if jump.isNone then .ready else .done) jump))).heap[B]? = some (.deferred (some [])) ∧
          (¬ O2 B ∧ ¬ O2 (B + 1)) ∧ Grow K (up Oc) (up O2) W (W3.putObj (B + 1) (.loop (rec (if jump.isNone then .ready else .done) jump))) := fun jump O2 W3 hk => by
        have l3 : W3.heap[B + 1]? = some (.loop { rec .ready none with state := .busy }) := (hk.keep (B + 1) (by omega) (.inl hn.2)).trans ul
        have d3 : W3.heap[B]? = some (.deferred (some [])) := (hk.keep B (by omega) (.inl hn.1)).trans ud
        have n3 : ¬ O2 B ∧ ¬ O2 (B + 1) := ⟨fun h => hn.1 (hk.old _ (by omega) h), fun h => hn.2 (hk.old _ (by omega) h)⟩
        have hr := run_endRound (P := P) jump l3
        rw [hrec] at hr ⊢
        rw [hrec] at l3
        have hsz : ∀ o, (W3.putObj (B + 1) o).heap.size = W3.heap.size := fun o => by simp [World.putObj]
        have hks := hk.size
        refine ⟨hr, World.putObj_heap_same (Array.getElem?_eq_some_iff.1 l3).1, (World.putObj_heap_other (by omega)).trans d3, n3, ⟨by rw [hsz]; omega, ?_, ?_, ?_, ?_⟩⟩
        · intro b hb h
          rw [hup] at h ⊢
          exact h.elim (fun h => .inl (hk.old b (by omega) h)) .inr
        · intro b h
          rw [hup] at h
          rw [hsz]
          rcases h with h | h | h
          · exact hk.new b h
          · omega
          · omega
        · intro b o h ho hc
          rw [hup] at h
          rcases Nat.decEq b (B + 1) with hne | rfl
          · rcases h with h | rfl | h
            · obtain ⟨o', h1, h2⟩ := hk.cells b o h ((World.putObj_heap_other hne).symm.trans ho) hc
              exact ⟨o', (uo b hne).symm.trans h1, h2⟩
            · exact ⟨_, hd, rfl⟩
            · exact absurd h hne
          · exact ⟨_, hl, rfl⟩
        · intro b hb h
          have hne : b ≠ B + 1 := by
            rintro rfl
            rcases h with h | h
            · exact h (by rw [hup]; exact .inr (.inr rfl))
            · have := hKl _ h; omega
          refine (World.putObj_heap_other hne).trans ((hk.keep b (by omega) ?_).trans (uo b hne))
          rcases h with h | h
          · exact .inl fun e => h (by rw [hup]; exact .inl e)
          · exact .inr h
      have jumps : ∀ (c : Code) (O2 : Nat → Prop) (W3 : World), Grow K Oc O2 U W3 → Ix c (i + 1) O2 W3 → ∃ v w', (Instr.endRound (B + 1) (some c)).run P W3 = .ok v w' ∧ ∃ O', Grow K (up Oc) O' W w' ∧
          ((Ending.returned v = .returned (.bool true) ∧ ∃ Oc', O' = up Oc' ∧ (¬ Oc' B ∧ ¬ Oc' (B + 1)) ∧ I (i + 1) Oc' w' ∧ w'.heap[B + 1]? = some (.loop (rec .ready none)) ∧ w'.heap[B]? = some (.deferred (some []))) ∨
           (Ending.returned v = .returned (.bool false) ∧ ∃ Oc', O' = up Oc' ∧ (¬ Oc' B ∧ ¬ Oc' (B + 1)) ∧ ∃ c, Ix c (i + 1) Oc' w' ∧ w'.heap[B + 1]? = some (.loop (rec .done (some c))) ∧ w'.heap[B]? = some (.deferred (some [])))) := fun c O2 W3 hk hc => by
        obtain ⟨hr, l4, d4, n3, hg⟩ := fin (some c) O2 W3 hk
        exact ⟨_, _, hr, up O2, hg, .inr ⟨rfl, O2, rfl, n3, c, hIx c _ _ _ _ hc (Turn.putObj W3 n3.2 _), l4, d4⟩⟩
      rintro e a3 W3 hp
      cases e with
      | normal =>
        obtain ⟨O2, hk, hi3⟩ := hp
        obtain ⟨hr, l4, d4, n3, hg⟩ := fin none O2 W3 hk
        exact ⟨_, _, hr, up O2, hg, .inl ⟨rfl, O2, rfl, n3, hI _ _ _ _ hi3 (Turn.putObj W3 n3.2 _), l4, d4⟩⟩
      | ret => obtain ⟨O2, hk, hi3⟩ := hp; exact jumps _ O2 W3 hk hi3
      | exit id => obtain ⟨O2, hk, hi3⟩ := hp; exact jumps _ O2 W3 hk hi3
      | goto t => obtain ⟨O2, hk, hi3⟩ := hp; exact jumps _ O2 W3 hk hi3
      | panic ch => exact hp.elim
      | outgrown => exact hp.elim
    · rintro e W2 ⟨⟨v, rfl⟩, (⟨O', Oc, rfl, hn, hi, hl, hd⟩ | ⟨i, hlen, O', Oc, rfl, hn, c, hi, hl, hd⟩)⟩
      · exact ⟨none, _, by have := run_endLoop (P := P) hl (by rw [hrec]; simp); rw [hrec] at this; exact this, hdone _ _ _ (by omega) hn.1 (hI _ _ _ _ hi (Turn.putObj W2 hn.2 _)) ((World.putObj_heap_other (by omega)).trans hd)⟩
      · exact ⟨some c, _, by have := run_endLoop (P := P) hl (by rw [hrec]; simp); rw [hrec] at this; exact this, hstop _ c i _ _ (by omega) hn.1 hlen (hIx c _ _ _ _ hi (Turn.putObj W2 hn.2 _)) ((World.putObj_heap_other (by omega)).trans hd)⟩

/-- An iterator by the elder contract. -/
theorem Iter.to3 {α : Type} {F : Fence} {n : Nat} {P : Program} {g : Nat} {lb : Array Value} {encs : α → Array Value} {xs : List α} {S K : Nat → Prop} {St : World → Prop}
    (h : Iter F n P g lb encs xs S K St) (hSK : ∀ b, S b → K b) (hKl : ∀ W, St W → ∀ b, K b → b < W.heap.size) : Iter3 F n P g lb encs xs S K St := by
  intro l J Jx W O hSt hJ hJx hS hO hY h0
  refine (h l (fun i W1 => ∃ O1, J i O1 W1 ∧ (∀ b, S b → ¬ O1 b) ∧ W.heap.size ≤ W1.heap.size) (fun i W1 => ∃ O1, Jx i O1 W1 ∧ (∀ b, S b → ¬ O1 b)) W hSt ?_ ?_ ?_ ⟨O, h0, hS, Nat.le_refl _⟩).mono ?_
  · rintro i A B ⟨O1, h1, h2, h3⟩ t
    exact ⟨O1, hJ _ _ _ _ h1 (t.mono h2), h2, Nat.le_trans h3 t.size⟩
  · rintro i A B ⟨O1, h1, h2⟩ t
    exact ⟨O1, hJx _ _ _ _ h1 (t.mono h2), h2⟩
  · rintro i x W1 hx ⟨O1, h1, h2, h3⟩
    obtain ⟨fn, tmps, assign, body, hy, hR⟩ := hY i x O1 W1 hx h1 h3
    refine ⟨fn, tmps, assign, body, hy, hR.mono ?_⟩
    rintro e W' ⟨O', hg, (⟨rfl, hj⟩ | ⟨rfl, hj⟩)⟩
    · have hk : ∀ b, K b → b < W1.heap.size := fun b hb => Nat.lt_of_lt_of_le (hKl W hSt b hb) h3
      exact .inl ⟨rfl, ⟨O', hj, fun b hb ho => h2 b hb (hg.old b (hk b (hSK b hb)) ho), Nat.le_trans h3 hg.size⟩, hg.size, fun b hb => hg.keep b (hk b hb) (.inr hb)⟩
    · have hk : ∀ b, K b → b < W1.heap.size := fun b hb => Nat.lt_of_lt_of_le (hKl W hSt b hb) h3
      exact .inr ⟨rfl, O', hj, fun b hb ho => h2 b hb (hg.old b (hk b (hSK b hb)) ho)⟩
  · rintro e W' ⟨hv, (⟨O', hj, _⟩ | ⟨i, hi, O', hj, _⟩)⟩
    · exact ⟨hv, .inl ⟨O', hj⟩⟩
    · exact ⟨hv, .inr ⟨i, hi, O', hj⟩⟩
end Go.Proofs.Ytdglhppcfdpcaaa
namespace Go.Proofs.Ytdglhppcfdpcaaa
open Go Go.RowKit Go.Shelf

/-- The caller's blocks, as an iterator that began at g0 meets them: never g0, and from g0 on cells alone. -/
structure Mine (g0 : Nat) (O : Nat → Prop) (W : World) : Prop where
  non : ¬ O g0
  lt : ∀ b, O b → b < W.heap.size
  cells : ∀ b o, g0 ≤ b → O b → W.heap[b]? = some o → o.isCells = true
theorem Mine.turn {g0 : Nat} {O : Nat → Prop} {W W' : World} (h : Mine g0 O W) (t : Turn (fun b => ¬ O b) W W') : Mine g0 O W' :=
  ⟨h.non, fun b hb => Nat.lt_of_lt_of_le (h.lt b hb) t.size, fun b o hg hb ho => h.cells b o hg hb ((t.same b (h.lt b hb) (fun e => e hb)).symm.trans ho)⟩
theorem Mine.grow {g0 : Nat} {K O O' : Nat → Prop} {W W' : World} (h : Mine g0 O W) (hg : g0 < W.heap.size) (g : Grow K O O' W W') : Mine g0 O' W' :=
  ⟨fun e => h.non (g.old _ hg e), g.new, fun b o hb ho hs => by
    cases hc : o.isCells with
    | true => rfl
    | false =>
      obtain ⟨o', h1, h2⟩ := g.cells b o ho hs hc
      rw [h.cells b o' hb (g.old b (Array.getElem?_eq_some_iff.1 h1).1 ho) h1] at h2
      cases h2⟩
theorem World.lt_of_cell {w : World} {p : Addr} {v : Value} (h : w.cell? p = some v) : p.block < w.heap.size := by
  obtain ⟨o, ho, _⟩ := cells_of_cell h
  exact (Array.getElem?_eq_some_iff.1 ho).1

/-- A round at the wide fence serves in a round. -/
theorem roundIn_wide {n m l l' : Nat} {P : Program} {f : FuncId} {tmps : Array Value} {assign body : Code} {w : World} {R : Ending → World → Prop}
    (h : RoundIn Fence.wide n P l f tmps assign body w R) : RoundIn (Fence.wide.inRound l') m P l f tmps assign body w R :=
  ⟨trivial, fun c cs _ => h.2 c cs (room_wide _)⟩

/-- A post that no panic meets: ahead of a region that draws, where the function's own post reads the frame at a panic. -/
def calmQ (Q : Exit → Act → World → Prop) : Exit → Act → World → Prop
  | .panic _, _, _ => False
  | .outgrown, _, _ => False
  | e, a, w => Q e a w
theorem wpIn_calm {F : Fence} {n : Nat} {P : Program} {c : Code} {Q : Exit → Act → World → Prop} {a : Act} {w : World} (h : c.wpIn F n P (calmQ Q) a w) : c.wpIn F n P Q a w :=
  Code.wpIn_mono (fun e a w q => by cases e <;> first | exact q | exact q.elim) h
theorem calmQ_normal {Q : Exit → Act → World → Prop} {a : Act} {w : World} (h : Q .normal a w) : calmQ Q .normal a w := h

/-- Deferred marks, the newest first, each a block of its own from lo on and before hi. -/
def Marks (lo : Nat) : Nat → List Deferred → World → Prop
  | _, [], _ => True
  | hi, d :: ds, W => ∃ D, d = { target := .collected D, args := #[] } ∧ lo ≤ D ∧ D < hi ∧ W.heap[D]? = some (.deferred (some [])) ∧ Marks lo D ds W
theorem Marks.same {lo : Nat} {W W' : World} : ∀ {ds : List Deferred} {hi : Nat}, Marks lo hi ds W → (∀ D, lo ≤ D → D < hi → W.heap[D]? = some (.deferred (some [])) → W'.heap[D]? = some (.deferred (some []))) → Marks lo hi ds W'
  | [], _, _, _ => trivial
  | _ :: _, _, ⟨D, h1, h2, h3, h4, h5⟩, k => ⟨D, h1, h2, h3, k D h2 h3 h4, h5.same fun E e1 e2 => k E e1 (Nat.lt_trans e2 h3)⟩
theorem Marks.up {lo hi hi' : Nat} {W : World} (h : hi ≤ hi') : ∀ {ds : List Deferred}, Marks lo hi ds W → Marks lo hi' ds W
  | [], _ => trivial
  | _ :: _, ⟨D, h1, h2, h3, h4, h5⟩ => ⟨D, h1, h2, Nat.lt_of_lt_of_le h3 h, h4, h5⟩
theorem Marks.cons {lo hi hi' D : Nat} {W : World} {ds : List Deferred} (h : Marks lo hi ds W) (h1 : hi ≤ D) (h2 : lo ≤ D) (h3 : D < hi') (h4 : W.heap[D]? = some (.deferred (some []))) : Marks lo hi' ({ target := .collected D, args := #[] } :: ds) W :=
  ⟨D, rfl, h2, h3, h4, h.up h1⟩
theorem leaves_marks {F : Fence} {n : Nat} {P : Program} {fn : Func} {tmps : Array Value} {R : Ending → World → Prop} {g0 : Nat} {O : Nat → Prop} : ∀ (ds : List Deferred) (hi : Nat) (w : World), Marks g0 hi ds w → Mine g0 O w →
    (∀ w', Turn (fun b => ¬ O b) w w' → LeavesIn F n P fn tmps R [] .returning w') → LeavesInM F n P fn tmps R ds .returning w
  | [], _, _, _, _, h => h _ (Turn.refl _ _)
  | _ :: ds, _, w, ⟨D, h1, h2, h3, h4, h5⟩, hm, h => by
    have hn : ¬ O D := fun e => by have := hm.cells D _ h2 e h4; cases this
    have ht : Turn (fun b => ¬ O b) w (w.putObj D (.deferred none)) := Turn.putObj w hn _
    subst h1
    exact ⟨by simp, .inl ⟨D, _, rfl, run_takeDeferred h4, leaves_marks ds D _ (h5.same fun E _ e2 e3 => (World.putObj_heap_other (by omega)).trans e3) (hm.turn ht) fun w' t => h w' (ht.trans t)⟩⟩
end Go.Proofs.Ytdglhppcfdpcaaa
namespace Go.Proofs.Ytdglhppcfdpcaaa
open Go Go.RowKit

theorem setCell_others {W : World} {p : Addr} {v : Value} {b : Nat} {o : Obj} (h : (W.setCell p v).heap[b]? = some o) (hc : o.isCells = false) : W.heap[b]? = some o := by
  by_cases e : b = p.block
  · subst e
    have hlt : p.block < W.heap.size := by
      have := (Array.getElem?_eq_some_iff.1 h).1
      simpa [World.setCell] using this
    have h2 : W.heap[p.block]? = some W.heap[p.block] := Array.getElem?_eq_getElem hlt
    cases hw : W.heap[p.block] with
    | cells c t f =>
      exfalso
      rw [hw] at h2
      simp only [World.setCell, Array.getElem?_modify, h2] at h
      simp at h
      rw [← h] at hc
      cases hc
    | _ =>
      rw [hw] at h2
      simp only [World.setCell, Array.getElem?_modify, h2] at h
      simp at h
      rw [h2, h]
  · exact (Below.heap_setCell W p v b e).symm.trans h
theorem Grow.refl (K : Nat → Prop) {O : Nat → Prop} {W : World} (h : ∀ b, O b → b < W.heap.size) : Grow K O O W W :=
  ⟨Nat.le_refl _, fun _ _ h => h, h, fun _ o _ h hc => ⟨o, h, hc⟩, fun _ _ _ => rfl⟩
theorem Grow.drewN {K O O' : Nat → Prop} {W W' : World} (h : Grow K O O' W W') (n : Nat) : Grow K O O' W (W'.drewN n) := ⟨h.size, h.old, h.new, h.cells, h.keep⟩
theorem Grow.setCell {K O O' : Nat → Prop} {W W' : World} (h : Grow K O O' W W') {p : Addr} (hp : W.heap.size ≤ p.block ∨ (O p.block ∧ ¬ K p.block)) (v : Value) : Grow K O O' W (W'.setCell p v) := by
  have hs : (W'.setCell p v).heap.size = W'.heap.size := by simp [World.setCell]
  refine ⟨by rw [hs]; exact h.size, h.old, fun b hb => by rw [hs]; exact h.new b hb, fun b o ho hh hc => h.cells b o ho (setCell_others hh hc) hc, fun b hb hk => ?_⟩
  refine (Below.heap_setCell W' p v b (fun e => ?_)).trans (h.keep b hb hk)
  subst e
  rcases hp with hp | ⟨h1, h2⟩
  · omega
  · exact hk.elim (fun h => h h1) h2

end Go.Proofs.Ytdglhppcfdpcaaa
namespace Go.Proofs.Ytdglhppcfdpcaaa
open Go

section
variable {F : Fence} {n : Nat} {P : Program} {ops : Array Oper} {md : Region.Mode} {C : World → Prop}

def noDefer (o : Oper) : Bool := match o.op with | .defer _ => false | _ => true
theorem noDefer_spec {o : Oper} (h : noDefer o = true) : ∀ c, o.op ≠ .defer c := by
  intro c hc
  unfold noDefer at h
  rw [hc] at h
  exact Bool.noConfusion (show false = true from h)

theorem wpIn_of_quietR {o : Oper} {a : Act} {K : Act → Prop} {K' : Act → World → Prop} {Q' : Exit → Act → World → Prop} {w : World} (hnd : noDefer o = true) (hw : C w) (h : ∀ a w', C w' → K a → K' a w')
    (ha : o.askedIn F P a C) (hh : o.quietIn F n P a C K) : o.wpIn F n P a w K' Q' := by
  obtain ⟨v, h1, h2⟩ := hh
  have h3 := h1 w hw
  unfold Oper.quietAtIn at h3
  unfold Oper.wpIn
  refine ⟨ha w hw, ?_⟩
  rw [Oper.semAt_plain F a.eval o (noDefer_spec hnd)]
  generalize (execOp a.eval o).run P w = r at *
  cases r with
  | ok x w' =>
    cases x <;> simp only [Oper.quietUponIn] at h3 <;> simp only [Oper.uponIn]
    case value u =>
      obtain ⟨e1, e2⟩ := h3
      rw [e1, e2]
      exact h _ _ hw h2
    case skip =>
      obtain ⟨e1, e2⟩ := h3
      rw [e1, ← e2]
      exact h _ _ hw h2
    case enter f args =>
      obtain ⟨e1, hd, hc⟩ := h3
      rw [e1]
      exact ⟨hd, hc.mono fun e w'' ⟨he, hw''⟩ => by subst he; exact h _ _ hw'' h2⟩
  | halt x w' => simp only [Oper.quietUponIn] at h3

theorem wpOpIn_of_quietR {i : Nat} {a : Act} {K : Act → Prop} {K' : Act → World → Prop} {Q' : Exit → Act → World → Prop} {w : World} (hnd : ∀ o : Oper, ops[i]? = some o → noDefer o = true) (hC : C w) (h : ∀ a w', C w' → K a → K' a w')
    (hh : qOpIn F n P ops C i K a) : wpOpIn F n P ops Q' i K' a w := by
  unfold qOpIn at hh
  unfold wpOpIn
  split
  · rename_i ho; simp only [ho] at hh; exact h _ _ hC hh
  · rename_i o ho
    simp only [ho] at hh
    obtain ⟨ha, hh⟩ := hh
    split
    · rename_i hw; simp only [hw, if_true] at hh; exact wpIn_of_quietR (hnd o ho) hC h ha hh
    · rename_i hw; simp only [hw] at hh; exact ⟨ha w hC, h _ _ hC hh⟩

theorem wpAnyIn_of_quietR {Q : Act → Prop} {Q' : Exit → Act → World → Prop} (hnd : ∀ (i : Nat) (o : Oper), ops[i]? = some o → noDefer o = true) (hQ : ∀ a w, C w → Q a → Q' .normal a w) : ∀ (fuel : Nat) (listed : Array Bool) (a : Act) (w : World), C w →
    wpAnyQIn F n P md ops C Q fuel listed a → wpAnyIn F n P md ops Q' fuel listed a w
  | 0, _, _, _, hw, h => ⟨h.1, hQ _ _ hw h.2⟩
  | fuel + 1, _, _, _, hw, h => ⟨fun h0 => hQ _ _ hw (h.1 h0), fun i hi => wpOpIn_of_quietR (hnd i) hw (fun a' w' hw' => wpAnyIn_of_quietR hnd hQ fuel _ a' w' hw') (h.2 i hi)⟩

theorem wpIn_region_quietR {id : Nat} {Q : Exit → Act → World → Prop} {a : Act} {w : World} {l : List Oper} (hnd : l.all noDefer = true) (hm : P.follows .mixedOrders = true) (hB : Region.lexB .any l.toArray = true)
    (h : wpQuietIn F n P l.toArray (fun w' => ∃ n, w' = w.drewN n) (fun a' => ∀ w', (∃ n, w' = w.drewN n) → Q .normal a' w') l a) : (Code.region id l.toArray true).wpIn F n P Q a w := by
  simp only [Region.lexB, Bool.and_eq_true] at hB
  refine wpIn_region_any hm (wpAnyIn_of_quietR (Q := fun a' => ∀ w', (∃ n, w' = w.drewN n) → Q .normal a' w') (C := fun w' => ∃ n, w' = w.drewN n) ?_ (fun _ w' hw' h => h w' hw') _ _ _ _ ⟨1, rfl⟩ ?_)
  · intro i o ho
    rw [List.getElem?_toArray] at ho
    exact List.all_eq_true.1 hnd o (List.mem_of_getElem? ho)
  · have := wpAnyQIn_lex (F := F) (n := n) (C := fun w' => ∃ n, w' = w.drewN n) (md := .any) hB.1 l.toArray.toList 0 (Array.replicate l.toArray.size false) a (by simp) (by simpa using hB.2) (by simpa using h)
    simpa using this
end
end Go.Proofs.Ytdglhppcfdpcaaa
namespace Go.Proofs.Ytdglhppcfdpcaaa
open Go

section
variable {F : Fence} {n : Nat} {P : Program} {md : Region.Mode} {C : World → Prop}

def guardB (N : Nat) (o : Oper) : Bool := match o.guard with | some (k, _) => decide (k < N) | none => true
def backB (md : Region.Mode) (ops : Array Oper) (N : Nat) : Bool :=
  (List.range ops.size).all fun t => decide (t < N) || ((ops[t]?).map (·.after.all fun e => !Region.binds md e || decide (e.on < t))).getD false

theorem app_get {l ts : List Oper} {i : Nat} (hi : i < l.length) : (l ++ ts).toArray[i]? = l.toArray[i]? := by
  rw [List.getElem?_toArray, List.getElem?_toArray, List.getElem?_append_left hi]
theorem wanted_app {l ts : List Oper} {o : Oper} (h : guardB l.length o = true) (tmps : Array Value) : Region.wanted o (yielded (l ++ ts).toArray tmps) = Region.wanted o (yielded l.toArray tmps) := by
  unfold guardB at h
  unfold Region.wanted
  cases hg : o.guard with
  | none => rfl
  | some g =>
    obtain ⟨k, b⟩ := g
    rw [hg] at h
    have hk : k < l.length := of_decide_eq_true h
    simp only [yielded, app_get hk]

/-- The tail, once all of the head has come up. -/
theorem wpAnyIn_chain {ops : Array Oper} {N : Nat} {Q : Exit → Act → World → Prop} (hc : Region.chainB md ops N = true) (hb : backB md ops N = true) : ∀ (r k fuel : Nat) (listed : Array Bool) (a : Act) (w : World),
    ops.size = k + r → N ≤ k → r ≤ fuel → listed.size = ops.size → (∀ i, i < k → listed.getD i true = true) → (∀ i, i < k → listed.getD i false = true) → (∀ i, k ≤ i → i < ops.size → listed.getD i true = false) →
    wpListIn F n P ops Q (ops.toList.drop k) a w → wpAnyIn F n P md ops Q fuel listed a w
  | 0, k, fuel, listed, a, w, hr, hN, hf, hsz, hl, hl2, hu, h => by
    have hnone : Region.ready md ops listed = [] := by
      apply List.eq_nil_iff_forall_not_mem.2
      intro j hj
      obtain ⟨h1, o, ho, _⟩ := mem_ready.1 hj
      have hjlt : j < ops.size := (Array.getElem?_eq_some_iff.1 ho).1
      rw [hl j (by omega)] at h1; cases h1
    have hd : ops.toList.drop k = [] := List.drop_eq_nil_iff.2 (by rw [Array.length_toList]; omega)
    rw [hd] at h
    cases fuel with
    | zero => exact ⟨hnone, h⟩
    | succ f => exact ⟨fun _ => h, fun i hi => by rw [hnone] at hi; cases hi⟩
  | r + 1, k, fuel, listed, a, w, hr, hN, hf, hsz, hl, hl2, hu, h => by
    obtain ⟨f, rfl⟩ : ∃ f, fuel = f + 1 := ⟨fuel - 1, by omega⟩
    have hk : k < ops.size := by omega
    have hkt : k < ops.toList.length := by rw [Array.length_toList]; exact hk
    rw [List.drop_eq_getElem_cons hkt] at h
    have hok : ops[k]? = some ops.toList[k] := by rw [Array.getElem?_eq_getElem hk, Array.getElem_toList]
    have hB := List.all_eq_true.1 hb k (List.mem_range.2 hk)
    rw [hok] at hB
    simp only [Bool.or_eq_true, decide_eq_true_eq, Option.map_some, Option.getD_some] at hB
    have hback : ∀ e ∈ ops.toList[k].after, Region.binds md e = true → e.on < k := by
      intro e he hbd
      rcases hB with h1 | h1
      · omega
      · have h2 := Array.all_eq_true'.1 h1 e he
        rw [hbd] at h2
        simpa using h2
    have hin : k ∈ Region.ready md ops listed := mem_ready.2 ⟨hu k (Nat.le_refl _) hk, _, hok, fun e he hbd => hl2 _ (hback e he hbd)⟩
    refine ⟨fun h0 => (by rw [h0] at hin; cases hin), fun j hj => ?_⟩
    obtain ⟨h1, o, ho, hall⟩ := mem_ready.1 hj
    have hjlt : j < ops.size := (Array.getElem?_eq_some_iff.1 ho).1
    have hjk : j = k := by
      rcases Nat.lt_trichotomy j k with h2 | h2 | h2
      · rw [hl j h2] at h1; cases h1
      · exact h2
      · exfalso
        have h3 := List.all_eq_true.1 hc j (List.mem_range.2 hjlt)
        simp only [Bool.or_eq_true, decide_eq_true_eq] at h3
        rcases h3 with h3 | h3
        · omega
        · obtain ⟨o', ho', e, he, hbd, hon⟩ := Region.waitsFor_spec h3
          have : o' = o := Option.some.inj (ho'.symm.trans ho)
          subst this
          have h4 := hall e he hbd
          rw [hon, getD_both (hu (j - 1) (by omega) (by omega))] at h4
          cases h4
    subst hjk
    unfold wpOpIn
    simp only [hok]
    have next : ∀ a' w', wpListIn F n P ops Q (ops.toList.drop (j + 1)) a' w' → wpAnyIn F n P md ops Q f (listed.setIfInBounds j true) a' w' := fun a' w' h' => by
      refine wpAnyIn_chain hc hb r (j + 1) f _ a' w' (by omega) (by omega) (by omega) (by simp [hsz]) ?_ ?_ ?_ h'
      · intro i hi
        by_cases hij : i = j
        · subst hij; simp [hsz, hk]
        · rw [getD_set_ne true (by omega)]; exact hl i (by omega)
      · intro i hi
        by_cases hij : i = j
        · subst hij; simp [hsz, hk]
        · rw [getD_set_ne false (by omega)]; exact hl2 i (by omega)
      · intro i hi hi2
        rw [getD_set_ne true (by omega)]; exact hu i (by omega) hi2
    simp only [wpListIn] at h
    split
    · rename_i hw; simp only [hw, if_true] at h; exact Oper.wpIn_mono next h
    · rename_i hw; simp only [hw] at h; exact ⟨h.1, next _ _ h.2⟩

theorem wpAnyIn_head {l ts : List Oper} {Q : Act → Prop} {Q' : Exit → Act → World → Prop} (hnd : l.all noDefer = true) (hgd : l.all (guardB l.length) = true) (hs : Region.sinkB md (l ++ ts).toArray l.length = true)
    (hc : Region.chainB md (l ++ ts).toArray l.length = true) (hb : backB md (l ++ ts).toArray l.length = true) (hb0 : backB md (l ++ ts).toArray 0 = true) (ht : 0 < ts.length)
    (hQ : ∀ a w, C w → Q a → wpListIn F n P (l ++ ts).toArray Q' ts a w) : ∀ (fuel : Nat) (listed : Array Bool) (a : Act) (w : World), C w →
    HeadInv md (l ++ ts).toArray l.length listed → wpAnyQIn F n P md l.toArray C Q fuel (listed.extract 0 l.length) a → wpAnyIn F n P md (l ++ ts).toArray Q' (fuel + ts.length) listed a w
  | fuel, listed, a, w, hw, inv, h => by
    have hN : l.length < (l ++ ts).toArray.size := by rw [List.size_toArray, List.length_append]; omega
    have hxs : (listed.extract 0 l.length).size = l.length := by rw [Array.size_extract, inv.size]; omega
    have hx : ∀ (i : Nat) (b : Bool), i < l.length → (listed.extract 0 l.length).getD i b = listed.getD i b := by
      intro i b hi
      have h2 : i < listed.size := by rw [inv.size]; omega
      rw [Array.getD_eq_getD_getElem?, Array.getD_eq_getD_getElem?, Array.getElem?_extract, if_pos (by omega), Nat.zero_add]
    have hxo : ∀ (i : Nat), l.length ≤ i → (listed.extract 0 l.length).getD i false = false := by
      intro i hi
      rw [Array.getD_eq_getD_getElem?, Array.getElem?_extract, if_neg (by omega)]; rfl
    have hlo : ∀ (i : Nat), l.length ≤ i → listed.getD i false = false := by
      intro i hi
      rcases Nat.lt_or_ge i (l ++ ts).toArray.size with h1 | h1
      · exact getD_both (inv.tail i hi h1)
      · have h2 : ¬ i < listed.size := by rw [inv.size]; omega
        simp [h2]
    have hre : ∀ i, i < l.length → (i ∈ Region.ready md (l ++ ts).toArray listed ↔ i ∈ Region.ready md l.toArray (listed.extract 0 l.length)) := by
      intro i hi
      rw [mem_ready, mem_ready, hx i true hi, app_get hi]
      have he : ∀ k, (listed.extract 0 l.length).getD k false = listed.getD k false := by
        intro k
        rcases Nat.lt_or_ge k l.length with h1 | h1
        · exact hx k false h1
        · rw [hxo k h1, hlo k h1]
      simp only [he]
    -- the tail comes up: all is listed
    have whole : ∀ t, l.length ≤ t → t ∈ Region.ready md (l ++ ts).toArray listed → ∀ i, i < l.length → listed.getD i true = true := by
      intro t htl hr i hi
      cases hl : listed.getD i true with
      | true => rfl
      | false => exact absurd hr (tail_waits hs hc hN inv _ i rfl hi hl t htl)
    have closing : (∀ i, i < l.length → listed.getD i true = true) → ∀ f, ts.length ≤ f → Q a → wpAnyIn F n P md (l ++ ts).toArray Q' f listed a w := by
      intro hall f hf hq
      refine wpAnyIn_chain hc hb ts.length l.length f listed a w (by simp) (Nat.le_refl _) hf inv.size hall ?_ (fun i hi hi2 => inv.tail i hi hi2) ?_
      · intro i hi
        have h2 : i < listed.size := by rw [inv.size]; omega
        have := hall i hi
        simp [h2] at this ⊢
        exact this
      · have := hQ a w hw hq
        simpa using this
    have done : (∀ i, i < l.length → listed.getD i true = true) → Region.ready md l.toArray (listed.extract 0 l.length) = [] := by
      intro hall
      apply List.eq_nil_iff_forall_not_mem.2
      intro j hj
      obtain ⟨h1, o, ho, _⟩ := mem_ready.1 hj
      have hjlt : j < l.length := by have := (Array.getElem?_eq_some_iff.1 ho).1; simpa using this
      rw [hx j true hjlt, hall j hjlt] at h1; cases h1
    have some : Region.ready md (l ++ ts).toArray listed = [] → ∀ d i, i = d → i < l.length → listed.getD i true = true := by
      intro hnil d
      induction d using Nat.strongRecOn with
      | _ d ih =>
        rintro i rfl hi
        cases hl : listed.getD i true with
        | true => rfl
        | false =>
          exfalso
          have hilt : i < (l ++ ts).toArray.size := by omega
          have hok : (l ++ ts).toArray[i]? = some (l ++ ts).toArray[i] := Array.getElem?_eq_getElem hilt
          have hB := List.all_eq_true.1 hb0 i (List.mem_range.2 hilt)
          rw [hok] at hB
          simp only [Bool.or_eq_true, decide_eq_true_eq, Option.map_some, Option.getD_some, Nat.not_lt_zero, false_or] at hB
          have : i ∈ Region.ready md (l ++ ts).toArray listed := mem_ready.2 ⟨hl, _, hok, fun e he hbd => by
            have h2 := Array.all_eq_true'.1 hB e he
            rw [hbd] at h2
            have h3 : e.on < i := by simpa using h2
            have h4 := ih e.on h3 e.on rfl (by omega)
            have h5 : e.on < listed.size := by rw [inv.size]; omega
            rw [Array.getD_eq_getD_getElem?, Array.getElem?_eq_getElem h5] at h4 ⊢
            exact h4⟩
          rw [hnil] at this; cases this
    cases fuel with
    | zero =>
      obtain ⟨h0, hq⟩ := h
      rw [Nat.zero_add]
      obtain ⟨t, ht2⟩ : ∃ t, ts.length = t + 1 := ⟨ts.length - 1, by omega⟩
      by_cases hall : ∀ i, i < l.length → listed.getD i true = true
      · exact closing hall _ (Nat.le_refl _) hq
      · -- nothing is ready though something waits: then the whole has nothing ready, which the lexical order bars
        rw [ht2]
        refine ⟨fun hnil => ?_, fun i hi => ?_⟩
        · exact (hall (fun i hi => some hnil i i rfl hi)).elim
        · rcases Nat.lt_or_ge i l.length with h1 | h1
          · have := (hre i h1).1 hi; rw [h0] at this; cases this
          · exact (hall (whole i h1 hi)).elim
    | succ f =>
      obtain ⟨h0, hstep⟩ := h
      by_cases hall : ∀ i, i < l.length → listed.getD i true = true
      · exact closing hall _ (by omega) (h0 (done hall))
      · rw [show f + 1 + ts.length = (f + ts.length) + 1 by omega]
        refine ⟨fun hnil => (hall (fun i hi => some hnil i i rfl hi)).elim, fun i hi => ?_⟩
        · have h1 : i < l.length := by
            rcases Nat.lt_or_ge i l.length with h1 | h1
            · exact h1
            · exact (hall (whole i h1 hi)).elim
          have hil : i < listed.size := by rw [inv.size]; omega
          have hq := hstep i ((hre i h1).1 hi)
          have hset : (listed.extract 0 l.length).setIfInBounds i true = (listed.setIfInBounds i true).extract 0 l.length := by
            apply Array.ext_getElem?
            intro k
            rw [Array.getElem?_setIfInBounds, Array.getElem?_extract, Array.getElem?_extract, Array.getElem?_setIfInBounds, hxs, Nat.zero_add, Nat.sub_zero, Array.size_setIfInBounds]
            have hls : l.length ≤ listed.size := by rw [inv.size]; omega
            by_cases hik : i = k
            · subst hik
              simp [h1, hil, show i < min l.length listed.size by omega]
            · simp [hik]
          rw [hset] at hq
          unfold qOpIn at hq
          unfold wpOpIn
          rw [app_get h1]
          cases ho : l.toArray[i]? with
          | none =>
            rw [List.getElem?_toArray, List.getElem?_eq_none_iff] at ho
            omega
          | some o =>
            simp only [ho] at hq ⊢
            obtain ⟨ha, hq⟩ := hq
            have hmem : o ∈ l := by rw [List.getElem?_toArray] at ho; exact List.mem_of_getElem? ho
            rw [wanted_app (List.all_eq_true.1 hgd o hmem)]
            have nx : ∀ a' w', C w' → wpAnyQIn F n P md l.toArray C Q f ((listed.setIfInBounds i true).extract 0 l.length) a' → wpAnyIn F n P md (l ++ ts).toArray Q' (f + ts.length) (listed.setIfInBounds i true) a' w' := fun a' w' hw' h' =>
              wpAnyIn_head hnd hgd hs hc hb hb0 ht hQ f _ a' w' hw' (inv.set hi h1) h'
            split
            · rename_i hwt; simp only [hwt, if_true] at hq; exact wpIn_of_quietR (List.all_eq_true.1 hnd o hmem) hw nx ha hq
            · rename_i hwt; simp only [hwt] at hq; exact ⟨ha w hw, nx _ _ hw hq⟩
/-- What a region must be: N quiet operations, then a tail. -/
def tailOK (N : Nat) (L : List Oper) : Bool :=
  (L.take N).all noDefer && (L.take N).all (guardB N) && Region.sinkB .any L.toArray N && Region.chainB .any L.toArray N && backB .any L.toArray N && backB .any L.toArray 0 && decide (N < L.length) && Region.lexB .any (L.take N).toArray
theorem wpIn_region_tail (N : Nat) {id : Nat} {Q : Exit → Act → World → Prop} {a : Act} {w : World} {L : List Oper} (hm : P.follows .mixedOrders = true) (hok : tailOK N L = true)
    (h : wpQuietIn F n P (L.take N).toArray (fun w' => ∃ n, w' = w.drewN n) (fun a' => ∀ w', (∃ n, w' = w.drewN n) → wpListIn F n P L.toArray Q (L.drop N) a' w') (L.take N) a) : (Code.region id L.toArray true).wpIn F n P Q a w := by
  simp only [tailOK, Bool.and_eq_true, decide_eq_true_eq] at hok
  obtain ⟨⟨⟨⟨⟨⟨⟨hnd, hgd⟩, hs⟩, hc⟩, hb⟩, hb0⟩, hlt⟩, hB⟩ := hok
  have hlen : (L.take N).length = N := by rw [List.length_take]; omega
  have htl : 0 < (L.drop N).length := by rw [List.length_drop]; omega
  have hap : L.take N ++ L.drop N = L := List.take_append_drop N L
  refine wpIn_region_any hm ?_
  simp only [Region.lexB, Bool.and_eq_true] at hB
  have hq := wpAnyQIn_lex (F := F) (n := n) (P := P) (C := fun w' => ∃ n, w' = w.drewN n) (Q := fun a' => ∀ w', (∃ n, w' = w.drewN n) → wpListIn F n P L.toArray Q (L.drop N) a' w') (md := .any) hB.1 (L.take N) 0 (Array.replicate (L.take N).length false) a (by simp) (by simpa using hB.2) h
  have hfin := wpAnyIn_head (F := F) (n := n) (P := P) (md := .any) (C := fun w' => ∃ n, w' = w.drewN n) (Q := fun a' => ∀ w', (∃ n, w' = w.drewN n) → wpListIn F n P L.toArray Q (L.drop N) a' w') (l := L.take N) (ts := L.drop N) (Q' := Q) hnd (by rw [hlen]; exact hgd) (by rw [hap, hlen]; exact hs) (by rw [hap, hlen]; exact hc) (by rw [hap, hlen]; exact hb) (by rw [hap]; exact hb0) htl
    (fun a' w' hw' hh => by rw [hap]; exact hh w' hw') (L.take N).length (Array.replicate L.length false) a { w with drawn := w.drawn + 1 } ⟨1, rfl⟩ ?_ ?_
  · rw [hap] at hfin
    have : (L.take N).length + (L.drop N).length = L.toArray.size := by rw [← List.length_append, hap, List.size_toArray]
    rw [this] at hfin
    simpa using hfin
  · rw [hap]
    exact ⟨by simp, fun j oj _ hl e _ _ => (by rw [getD_replicate_false] at hl; exact Bool.noConfusion hl), fun t _ htt => (by rw [List.size_toArray] at htt; simp [htt])⟩
  · have : (Array.replicate L.length false).extract 0 (L.take N).length = Array.replicate (L.take N).length false := by
      rw [hlen]
      apply Array.ext_getElem?
      intro k
      rw [Array.getElem?_extract, Array.getElem?_replicate, Array.getElem?_replicate]
      simp only [Array.size_replicate, Nat.zero_add]
      by_cases hk : k < N
      · rw [if_pos (by omega), if_pos (by omega), if_pos hk]
      · rw [if_neg (by omega), if_neg hk]
    rw [this]
    exact hq
end
end Go.Proofs.Ytdglhppcfdpcaaa
