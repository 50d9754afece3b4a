/- Several texts in one: Rf Rf3 Mk Grw QRound QTail. -/
import Derived.RangeFuncNested
import Derived.RangeFuncBound
import Derived.RangeFuncCalls
import Derived.RangeFuncLeaves
import Derived.RangeFuncBox
import Derived.WalkKit
import Derived.Deep.Draws
import Derived.Shelf.Abstract
import Derived.Sort.QuietIn
import Derived.OwnWalkIn
import Derived.StillTail
namespace Go.Proofs.Ytckhkagkpldoiaa
open Go Go.RowKit

/-- The world has moved on; of what was there only blocks of S may have turned. -/
structure Turn (S : Nat → Prop) (W W' : World) : Prop where
  os : W'.os = W.os
  tape : W'.tape = W.tape
  output : W'.output = W.output
  size : W.heap.size ≤ W'.heap.size
  same : ∀ b, b < W.heap.size → ¬ S b → W'.heap[b]? = W.heap[b]?
/-- The blocks of K are as they were. -/
structure Keep (K : Nat → Prop) (W W' : World) : Prop where
  size : W.heap.size ≤ W'.heap.size
  same : ∀ b, K b → W'.heap[b]? = W.heap[b]?
theorem Turn.refl (S : Nat → Prop) (W : World) : Turn S W W := ⟨rfl, rfl, rfl, Nat.le_refl _, fun _ _ _ => rfl⟩
theorem Turn.mono {S S' : Nat → Prop} {W W' : World} (h : Turn S W W') (hs : ∀ b, S b → S' b) : Turn S' W W' := ⟨h.os, h.tape, h.output, h.size, fun b hb hn => h.same b hb (fun e => hn (hs b e))⟩
theorem Turn.trans {S : Nat → Prop} {A B C : World} (h : Turn S A B) (k : Turn S B C) : Turn S A C :=
  ⟨k.os.trans h.os, k.tape.trans h.tape, k.output.trans h.output, Nat.le_trans h.size k.size, fun b hb hn => (k.same b (Nat.lt_of_lt_of_le hb h.size) hn).trans (h.same b hb hn)⟩
theorem Turn.drewN (S : Nat → Prop) (W : World) (n : Nat) : Turn S W (W.drewN n) := ⟨rfl, rfl, rfl, Nat.le_refl _, fun _ _ _ => rfl⟩
theorem Turn.alloc (S : Nat → Prop) (W : World) (o : Obj) : Turn S W (W.alloc o) :=
  ⟨rfl, rfl, rfl, by simp, fun b hb _ => Below.heap_alloc W o b hb⟩
theorem Turn.setCell {S : Nat → Prop} (W : World) {p : Addr} (hp : S p.block) (v : Value) : Turn S W (W.setCell p v) :=
  ⟨rfl, rfl, rfl, by show W.heap.size ≤ (W.heap.modify _ _).size; rw [Array.size_modify]; exact Nat.le_refl _, fun b _ hn => Below.heap_setCell W p v b (fun e => hn (e ▸ hp))⟩
theorem Turn.putObj {S : Nat → Prop} (W : World) {l : Nat} (hl : S l) (o : Obj) : Turn S W (W.putObj l o) :=
  ⟨(grownBy_putObj' W l o).os, (grownBy_putObj' W l o).tape, (grownBy_putObj' W l o).output, (grownBy_putObj' W l o).size, fun b hb hn => (grownBy_putObj' W l o).block b hb (fun e => by cases e; exact hn hl)⟩
theorem Turn.below {S : Nat → Prop} {W W' : World} {B : Nat} (h : Turn S W W') (hB : B ≤ W.heap.size) (hs : ∀ b, S b → B ≤ b) : Below B W W' :=
  ⟨h.os, h.tape, h.output, h.size, fun b hb => h.same b (by omega) (fun e => by have := hs b e; omega)⟩
theorem Turn.cell {S : Nat → Prop} {W W' : World} (h : Turn S W W') {p : Addr} (hp : ¬ S p.block) {v : Value} (hc : W.cell? p = some v) : W'.cell? p = some v := by
  obtain ⟨o, ho, _⟩ := cells_of_cell hc
  have hlt : p.block < W.heap.size := (Array.getElem?_eq_some_iff.1 ho).1
  rw [World.cell?_of_block (h.same _ hlt hp)]; exact hc
theorem Turn.heap {S : Nat → Prop} {W W' : World} (h : Turn S W W') {b : Nat} (hp : ¬ S b) {o : Obj} (hc : W.heap[b]? = some o) : W'.heap[b]? = some o := by
  have hlt : b < W.heap.size := (Array.getElem?_eq_some_iff.1 hc).1
  exact (h.same _ hlt hp).trans hc
theorem Keep.refl (K : Nat → Prop) (W : World) : Keep K W W := ⟨Nat.le_refl _, fun _ _ => rfl⟩
theorem Keep.trans {K : Nat → Prop} {A B C : World} (h : Keep K A B) (k : Keep K B C) : Keep K A C := ⟨Nat.le_trans h.size k.size, fun b hb => (k.same b hb).trans (h.same b hb)⟩
theorem Keep.mono {K K' : Nat → Prop} {W W' : World} (h : Keep K W W') (hk : ∀ b, K' b → K b) : Keep K' W W' := ⟨h.size, fun b hb => h.same b (hk b hb)⟩

end Go.Proofs.Ytckhkagkpldoiaa
namespace Go.Proofs.Ytckhkagkpldoiaa
open Go Go.RowKit

/-- From O, the caller's blocks, to O' over a round: it takes up new blocks of cells alone; what is not its own, and what is in K, is kept. -/
structure Grow (K O O' : Nat → Prop) (W W' : World) : Prop where
  size : W.heap.size ≤ W'.heap.size
  old : ∀ b, b < W.heap.size → O' b → O b
  new : ∀ b, O' b → b < W'.heap.size
  cells : ∀ b o, O' b → W'.heap[b]? = some o → o.isCells = false → ∃ o' : Obj, W.heap[b]? = some o' ∧ o'.isCells = false
  keep : ∀ b, b < W.heap.size → (¬ O b ∨ K b) → W'.heap[b]? = W.heap[b]?
def StayO (J : Nat → (Nat → Prop) → World → Prop) : Prop := ∀ i O W W', J i O W → Turn (fun b => ¬ O b) W W' → J i O W'

/-- The contract of an iterator: S are its own cells that it writes, K the blocks that a round must keep. -/
def Iter3 {α : Type} (F : Fence) (n : Nat) (P : Program) (g : Nat) (lb : Array Value) (encs : α → Array Value) (xs : List α) (S K : Nat → Prop) (St : World → Prop) : Prop :=
  ∀ (l : Nat) (J Jx : Nat → (Nat → Prop) → World → Prop) (W : World) (O : Nat → Prop), St W → StayO J → StayO Jx → (∀ b, S b → ¬ O b) → (∀ b, O b → b < W.heap.size) →
    (∀ i x O1 W1, xs[i]? = some x → J i O1 W1 → W.heap.size ≤ W1.heap.size → YieldAt F (n - 1) P l (encs x) W1 fun e W' => ∃ O', Grow K O1 O' W1 W' ∧
      ((e = .returned (.bool true) ∧ J (i + 1) O' W') ∨ (e = .returned (.bool false) ∧ Jx (i + 1) O' W'))) →
    J 0 O W →
    CallsIn F n P g (#[.func (.yield l) #[] #[]] ++ lb) W fun e W' => (∃ v, e = .returned v) ∧ ((∃ O', J xs.length O' W') ∨ ∃ i, i < xs.length ∧ ∃ O', Jx (i + 1) O' W')

/-- How a round's body may be left. -/
def roundEnd3 (K : Nat → Prop) (I : Nat → (Nat → Prop) → World → Prop) (Ix : Code → Nat → (Nat → Prop) → World → Prop) (i : Nat) (O : Nat → Prop) (W : World) : Exit → Act → World → Prop
  | .normal, _, W' => ∃ O', Grow K O O' W W' ∧ I i O' W'
  | .ret, _, W' => ∃ O', Grow K O O' W W' ∧ Ix .ret i O' W'
  | .exit id, _, W' => ∃ O', Grow K O O' W W' ∧ Ix (.exit id) i O' W'
  | .goto t, _, W' => ∃ O', Grow K O O' W W' ∧ Ix (.goto t) i O' W'
  | .panic _, _, _ => False
  | .outgrown, _, _ => False

theorem iter_law3 {α : Type} {F : Fence} {n : Nat} {P : Program} {g : Operand} {ps : Array Tmp} {assign body : Code} {Q : Exit → Act → World → Prop} {a : Act} {w : World}
    (hro : F.round = none) (h1 : 1 ≤ n) {gf : Nat} {lb : Array Value} (hg : a.eval g = .func (.func gf) #[] lb) (hFg : F.fn gf) (eg : ∀ args w, (callFunc gf args).run P w = .ok (.enter gf args) w)
    {encs : α → Array Value} {xs : List α} {S K : Nat → Prop} {St : World → Prop} (hit : Iter3 F (n - 1) P gf lb encs xs S K St) (O : Nat → Prop)
    (hSt : ∀ W, (∀ b, b < w.heap.size → W.heap[b]? = w.heap[b]?) → St W) (hO : ∀ b, O b → b < w.heap.size) (hSl : ∀ b, S b → b < w.heap.size ∧ ¬ O b) (hKl : ∀ b, K b → b < w.heap.size) (hps : ∀ x, (encs x).size = ps.size)
    (I : Nat → (Nat → Prop) → World → Prop) (Ix : Code → Nat → (Nat → Prop) → World → Prop) (hI : StayO I) (hIx : ∀ c, StayO (Ix c)) (h0 : I 0 O w) (a₁ : α → Act)
    (hassign : ∀ (l : Nat) (x : α) (W : World) (Kt : Act → World → Prop), Kt (a₁ x) W →
      assign.wpIn (F.inRound l) (n - 1 - 1) P (Exit.then Kt (fun _ _ _ => False)) { tmps := (ps.zip (encs x)).foldl (fun t (p, v) => t.setIfInBounds p v) a.tmps, defers := [] } W)
    (hbody : ∀ (l i : Nat) (x : α) (O1 : Nat → Prop) (W : World), xs[i]? = some x → w.heap.size + 2 ≤ W.heap.size → I i O1 W → body.wpIn (F.inRound l) (n - 1 - 1) P (roundEnd3 K I Ix (i + 1) O1 W) (a₁ x) W)
    (hdone : ∀ (D : Nat) (O1 : Nat → Prop) (W : World), w.heap.size ≤ D → ¬ O1 D → I xs.length O1 W → W.heap[D]? = some (.deferred (some [])) → Q .normal { a with defers := { target := .collected D, args := #[] } :: a.defers } W)
    (hstop : ∀ (D : Nat) (c : Code) (i : Nat) (O1 : Nat → Prop) (W : World), w.heap.size ≤ D → ¬ O1 D → i < xs.length → Ix c (i + 1) O1 W → W.heap[D]? = some (.deferred (some [])) → c.wpIn F n P Q { a with defers := { target := .collected D, args := #[] } :: a.defers } W) :
    (Code.rangeFunc g ps assign body).wpIn F n P Q a w := by
  refine wpIn_rangeFunc ?_
  intro fn hfn
  rw [hro]
  obtain ⟨B, hB⟩ : ∃ B, w.heap.size = B := ⟨_, rfl⟩
  obtain ⟨rec, hrec⟩ : ∃ rec : LoopState → Option Code → Loop, rec = fun st pe => { state := st, pending := pe, fn, tmps := a.tmps, params := ps, assign, body, defers := B } := ⟨_, rfl⟩
  obtain ⟨V, hV⟩ : ∃ V, (w.alloc (.deferred (some []))).alloc (.loop (rec .ready none)) = V := ⟨_, rfl⟩
  have vl : V.heap[B + 1]? = some (.loop (rec .ready none)) := by
    rw [← hV, ← hB]; have := World.alloc_heap_new (w.alloc (.deferred (some []))) (.loop (rec .ready none)); rwa [World.size_alloc] at this
  have vd : V.heap[B]? = some (.deferred (some [])) := by
    rw [← hV, ← hB]; exact (Below.heap_alloc _ _ _ (by simp)).trans (World.alloc_heap_new w _)
  have vo : ∀ b, b < B → V.heap[b]? = w.heap[b]? := by
    intro b hb
    rw [← hV]; exact (Below.heap_alloc _ _ _ (by simp; omega)).trans (Below.heap_alloc _ _ _ (by omega))
  have vI : I 0 O V := by
    rw [← hV]; exact hI 0 _ _ _ (hI 0 _ _ _ h0 (Turn.alloc _ _ _)) (Turn.alloc _ _ _)
  have vs : V.heap.size = B + 2 := by rw [← hV, ← hB]; simp
  refine ⟨B + 1, [{ target := .collected B, args := #[] }], V, { target := .fn (.func gf) lb, args := #[.func (.yield (B + 1)) #[] #[]] }, V, gf,
    #[.func (.yield (B + 1)) #[] #[]] ++ lb, V, ?_, ?_, ?_, ?_, fun _ => h1, ?_⟩
  · rw [← hV, hrec, ← hB]; exact run_enterLoop_outer _ _ _ _ _
  · simp only [resolve, hg]
    simp [go_sem]
  · intro f' hf'; simp [Target.leads] at hf'; subst hf'; exact hFg
  · simp [invoke, go_sem, eg]
  · obtain ⟨up, hup⟩ : ∃ up : (Nat → Prop) → Nat → Prop, up = fun Oc b => Oc b ∨ b = B ∨ b = B + 1 := ⟨_, rfl⟩
    have kept : ∀ {Oc : Nat → Prop} {A C : World} {b : Nat} {o : Obj}, Turn (fun b => ¬ up Oc b) A C → (b = B ∨ b = B + 1) → A.heap[b]? = some o → C.heap[b]? = some o := fun {Oc A C b o} t hb ho =>
      t.heap (fun e => e (by rw [hup]; exact .inr hb)) ho
    have upT : ∀ {Oc : Nat → Prop} {A C : World}, Turn (fun b => ¬ up Oc b) A C → Turn (fun b => ¬ Oc b) A C := fun {Oc A C} t => t.mono fun b hb h => hb (by rw [hup]; exact .inl h)
    refine (hit (B + 1)
      (fun i O1 W => ∃ Oc, O1 = up Oc ∧ (¬ Oc B ∧ ¬ Oc (B + 1)) ∧ I i Oc W ∧ W.heap[B + 1]? = some (.loop (rec .ready none)) ∧ W.heap[B]? = some (.deferred (some [])))
      (fun i O1 W => ∃ Oc, O1 = up Oc ∧ (¬ Oc B ∧ ¬ Oc (B + 1)) ∧ ∃ c, Ix c i Oc W ∧ W.heap[B + 1]? = some (.loop (rec .done (some c))) ∧ W.heap[B]? = some (.deferred (some [])))
      V (up O) (hSt V (by rw [hB]; exact vo))
      (fun i O1 A C hs t => by
        obtain ⟨Oc, rfl, hn, h1, h2, h3⟩ := hs
        exact ⟨Oc, rfl, hn, hI i _ A C h1 (upT t), kept t (.inr rfl) h2, kept t (.inl rfl) h3⟩)
      (fun i O1 A C hs t => by
        obtain ⟨Oc, rfl, hn, c, h1, h2, h3⟩ := hs
        exact ⟨Oc, rfl, hn, c, hIx c i _ A C h1 (upT t), kept t (.inr rfl) h2, kept t (.inl rfl) h3⟩)
      (fun b hb h => by
        have h9 := hSl b hb
        rw [hup] at h
        rcases h with h | h | h
        · exact h9.2 h
        · omega
        · omega)
      (fun b hb => by
        rw [hup] at hb
        rcases hb with h | h | h
        · have := hO b h; omega
        · omega
        · omega)
      ?_ ⟨O, rfl, ⟨fun h => by have := hO _ h; omega, fun h => by have := hO _ h; omega⟩, vI, vl, vd⟩).mono ?_
    · rintro i x O1 W hx ⟨Oc, rfl, hn, hi, hl, hd⟩ hVW
      have hlt : B + 1 < W.heap.size := (Array.getElem?_eq_some_iff.1 hl).1
      have hy := run_yield (P := P) (args := encs x) hl (by rw [hrec]; exact hps x)
      rw [hrec] at hy
      refine ⟨fn, _, assign, body, hy, roundIn_of_wpIn hfn (hassign _ x W _ ⟨_, run_beginRound hl (by rw [hrec]), ?_⟩)⟩
      obtain ⟨U, hU⟩ : ∃ U, W.putObj (B + 1) (.loop { rec .ready none with state := .busy }) = U := ⟨_, rfl⟩
      have ul : U.heap[B + 1]? = some (.loop { rec .ready none with state := .busy }) := by rw [← hU]; exact World.putObj_heap_same hlt
      have ud : U.heap[B]? = some (.deferred (some [])) := by rw [← hU]; exact (World.putObj_heap_other (by omega)).trans hd
      have uI : I i Oc U := by rw [← hU]; exact hI i _ _ _ hi (Turn.putObj W hn.2 _)
      have us : U.heap.size = W.heap.size := by rw [← hU]; simp [World.putObj]
      have uo : ∀ b, b ≠ B + 1 → U.heap[b]? = W.heap[b]? := fun b hb => by rw [← hU]; exact World.putObj_heap_other hb
      rw [hU]
      refine wpIn_mono (hbody _ i x Oc U hx (by omega) uI) ?_
      have fin : ∀ (jump : Option Code) (O2 : Nat → Prop) (W3 : World), Grow K Oc O2 U W3 →
          (Instr.endRound (B + 1) jump).run P W3 = .ok (.bool jump.isNone) (W3.putObj (B + 1) (.loop (rec (if jump.isNone then .ready else .done) jump))) ∧
          (W3.putObj (B + 1) (.loop (rec (if jump.isNone then .ready else .done) jump))).heap[B + 1]? = some (.loop (rec (if jump.isNone then .ready else .done) jump)) ∧
          (W3.putObj (B + 1) (.loop (rec (if jump.isNone then .ready else .done) jump))).heap[B]? = some (.deferred (some [])) ∧
          (¬ O2 B ∧ ¬ O2 (B + 1)) ∧ Grow K (up Oc) (up O2) W (W3.putObj (B + 1) (.loop (rec (if jump.isNone then .ready else .done) jump))) := fun jump O2 W3 hk => by
        have l3 : W3.heap[B + 1]? = some (.loop { rec .ready none with state := .busy }) := (hk.keep (B + 1) (by omega) (.inl hn.2)).trans ul
        have d3 : W3.heap[B]? = some (.deferred (some [])) := (hk.keep B (by omega) (.inl hn.1)).trans ud
        have n3 : ¬ O2 B ∧ ¬ O2 (B + 1) := ⟨fun h => hn.1 (hk.old _ (by omega) h), fun h => hn.2 (hk.old _ (by omega) h)⟩
        have hr := run_endRound (P := P) jump l3
        rw [hrec] at hr ⊢
        rw [hrec] at l3
        have hsz : ∀ o, (W3.putObj (B + 1) o).heap.size = W3.heap.size := fun o => by simp [World.putObj]
        have hks := hk.size
        refine ⟨hr, World.putObj_heap_same (Array.getElem?_eq_some_iff.1 l3).1, (World.putObj_heap_other (by omega)).trans d3, n3, ⟨by rw [hsz]; omega, ?_, ?_, ?_, ?_⟩⟩
        · intro b hb h
          rw [hup] at h ⊢
          exact h.elim (fun h => .inl (hk.old b (by omega) h)) .inr
        · intro b h
          rw [hup] at h
          rw [hsz]
          rcases h with h | h | h
          · exact hk.new b h
          · omega
          · omega
        · intro b o h ho hc
          rw [hup] at h
          rcases Nat.decEq b (B + 1) with hne | rfl
          · rcases h with h | rfl | h
            · obtain ⟨o', h1, h2⟩ := hk.cells b o h ((World.putObj_heap_other hne).symm.trans ho) hc
              exact ⟨o', (uo b hne).symm.trans h1, h2⟩
            · exact ⟨_, hd, rfl⟩
            · exact absurd h hne
          · exact ⟨_, hl, rfl⟩
        · intro b hb h
          have hne : b ≠ B + 1 := by
            rintro rfl
            rcases h with h | h
            · exact h (by rw [hup]; exact .inr (.inr rfl))
            · have := hKl _ h; omega
          refine (World.putObj_heap_other hne).trans ((hk.keep b (by omega) ?_).trans (uo b hne))
          rcases h with h | h
          · exact .inl fun e => h (by rw [hup]; exact .inl e)
          · exact .inr h
      have jumps : ∀ (c : Code) (O2 : Nat → Prop) (W3 : World), Grow K Oc O2 U W3 → Ix c (i + 1) O2 W3 → ∃ v w', (Instr.endRound (B + 1) (some c)).run P W3 = .ok v w' ∧ ∃ O', Grow K (up Oc) O' W w' ∧
          ((Ending.returned v = .returned (.bool true) ∧ ∃ Oc', O' = up Oc' ∧ (¬ Oc' B ∧ ¬ Oc' (B + 1)) ∧ I (i + 1) Oc' w' ∧ w'.heap[B + 1]? = some (.loop (rec .ready none)) ∧ w'.heap[B]? = some (.deferred (some []))) ∨
           (Ending.returned v = .returned (.bool false) ∧ ∃ Oc', O' = up Oc' ∧ (¬ Oc' B ∧ ¬ Oc' (B + 1)) ∧ ∃ c, Ix c (i + 1) Oc' w' ∧ w'.heap[B + 1]? = some (.loop (rec .done (some c))) ∧ w'.heap[B]? = some (.deferred (some [])))) := fun c O2 W3 hk hc => by
        obtain ⟨hr, l4, d4, n3, hg⟩ := fin (some c) O2 W3 hk
        exact ⟨_, _, hr, up O2, hg, .inr ⟨rfl, O2, rfl, n3, c, hIx c _ _ _ _ hc (Turn.putObj W3 n3.2 _), l4, d4⟩⟩
      rintro e a3 W3 hp
      cases e with
      | normal =>
        obtain ⟨O2, hk, hi3⟩ := hp
        obtain ⟨hr, l4, d4, n3, hg⟩ := fin none O2 W3 hk
        exact ⟨_, _, hr, up O2, hg, .inl ⟨rfl, O2, rfl, n3, hI _ _ _ _ hi3 (Turn.putObj W3 n3.2 _), l4, d4⟩⟩
      | ret => obtain ⟨O2, hk, hi3⟩ := hp; exact jumps _ O2 W3 hk hi3
      | exit id => obtain ⟨O2, hk, hi3⟩ := hp; exact jumps _ O2 W3 hk hi3
      | goto t => obtain ⟨O2, hk, hi3⟩ := hp; exact jumps _ O2 W3 hk hi3
      | panic ch => exact hp.elim
      | outgrown => exact hp.elim
    · rintro e W2 ⟨⟨v, rfl⟩, (⟨O', Oc, rfl, hn, hi, hl, hd⟩ | ⟨i, hlen, O', Oc, rfl, hn, c, hi, hl, hd⟩)⟩
      · exact ⟨none, _, by have := run_endLoop (P := P) hl (by rw [hrec]; simp); rw [hrec] at this; exact this, hdone _ _ _ (by omega) hn.1 (hI _ _ _ _ hi (Turn.putObj W2 hn.2 _)) ((World.putObj_heap_other (by omega)).trans hd)⟩
      · exact ⟨some c, _, by have := run_endLoop (P := P) hl (by rw [hrec]; simp); rw [hrec] at this; exact this, hstop _ c i _ _ (by omega) hn.1 hlen (hIx c _ _ _ _ hi (Turn.putObj W2 hn.2 _)) ((World.putObj_heap_other (by omega)).trans hd)⟩

end Go.Proofs.Ytckhkagkpldoiaa
namespace Go.Proofs.Ytckhkagkpldoiaa
open Go Go.RowKit Go.Shelf

/-- The caller's blocks, as an iterator that began at g0 meets them: never g0, and from g0 on cells alone. -/
structure Mine (g0 : Nat) (O : Nat → Prop) (W : World) : Prop where
  non : ¬ O g0
  lt : ∀ b, O b → b < W.heap.size
  cells : ∀ b o, g0 ≤ b → O b → W.heap[b]? = some o → o.isCells = true
theorem Mine.turn {g0 : Nat} {O : Nat → Prop} {W W' : World} (h : Mine g0 O W) (t : Turn (fun b => ¬ O b) W W') : Mine g0 O W' :=
  ⟨h.non, fun b hb => Nat.lt_of_lt_of_le (h.lt b hb) t.size, fun b o hg hb ho => h.cells b o hg hb ((t.same b (h.lt b hb) (fun e => e hb)).symm.trans ho)⟩
theorem Mine.grow {g0 : Nat} {K O O' : Nat → Prop} {W W' : World} (h : Mine g0 O W) (hg : g0 < W.heap.size) (g : Grow K O O' W W') : Mine g0 O' W' :=
  ⟨fun e => h.non (g.old _ hg e), g.new, fun b o hb ho hs => by
    cases hc : o.isCells with
    | true => rfl
    | false =>
      obtain ⟨o', h1, h2⟩ := g.cells b o ho hs hc
      rw [h.cells b o' hb (g.old b (Array.getElem?_eq_some_iff.1 h1).1 ho) h1] at h2
      cases h2⟩
/-- Deferred marks, the newest first, each a block of its own from lo on and before hi. -/
def Marks (lo : Nat) : Nat → List Deferred → World → Prop
  | _, [], _ => True
  | hi, d :: ds, W => ∃ D, d = { target := .collected D, args := #[] } ∧ lo ≤ D ∧ D < hi ∧ W.heap[D]? = some (.deferred (some [])) ∧ Marks lo D ds W
theorem Marks.same {lo : Nat} {W W' : World} : ∀ {ds : List Deferred} {hi : Nat}, Marks lo hi ds W → (∀ D, lo ≤ D → D < hi → W.heap[D]? = some (.deferred (some [])) → W'.heap[D]? = some (.deferred (some []))) → Marks lo hi ds W'
  | [], _, _, _ => trivial
  | _ :: _, _, ⟨D, h1, h2, h3, h4, h5⟩, k => ⟨D, h1, h2, h3, k D h2 h3 h4, h5.same fun E e1 e2 => k E e1 (Nat.lt_trans e2 h3)⟩
theorem Marks.up {lo hi hi' : Nat} {W : World} (h : hi ≤ hi') : ∀ {ds : List Deferred}, Marks lo hi ds W → Marks lo hi' ds W
  | [], _ => trivial
  | _ :: _, ⟨D, h1, h2, h3, h4, h5⟩ => ⟨D, h1, h2, Nat.lt_of_lt_of_le h3 h, h4, h5⟩
theorem Marks.cons {lo hi hi' D : Nat} {W : World} {ds : List Deferred} (h : Marks lo hi ds W) (h1 : hi ≤ D) (h2 : lo ≤ D) (h3 : D < hi') (h4 : W.heap[D]? = some (.deferred (some []))) : Marks lo hi' ({ target := .collected D, args := #[] } :: ds) W :=
  ⟨D, rfl, h2, h3, h4, h.up h1⟩
end Go.Proofs.Ytckhkagkpldoiaa
namespace Go.Proofs.Ytckhkagkpldoiaa
open Go Go.RowKit

theorem setCell_others {W : World} {p : Addr} {v : Value} {b : Nat} {o : Obj} (h : (W.setCell p v).heap[b]? = some o) (hc : o.isCells = false) : W.heap[b]? = some o := by
  by_cases e : b = p.block
  · subst e
    have hlt : p.block < W.heap.size := by
      have := (Array.getElem?_eq_some_iff.1 h).1
      simpa [World.setCell] using this
    have h2 : W.heap[p.block]? = some W.heap[p.block] := Array.getElem?_eq_getElem hlt
    cases hw : W.heap[p.block] with
    | cells c t f =>
      exfalso
      rw [hw] at h2
      simp only [World.setCell, Array.getElem?_modify, h2] at h
      simp at h
      rw [← h] at hc
      cases hc
    | _ =>
      rw [hw] at h2
      simp only [World.setCell, Array.getElem?_modify, h2] at h
      simp at h
      rw [h2, h]
  · exact (Below.heap_setCell W p v b e).symm.trans h
theorem Grow.refl (K : Nat → Prop) {O : Nat → Prop} {W : World} (h : ∀ b, O b → b < W.heap.size) : Grow K O O W W :=
  ⟨Nat.le_refl _, fun _ _ h => h, h, fun _ o _ h hc => ⟨o, h, hc⟩, fun _ _ _ => rfl⟩
theorem Grow.drewN {K O O' : Nat → Prop} {W W' : World} (h : Grow K O O' W W') (n : Nat) : Grow K O O' W (W'.drewN n) := ⟨h.size, h.old, h.new, h.cells, h.keep⟩
theorem Grow.setCell {K O O' : Nat → Prop} {W W' : World} (h : Grow K O O' W W') {p : Addr} (hp : W.heap.size ≤ p.block ∨ (O p.block ∧ ¬ K p.block)) (v : Value) : Grow K O O' W (W'.setCell p v) := by
  have hs : (W'.setCell p v).heap.size = W'.heap.size := by simp [World.setCell]
  refine ⟨by rw [hs]; exact h.size, h.old, fun b hb => by rw [hs]; exact h.new b hb, fun b o ho hh hc => h.cells b o ho (setCell_others hh hc) hc, fun b hb hk => ?_⟩
  refine (Below.heap_setCell W' p v b (fun e => ?_)).trans (h.keep b hb hk)
  subst e
  rcases hp with hp | ⟨h1, h2⟩
  · omega
  · exact hk.elim (fun h => h h1) h2

end Go.Proofs.Ytckhkagkpldoiaa
namespace Go.Proofs.Ytckhkagkpldoiaa
open Go

section
variable {F : Fence} {n : Nat} {P : Program} {ops : Array Oper} {md : Region.Mode} {C : World → Prop}

def noDefer (o : Oper) : Bool := match o.op with | .defer _ => false | _ => true
theorem noDefer_spec {o : Oper} (h : noDefer o = true) : ∀ c, o.op ≠ .defer c := by
  intro c hc
  unfold noDefer at h
  rw [hc] at h
  exact Bool.noConfusion (show false = true from h)

end
end Go.Proofs.Ytckhkagkpldoiaa
namespace Go.Proofs.Ytckhkagkpldoiaa
open Go

section
variable {F : Fence} {n : Nat} {P : Program} {md : Region.Mode} {C : World → Prop}

def backB (md : Region.Mode) (ops : Array Oper) (N : Nat) : Bool :=
  (List.range ops.size).all fun t => decide (t < N) || ((ops[t]?).map (·.after.all fun e => !Region.binds md e || decide (e.on < t))).getD false

/-- The tail, once all of the head has come up. -/
theorem wpAnyIn_chain {ops : Array Oper} {N : Nat} {Q : Exit → Act → World → Prop} (hc : Region.chainB md ops N = true) (hb : backB md ops N = true) : ∀ (r k fuel : Nat) (listed : Array Bool) (a : Act) (w : World),
    ops.size = k + r → N ≤ k → r ≤ fuel → listed.size = ops.size → (∀ i, i < k → listed.getD i true = true) → (∀ i, i < k → listed.getD i false = true) → (∀ i, k ≤ i → i < ops.size → listed.getD i true = false) →
    wpListIn F n P ops Q (ops.toList.drop k) a w → wpAnyIn F n P md ops Q fuel listed a w
  | 0, k, fuel, listed, a, w, hr, hN, hf, hsz, hl, hl2, hu, h => by
    have hnone : Region.ready md ops listed = [] := by
      apply List.eq_nil_iff_forall_not_mem.2
      intro j hj
      obtain ⟨h1, o, ho, _⟩ := mem_ready.1 hj
      have hjlt : j < ops.size := (Array.getElem?_eq_some_iff.1 ho).1
      rw [hl j (by omega)] at h1; cases h1
    have hd : ops.toList.drop k = [] := List.drop_eq_nil_iff.2 (by rw [Array.length_toList]; omega)
    rw [hd] at h
    cases fuel with
    | zero => exact ⟨hnone, h⟩
    | succ f => exact ⟨fun _ => h, fun i hi => by rw [hnone] at hi; cases hi⟩
  | r + 1, k, fuel, listed, a, w, hr, hN, hf, hsz, hl, hl2, hu, h => by
    obtain ⟨f, rfl⟩ : ∃ f, fuel = f + 1 := ⟨fuel - 1, by omega⟩
    have hk : k < ops.size := by omega
    have hkt : k < ops.toList.length := by rw [Array.length_toList]; exact hk
    rw [List.drop_eq_getElem_cons hkt] at h
    have hok : ops[k]? = some ops.toList[k] := by rw [Array.getElem?_eq_getElem hk, Array.getElem_toList]
    have hB := List.all_eq_true.1 hb k (List.mem_range.2 hk)
    rw [hok] at hB
    simp only [Bool.or_eq_true, decide_eq_true_eq, Option.map_some, Option.getD_some] at hB
    have hback : ∀ e ∈ ops.toList[k].after, Region.binds md e = true → e.on < k := by
      intro e he hbd
      rcases hB with h1 | h1
      · omega
      · have h2 := Array.all_eq_true'.1 h1 e he
        rw [hbd] at h2
        simpa using h2
    have hin : k ∈ Region.ready md ops listed := mem_ready.2 ⟨hu k (Nat.le_refl _) hk, _, hok, fun e he hbd => hl2 _ (hback e he hbd)⟩
    refine ⟨fun h0 => (by rw [h0] at hin; cases hin), fun j hj => ?_⟩
    obtain ⟨h1, o, ho, hall⟩ := mem_ready.1 hj
    have hjlt : j < ops.size := (Array.getElem?_eq_some_iff.1 ho).1
    have hjk : j = k := by
      rcases Nat.lt_trichotomy j k with h2 | h2 | h2
      · rw [hl j h2] at h1; cases h1
      · exact h2
      · exfalso
        have h3 := List.all_eq_true.1 hc j (List.mem_range.2 hjlt)
        simp only [Bool.or_eq_true, decide_eq_true_eq] at h3
        rcases h3 with h3 | h3
        · omega
        · obtain ⟨o', ho', e, he, hbd, hon⟩ := Region.waitsFor_spec h3
          have : o' = o := Option.some.inj (ho'.symm.trans ho)
          subst this
          have h4 := hall e he hbd
          rw [hon, getD_both (hu (j - 1) (by omega) (by omega))] at h4
          cases h4
    subst hjk
    unfold wpOpIn
    simp only [hok]
    have next : ∀ a' w', wpListIn F n P ops Q (ops.toList.drop (j + 1)) a' w' → wpAnyIn F n P md ops Q f (listed.setIfInBounds j true) a' w' := fun a' w' h' => by
      refine wpAnyIn_chain hc hb r (j + 1) f _ a' w' (by omega) (by omega) (by omega) (by simp [hsz]) ?_ ?_ ?_ h'
      · intro i hi
        by_cases hij : i = j
        · subst hij; simp [hsz, hk]
        · rw [getD_set_ne true (by omega)]; exact hl i (by omega)
      · intro i hi
        by_cases hij : i = j
        · subst hij; simp [hsz, hk]
        · rw [getD_set_ne false (by omega)]; exact hl2 i (by omega)
      · intro i hi hi2
        rw [getD_set_ne true (by omega)]; exact hu i (by omega) hi2
    simp only [wpListIn] at h
    split
    · rename_i hw; simp only [hw, if_true] at h; exact Oper.wpIn_mono next h
    · rename_i hw; simp only [hw] at h; exact ⟨h.1, next _ _ h.2⟩

end
end Go.Proofs.Ytckhkagkpldoiaa
