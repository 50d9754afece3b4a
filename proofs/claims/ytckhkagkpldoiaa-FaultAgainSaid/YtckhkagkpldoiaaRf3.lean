/- A range over a function, with the caller's blocks named: the contract of an iterator, and the law for its caller. No program in sight. -/
import Derived.Test.YtckhkagkpldoiaaRf
namespace Go.Proofs.Ytckhkagkpldoiaa
open Go Go.RowKit

/-- From O, the caller's blocks, to O' over a round: it takes up new blocks of cells alone; what is not its own, and what is in K, is kept. -/
structure Grow (K O O' : Nat → Prop) (W W' : World) : Prop where
  size : W.heap.size ≤ W'.heap.size
  old : ∀ b, b < W.heap.size → O' b → O b
  new : ∀ b, O' b → b < W'.heap.size
  cells : ∀ b o, O' b → W'.heap[b]? = some o → o.isCells = false → ∃ o' : Obj, W.heap[b]? = some o' ∧ o'.isCells = false
  keep : ∀ b, b < W.heap.size → (¬ O b ∨ K b) → W'.heap[b]? = W.heap[b]?
def StayO (J : Nat → (Nat → Prop) → World → Prop) : Prop := ∀ i O W W', J i O W → Turn (fun b => ¬ O b) W W' → J i O W'

/-- The contract of an iterator: S are its own cells that it writes, K the blocks that a round must keep. -/
def Iter3 {α : Type} (F : Fence) (n : Nat) (P : Program) (g : Nat) (lb : Array Value) (encs : α → Array Value) (xs : List α) (S K : Nat → Prop) (St : World → Prop) : Prop :=
  ∀ (l : Nat) (J Jx : Nat → (Nat → Prop) → World → Prop) (W : World) (O : Nat → Prop), St W → StayO J → StayO Jx → (∀ b, S b → ¬ O b) → (∀ b, O b → b < W.heap.size) →
    (∀ i x O1 W1, xs[i]? = some x → J i O1 W1 → W.heap.size ≤ W1.heap.size → YieldAt F (n - 1) P l (encs x) W1 fun e W' => ∃ O', Grow K O1 O' W1 W' ∧
      ((e = .returned (.bool true) ∧ J (i + 1) O' W') ∨ (e = .returned (.bool false) ∧ Jx (i + 1) O' W'))) →
    J 0 O W →
    CallsIn F n P g (#[.func (.yield l) #[] #[]] ++ lb) W fun e W' => (∃ v, e = .returned v) ∧ ((∃ O', J xs.length O' W') ∨ ∃ i, i < xs.length ∧ ∃ O', Jx (i + 1) O' W')

/-- How a round's body may be left. -/
def roundEnd3 (K : Nat → Prop) (I : Nat → (Nat → Prop) → World → Prop) (Ix : Code → Nat → (Nat → Prop) → World → Prop) (i : Nat) (O : Nat → Prop) (W : World) : Exit → Act → World → Prop
  | .normal, _, W' => ∃ O', Grow K O O' W W' ∧ I i O' W'
  | .ret, _, W' => ∃ O', Grow K O O' W W' ∧ Ix .ret i O' W'
  | .exit id, _, W' => ∃ O', Grow K O O' W W' ∧ Ix (.exit id) i O' W'
  | .goto t, _, W' => ∃ O', Grow K O O' W W' ∧ Ix (.goto t) i O' W'
  | .panic _, _, _ => False
  | .outgrown, _, _ => False

theorem iter_law3 {α : Type} {F : Fence} {n : Nat} {P : Program} {g : Operand} {ps : Array Tmp} {assign body : Code} {Q : Exit → Act → World → Prop} {a : Act} {w : World}
    (hro : F.round = none) (h1 : 1 ≤ n) {gf : Nat} {lb : Array Value} (hg : a.eval g = .func (.func gf) #[] lb) (hFg : F.fn gf) (eg : ∀ args w, (callFunc gf args).run P w = .ok (.enter gf args) w)
    {encs : α → Array Value} {xs : List α} {S K : Nat → Prop} {St : World → Prop} (hit : Iter3 F (n - 1) P gf lb encs xs S K St) (O : Nat → Prop)
    (hSt : ∀ W, (∀ b, b < w.heap.size → W.heap[b]? = w.heap[b]?) → St W) (hO : ∀ b, O b → b < w.heap.size) (hSl : ∀ b, S b → b < w.heap.size ∧ ¬ O b) (hKl : ∀ b, K b → b < w.heap.size) (hps : ∀ x, (encs x).size = ps.size)
    (I : Nat → (Nat → Prop) → World → Prop) (Ix : Code → Nat → (Nat → Prop) → World → Prop) (hI : StayO I) (hIx : ∀ c, StayO (Ix c)) (h0 : I 0 O w) (a₁ : α → Act)
    (hassign : ∀ (l : Nat) (x : α) (W : World) (Kt : Act → World → Prop), Kt (a₁ x) W →
      assign.wpIn (F.inRound l) (n - 1 - 1) P (Exit.then Kt (fun _ _ _ => False)) { tmps := (ps.zip (encs x)).foldl (fun t (p, v) => t.setIfInBounds p v) a.tmps, defers := [] } W)
    (hbody : ∀ (l i : Nat) (x : α) (O1 : Nat → Prop) (W : World), xs[i]? = some x → w.heap.size + 2 ≤ W.heap.size → I i O1 W → body.wpIn (F.inRound l) (n - 1 - 1) P (roundEnd3 K I Ix (i + 1) O1 W) (a₁ x) W)
    (hdone : ∀ (D : Nat) (O1 : Nat → Prop) (W : World), w.heap.size ≤ D → ¬ O1 D → I xs.length O1 W → W.heap[D]? = some (.deferred (some [])) → Q .normal { a with defers := { target := .collected D, args := #[] } :: a.defers } W)
    (hstop : ∀ (D : Nat) (c : Code) (i : Nat) (O1 : Nat → Prop) (W : World), w.heap.size ≤ D → ¬ O1 D → i < xs.length → Ix c (i + 1) O1 W → W.heap[D]? = some (.deferred (some [])) → c.wpIn F n P Q { a with defers := { target := .collected D, args := #[] } :: a.defers } W) :
    (Code.rangeFunc g ps assign body).wpIn F n P Q a w := by
  refine wpIn_rangeFunc ?_
  intro fn hfn
  rw [hro]
  obtain ⟨B, hB⟩ : ∃ B, w.heap.size = B := ⟨_, rfl⟩
  obtain ⟨rec, hrec⟩ : ∃ rec : LoopState → Option Code → Loop, rec = fun st pe => { state := st, pending := pe, fn, tmps := a.tmps, params := ps, assign, body, defers := B } := ⟨_, rfl⟩
  obtain ⟨V, hV⟩ : ∃ V, (w.alloc (.deferred (some []))).alloc (.loop (rec .ready none)) = V := ⟨_, rfl⟩
  have vl : V.heap[B + 1]? = some (.loop (rec .ready none)) := by
    rw [← hV, ← hB]; have := World.alloc_heap_new (w.alloc (.deferred (some []))) (.loop (rec .ready none)); rwa [World.size_alloc] at this
  have vd : V.heap[B]? = some (.deferred (some [])) := by
    rw [← hV, ← hB]; exact (Below.heap_alloc _ _ _ (by simp)).trans (World.alloc_heap_new w _)
  have vo : ∀ b, b < B → V.heap[b]? = w.heap[b]? := by
    intro b hb
    rw [← hV]; exact (Below.heap_alloc _ _ _ (by simp; omega)).trans (Below.heap_alloc _ _ _ (by omega))
  have vI : I 0 O V := by
    rw [← hV]; exact hI 0 _ _ _ (hI 0 _ _ _ h0 (Turn.alloc _ _ _)) (Turn.alloc _ _ _)
  have vs : V.heap.size = B + 2 := by rw [← hV, ← hB]; simp
  refine ⟨B + 1, [{ target := .collected B, args := #[] }], V, { target := .fn (.func gf) lb, args := #[.func (.yield (B + 1)) #[] #[]] }, V, gf,
    #[.func (.yield (B + 1)) #[] #[]] ++ lb, V, ?_, ?_, ?_, ?_, fun _ => h1, ?_⟩
  · rw [← hV, hrec, ← hB]; exact run_enterLoop_outer _ _ _ _ _
  · simp only [resolve, hg]
    simp [go_sem]
  · intro f' hf'; simp [Target.leads] at hf'; subst hf'; exact hFg
  · simp [invoke, go_sem, eg]
  · obtain ⟨up, hup⟩ : ∃ up : (Nat → Prop) → Nat → Prop, up = fun Oc b => Oc b ∨ b = B ∨ b = B + 1 := ⟨_, rfl⟩
    have kept : ∀ {Oc : Nat → Prop} {A C : World} {b : Nat} {o : Obj}, Turn (fun b => ¬ up Oc b) A C → (b = B ∨ b = B + 1) → A.heap[b]? = some o → C.heap[b]? = some o := fun {Oc A C b o} t hb ho =>
      t.heap (fun e => e (by rw [hup]; exact .inr hb)) ho
    have upT : ∀ {Oc : Nat → Prop} {A C : World}, Turn (fun b => ¬ up Oc b) A C → Turn (fun b => ¬ Oc b) A C := fun {Oc A C} t => t.mono fun b hb h => hb (by rw [hup]; exact .inl h)
    refine (hit (B + 1)
      (fun i O1 W => ∃ Oc, O1 = up Oc ∧ (¬ Oc B ∧ ¬ Oc (B + 1)) ∧ I i Oc W ∧ W.heap[B + 1]? = some (.loop (rec .ready none)) ∧ W.heap[B]? = some (.deferred (some [])))
      (fun i O1 W => ∃ Oc, O1 = up Oc ∧ (¬ Oc B ∧ ¬ Oc (B + 1)) ∧ ∃ c, Ix c i Oc W ∧ W.heap[B + 1]? = some (.loop (rec .done (some c))) ∧ W.heap[B]? = some (.deferred (some [])))
      V (up O) (hSt V (by rw [hB]; exact vo))
      (fun i O1 A C hs t => by
        obtain ⟨Oc, rfl, hn, h1, h2, h3⟩ := hs
        exact ⟨Oc, rfl, hn, hI i _ A C h1 (upT t), kept t (.inr rfl) h2, kept t (.inl rfl) h3⟩)
      (fun i O1 A C hs t => by
        obtain ⟨Oc, rfl, hn, c, h1, h2, h3⟩ := hs
        exact ⟨Oc, rfl, hn, c, hIx c i _ A C h1 (upT t), kept t (.inr rfl) h2, kept t (.inl rfl) h3⟩)
      (fun b hb h => by
        have h9 := hSl b hb
        rw [hup] at h
        rcases h with h | h | h
        · exact h9.2 h
        · omega
        · omega)
      (fun b hb => by
        rw [hup] at hb
        rcases hb with h | h | h
        · have := hO b h; omega
        · omega
        · omega)
      ?_ ⟨O, rfl, ⟨fun h => by have := hO _ h; omega, fun h => by have := hO _ h; omega⟩, vI, vl, vd⟩).mono ?_
    · rintro i x O1 W hx ⟨Oc, rfl, hn, hi, hl, hd⟩ hVW
      have hlt : B + 1 < W.heap.size := (Array.getElem?_eq_some_iff.1 hl).1
      have hy := run_yield (P := P) (args := encs x) hl (by rw [hrec]; exact hps x)
      rw [hrec] at hy
      refine ⟨fn, _, assign, body, hy, roundIn_of_wpIn hfn (hassign _ x W _ ⟨_, run_beginRound hl (by rw [hrec]), ?_⟩)⟩
      obtain ⟨U, hU⟩ : ∃ U, W.putObj (B + 1) (.loop { rec .ready none with state := .busy }) = U := ⟨_, rfl⟩
      have ul : U.heap[B + 1]? = some (.loop { rec .ready none with state := .busy }) := by rw [← hU]; exact World.putObj_heap_same hlt
      have ud : U.heap[B]? = some (.deferred (some [])) := by rw [← hU]; exact (World.putObj_heap_other (by omega)).trans hd
      have uI : I i Oc U := by rw [← hU]; exact hI i _ _ _ hi (Turn.putObj W hn.2 _)
      have us : U.heap.size = W.heap.size := by rw [← hU]; simp [World.putObj]
      have uo : ∀ b, b ≠ B + 1 → U.heap[b]? = W.heap[b]? := fun b hb => by rw [← hU]; exact World.putObj_heap_other hb
      rw [hU]
      refine wpIn_mono (hbody _ i x Oc U hx (by omega) uI) ?_
      have fin : ∀ (jump : Option Code) (O2 : Nat → Prop) (W3 : World), Grow K Oc O2 U W3 →
          (Instr.endRound (B + 1) jump).run P W3 = .ok (.bool jump.isNone) (W3.putObj (B + 1) (.loop (rec (if jump.isNone then .ready else .done) jump))) ∧
          (W3.putObj (B + 1) (.loop (rec (if jump.isNone then .ready else .done) jump))).heap[B + 1]? = some (.loop (rec (if jump.isNone then .ready else .done) jump)) ∧
          (W3.putObj (B + 1) (.loop (rec (if jump.isNone then .ready else .done) jump))).heap[B]? = some (.deferred (some [])) ∧
          (¬ O2 B ∧ ¬ O2 (B + 1)) ∧ Grow K (up Oc) (up O2) W (W3.putObj (B + 1) (.loop (rec (if jump.isNone then .ready else .done) jump))) := fun jump O2 W3 hk => by
        have l3 : W3.heap[B + 1]? = some (.loop { rec .ready none with state := .busy }) := (hk.keep (B + 1) (by omega) (.inl hn.2)).trans ul
        have d3 : W3.heap[B]? = some (.deferred (some [])) := (hk.keep B (by omega) (.inl hn.1)).trans ud
        have n3 : ¬ O2 B ∧ ¬ O2 (B + 1) := ⟨fun h => hn.1 (hk.old _ (by omega) h), fun h => hn.2 (hk.old _ (by omega) h)⟩
        have hr := run_endRound (P := P) jump l3
        rw [hrec] at hr ⊢
        rw [hrec] at l3
        have hsz : ∀ o, (W3.putObj (B + 1) o).heap.size = W3.heap.size := fun o => by simp [World.putObj]
        have hks := hk.size
        refine ⟨hr, World.putObj_heap_same (Array.getElem?_eq_some_iff.1 l3).1, (World.putObj_heap_other (by omega)).trans d3, n3, ⟨by rw [hsz]; omega, ?_, ?_, ?_, ?_⟩⟩
        · intro b hb h
          rw [hup] at h ⊢
          exact h.elim (fun h => .inl (hk.old b (by omega) h)) .inr
        · intro b h
          rw [hup] at h
          rw [hsz]
          rcases h with h | h | h
          · exact hk.new b h
          · omega
          · omega
        · intro b o h ho hc
          rw [hup] at h
          rcases Nat.decEq b (B + 1) with hne | rfl
          · rcases h with h | rfl | h
            · obtain ⟨o', h1, h2⟩ := hk.cells b o h ((World.putObj_heap_other hne).symm.trans ho) hc
              exact ⟨o', (uo b hne).symm.trans h1, h2⟩
            · exact ⟨_, hd, rfl⟩
            · exact absurd h hne
          · exact ⟨_, hl, rfl⟩
        · intro b hb h
          have hne : b ≠ B + 1 := by
            rintro rfl
            rcases h with h | h
            · exact h (by rw [hup]; exact .inr (.inr rfl))
            · have := hKl _ h; omega
          refine (World.putObj_heap_other hne).trans ((hk.keep b (by omega) ?_).trans (uo b hne))
          rcases h with h | h
          · exact .inl fun e => h (by rw [hup]; exact .inl e)
          · exact .inr h
      have jumps : ∀ (c : Code) (O2 : Nat → Prop) (W3 : World), Grow K Oc O2 U W3 → Ix c (i + 1) O2 W3 → ∃ v w', (Instr.endRound (B + 1) (some c)).run P W3 = .ok v w' ∧ ∃ O', Grow K (up Oc) O' W w' ∧
          ((Ending.returned v = .returned (.bool true) ∧ ∃ Oc', O' = up Oc' ∧ (¬ Oc' B ∧ ¬ Oc' (B + 1)) ∧ I (i + 1) Oc' w' ∧ w'.heap[B + 1]? = some (.loop (rec .ready none)) ∧ w'.heap[B]? = some (.deferred (some []))) ∨
           (Ending.returned v = .returned (.bool false) ∧ ∃ Oc', O' = up Oc' ∧ (¬ Oc' B ∧ ¬ Oc' (B + 1)) ∧ ∃ c, Ix c (i + 1) Oc' w' ∧ w'.heap[B + 1]? = some (.loop (rec .done (some c))) ∧ w'.heap[B]? = some (.deferred (some [])))) := fun c O2 W3 hk hc => by
        obtain ⟨hr, l4, d4, n3, hg⟩ := fin (some c) O2 W3 hk
        exact ⟨_, _, hr, up O2, hg, .inr ⟨rfl, O2, rfl, n3, c, hIx c _ _ _ _ hc (Turn.putObj W3 n3.2 _), l4, d4⟩⟩
      rintro e a3 W3 hp
      cases e with
      | normal =>
        obtain ⟨O2, hk, hi3⟩ := hp
        obtain ⟨hr, l4, d4, n3, hg⟩ := fin none O2 W3 hk
        exact ⟨_, _, hr, up O2, hg, .inl ⟨rfl, O2, rfl, n3, hI _ _ _ _ hi3 (Turn.putObj W3 n3.2 _), l4, d4⟩⟩
      | ret => obtain ⟨O2, hk, hi3⟩ := hp; exact jumps _ O2 W3 hk hi3
      | exit id => obtain ⟨O2, hk, hi3⟩ := hp; exact jumps _ O2 W3 hk hi3
      | goto t => obtain ⟨O2, hk, hi3⟩ := hp; exact jumps _ O2 W3 hk hi3
      | panic ch => exact hp.elim
      | outgrown => exact hp.elim
    · rintro e W2 ⟨⟨v, rfl⟩, (⟨O', Oc, rfl, hn, hi, hl, hd⟩ | ⟨i, hlen, O', Oc, rfl, hn, c, hi, hl, hd⟩)⟩
      · exact ⟨none, _, by have := run_endLoop (P := P) hl (by rw [hrec]; simp); rw [hrec] at this; exact this, hdone _ _ _ (by omega) hn.1 (hI _ _ _ _ hi (Turn.putObj W2 hn.2 _)) ((World.putObj_heap_other (by omega)).trans hd)⟩
      · exact ⟨some c, _, by have := run_endLoop (P := P) hl (by rw [hrec]; simp); rw [hrec] at this; exact this, hstop _ c i _ _ (by omega) hn.1 hlen (hIx c _ _ _ _ hi (Turn.putObj W2 hn.2 _)) ((World.putObj_heap_other (by omega)).trans hd)⟩

/-- An iterator by the elder contract. -/
theorem Iter.to3 {α : Type} {F : Fence} {n : Nat} {P : Program} {g : Nat} {lb : Array Value} {encs : α → Array Value} {xs : List α} {S K : Nat → Prop} {St : World → Prop}
    (h : Iter F n P g lb encs xs S K St) (hSK : ∀ b, S b → K b) (hKl : ∀ W, St W → ∀ b, K b → b < W.heap.size) : Iter3 F n P g lb encs xs S K St := by
  intro l J Jx W O hSt hJ hJx hS hO hY h0
  refine (h l (fun i W1 => ∃ O1, J i O1 W1 ∧ (∀ b, S b → ¬ O1 b) ∧ W.heap.size ≤ W1.heap.size) (fun i W1 => ∃ O1, Jx i O1 W1 ∧ (∀ b, S b → ¬ O1 b)) W hSt ?_ ?_ ?_ ⟨O, h0, hS, Nat.le_refl _⟩).mono ?_
  · rintro i A B ⟨O1, h1, h2, h3⟩ t
    exact ⟨O1, hJ _ _ _ _ h1 (t.mono h2), h2, Nat.le_trans h3 t.size⟩
  · rintro i A B ⟨O1, h1, h2⟩ t
    exact ⟨O1, hJx _ _ _ _ h1 (t.mono h2), h2⟩
  · rintro i x W1 hx ⟨O1, h1, h2, h3⟩
    obtain ⟨fn, tmps, assign, body, hy, hR⟩ := hY i x O1 W1 hx h1 h3
    refine ⟨fn, tmps, assign, body, hy, hR.mono ?_⟩
    rintro e W' ⟨O', hg, (⟨rfl, hj⟩ | ⟨rfl, hj⟩)⟩
    · have hk : ∀ b, K b → b < W1.heap.size := fun b hb => Nat.lt_of_lt_of_le (hKl W hSt b hb) h3
      exact .inl ⟨rfl, ⟨O', hj, fun b hb ho => h2 b hb (hg.old b (hk b (hSK b hb)) ho), Nat.le_trans h3 hg.size⟩, hg.size, fun b hb => hg.keep b (hk b hb) (.inr hb)⟩
    · have hk : ∀ b, K b → b < W1.heap.size := fun b hb => Nat.lt_of_lt_of_le (hKl W hSt b hb) h3
      exact .inr ⟨rfl, O', hj, fun b hb ho => h2 b hb (hg.old b (hk b (hSK b hb)) ho)⟩
  · rintro e W' ⟨hv, (⟨O', hj, _⟩ | ⟨i, hi, O', hj, _⟩)⟩
    · exact ⟨hv, .inl ⟨O', hj⟩⟩
    · exact ⟨hv, .inr ⟨i, hi, O', hj⟩⟩
end Go.Proofs.Ytckhkagkpldoiaa
